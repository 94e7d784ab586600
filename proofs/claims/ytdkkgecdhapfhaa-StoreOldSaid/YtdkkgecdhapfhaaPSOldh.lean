/- A part of the proof of StoreOld: cut, joined and given short names by a program of this session (wip/tools/pack.py); Lean checks it. No condition. -/
import Derived.Test.YtdkkgecdhapfhaaPSOldg
import Derived.Test.YtdkkgecdhapfhaaPSOldd
set_option linter.unusedSectionVars false
set_option linter.unusedSimpArgs false
set_option linter.unusedVariables false
namespace Go.Proofs.Ytdkkgecdhapfhaa.Ka
open Go Ev
def c3 : CF := ⟨2, [(.t 4)], [], [], (.seq (.reg [⟨some 4, none, .mv (.k (.one (.f (.bool false))))⟩] [0, 1]) (.seq (.seq (.reg [⟨some 22, none, .mv (.t 1)⟩, ⟨some 23, none, .call false 14 [(.t 22), (.k (.one (.f (.int .i64 60))))]⟩, ⟨some 24, none, .no (.t 23)⟩] [0, 1, 24]) (.cond (.t 24) (.seq (.reg [⟨some 25, none, .call false 15 []⟩, ⟨some 4, none, .mv (.t 25)⟩] [4]) .ret) .skip)) (.seq (.reg [⟨some 26, none, .mv (.t 0)⟩, ⟨some 27, none, .call false 16 [(.t 26)]⟩, ⟨some 5, none, .mv (.t 27)⟩] [0, 1, 5]) (.seq (.reg [⟨some 28, none, .mv (.t 0)⟩, ⟨some 29, none, .call false 17 [(.t 28)]⟩, ⟨some 6, none, .alloc 29 [(.f (.int .i64 0)), .fG, (.f (.int .i64 0))]⟩, ⟨none, none, (.store 3 (.t 6) (.t 29))⟩] [1, 5, 6]) (.seq (.seq (.reg [⟨some 30, none, .mv (.t 5)⟩, ⟨some 31, none, .mU false (.t 30)⟩, ⟨some 32, none, .fa 0 (.t 6)⟩, ⟨some 33, none, .load 1 false (.t 32)⟩, ⟨some 34, none, .cmp .eq (.t 33) (.k (.one (.f (.int .i64 0))))⟩, ⟨some 35, none, .tY (.one .bool) true (.t 31) (.t 34)⟩] [1, 5, 6, 35]) (.cond (.t 35) (.seq (.reg [⟨some 4, none, .mv (.k (.one (.f (.bool false))))⟩] [4]) .ret) .skip)) (.seq (.seq (.reg [⟨some 7, none, .mv (.k (.one (.f (.int .i64 0))))⟩] [1, 5, 6, 7]) (.block 0 (.loop [1, 5, 6, 7] [40202, 140000, 560200, 560204, 560206, 600400, 1180400, 1640400, 1642800, 2920400] [] (.seq (.seq (.reg [⟨some 36, none, .mv (.t 7)⟩, ⟨some 37, none, .mv (.t 1)⟩, ⟨some 38, none, .iZ (.t 37)⟩, ⟨some 39, none, .cmp .lt (.t 36) (.t 38)⟩] [1, 5, 6, 7, 39]) (.cond (.t 39) .skip (.exit 0))) (.seq (.block 1 (.seq (.reg [⟨some 42, none, .mv (.t 1)⟩, ⟨some 43, none, .mv (.t 7)⟩, ⟨some 44, none, .ia 8 (.t 42) (.t 43)⟩, ⟨some 45, none, .load 8 true (.t 44)⟩, ⟨(some 8), none, (.alloc 37 [(.f (.int .i64 0)), (.f (.int .i64 0)), (.f (.str ⟨#[]⟩)), (.f (.int .i64 0)), (.f (.int .i64 0)), .fG, (.f (.int .i64 0)), (.f (.int .i64 0))])⟩, ⟨none, none, (.store 8 (.t 8) (.t 45))⟩] [1, 5, 6, 7, 8]) (.seq (.seq (.reg [⟨some 46, none, .fa 0 (.t 8)⟩, ⟨some 47, none, .load 1 false (.t 46)⟩] [1, 5, 6, 7, 8, 47]) (.block 2 (.seq (.reg [⟨some 49, none, .cmp .eq (.t 47) (.k (.one (.f (.int .i64 0))))⟩, ⟨some 48, none, .mv (.t 49)⟩] [1, 5, 6, 7, 8, 47, 48]) (.cond (.t 48) (.seq (.reg [⟨some 51, none, .load 3 true (.t 6)⟩, ⟨some 52, none, .fa 1 (.t 8)⟩, ⟨some 53, none, .load 1 false (.t 52)⟩, ⟨some 54, none, .fa 2 (.t 8)⟩, ⟨some 55, none, .load 5 true (.t 54)⟩, ⟨some 56, none, .fa 7 (.t 8)⟩, ⟨some 57, none, .load 1 false (.t 56)⟩, ⟨some 58, none, .call false 18 [(.t 51), (.t 53), (.t 55), (.t 57)]⟩, ⟨some 50, none, .mv (.t 58)⟩, ⟨some 59, none, .ext (.t 50) 0⟩, ⟨some 60, none, .ext (.t 50) 1⟩, ⟨some 9, none, .alloc 29 [(.f (.int .i64 0)), .fG, (.f (.int .i64 0))]⟩, ⟨none, none, (.store 3 (.t 9) (.t 59))⟩, ⟨some 10, none, .mv (.t 60)⟩] [1, 5, 6, 7, 8, 9, 10]) (.seq (.reg [⟨some 61, none, .load 3 true (.t 9)⟩, ⟨none, none, (.store 3 (.t 6) (.t 61))⟩] [1, 5, 6, 7, 8, 10]) (.seq (.reg [⟨some 62, none, .mv (.t 5)⟩, ⟨some 63, none, .fa 1 (.t 8)⟩, ⟨some 64, none, .load 1 false (.t 63)⟩, ⟨some 65, none, .fa 2 (.t 8)⟩, ⟨some 66, none, .load 5 true (.t 65)⟩, ⟨some 67, none, .fa 7 (.t 8)⟩, ⟨some 68, none, .load 1 false (.t 67)⟩, ⟨some 69, none, .call false 19 [(.t 62), (.t 64), (.t 66), (.t 68)]⟩, ⟨some 70, none, .mv (.t 10)⟩, ⟨some 71, none, .cmp .ne (.t 69) (.t 70)⟩] [1, 5, 6, 7, 71]) (.cond (.t 71) (.seq (.reg [⟨some 4, none, .mv (.k (.one (.f (.bool false))))⟩] [4]) .ret) .skip)))) (.seq (.reg [⟨some 73, none, .cmp .eq (.t 47) (.k (.one (.f (.int .i64 1))))⟩, ⟨some 72, none, .mv (.t 73)⟩] [1, 5, 6, 7, 8, 47, 72]) (.cond (.t 72) (.seq (.reg [⟨some 75, none, .load 3 true (.t 6)⟩, ⟨some 76, none, .fa 1 (.t 8)⟩, ⟨some 77, none, .load 1 false (.t 76)⟩, ⟨some 78, none, .fa 2 (.t 8)⟩, ⟨some 79, none, .fa 0 (.t 78)⟩, ⟨some 80, none, .load 3 true (.t 79)⟩, ⟨some 81, none, .call false 20 [(.t 75), (.t 77), (.t 80)]⟩, ⟨some 74, none, .mv (.t 81)⟩, ⟨some 82, none, .ext (.t 74) 0⟩, ⟨some 83, none, .ext (.t 74) 1⟩, ⟨some 84, none, .ext (.t 74) 2⟩, ⟨some 11, none, .alloc 29 [(.f (.int .i64 0)), .fG, (.f (.int .i64 0))]⟩, ⟨(some 12), none, (.alloc 43 [(.f (.str ⟨#[]⟩)), (.f (.int .i64 0)), (.f (.int .i64 0)), .fG, (.f (.int .i64 0)), (.f (.int .i64 0)), (.f (.int .i64 0))])⟩, ⟨none, none, (.store 3 (.t 11) (.t 82))⟩, ⟨none, none, (.store 7 (.t 12) (.t 83))⟩, ⟨some 13, none, .mv (.t 84)⟩] [1, 5, 6, 7, 8, 11, 12, 13]) (.seq (.reg [⟨some 85, none, .load 3 true (.t 11)⟩, ⟨none, none, (.store 3 (.t 6) (.t 85))⟩] [1, 5, 6, 7, 8, 12, 13]) (.seq (.reg [⟨some 87, none, .mv (.t 5)⟩, ⟨some 88, none, .fa 1 (.t 8)⟩, ⟨some 89, none, .load 1 false (.t 88)⟩, ⟨some 90, none, .fa 2 (.t 8)⟩, ⟨some 91, none, .fa 0 (.t 90)⟩, ⟨some 92, none, .load 3 true (.t 91)⟩, ⟨some 93, none, .call false 21 [(.t 87), (.t 89), (.t 92)]⟩, ⟨some 86, none, .mv (.t 93)⟩, ⟨some 94, none, .ext (.t 86) 0⟩, ⟨some 95, none, .ext (.t 86) 1⟩, ⟨(some 14), none, (.alloc 46 [(.f (.str ⟨#[]⟩)), (.f (.int .i64 0)), (.f (.int .i64 0)), .fG, (.f (.int .i64 0)), (.f (.int .i64 0)), (.f (.int .i64 0))])⟩, ⟨none, none, (.store 7 (.t 14) (.t 94))⟩, ⟨some 15, none, .mv (.t 95)⟩] [1, 5, 6, 7, 12, 13, 14, 15]) (.seq (.rA [⟨⟨some 96, none, .mv (.t 13)⟩, []⟩, ⟨⟨some 97, none, .mv (.t 15)⟩, []⟩, ⟨⟨some 98, none, .tY (.one .bool) true (.t 96) (.t 97)⟩, []⟩, ⟨⟨some 99, none, .mv (.t 98)⟩, []⟩, ⟨⟨(some 100), (some ⟨(some 99), false⟩), (.load 7 true (.t 14))⟩, []⟩, ⟨⟨(some 101), (some ⟨(some 99), false⟩), (.call false 23 [(.t 100)])⟩, []⟩, ⟨⟨(some 102), (some ⟨(some 99), false⟩), (.load 7 true (.t 12))⟩, []⟩] [] [] [⟨(some 103), (some ⟨(some 99), false⟩), (.call false 22 [(.t 101), (.t 102)])⟩, ⟨(some 104), (some ⟨(some 99), false⟩), (.no (.t 103))⟩, ⟨some 105, none, .pick (.t 99) (.k (.one (.f (.bool true)))) (.t 104)⟩] [1, 5, 6, 7, 105]) (.cond (.t 105) (.seq (.reg [⟨some 4, none, .mv (.k (.one (.f (.bool false))))⟩] [4]) .ret) .skip))))) (.seq (.reg [⟨some 107, none, .cmp .eq (.t 47) (.k (.one (.f (.int .i64 2))))⟩, ⟨some 106, none, .mv (.t 107)⟩] [1, 5, 6, 7, 8, 47, 106]) (.cond (.t 106) (.seq (.reg [⟨some 109, none, .load 3 true (.t 6)⟩, ⟨some 110, none, .fa 1 (.t 8)⟩, ⟨some 111, none, .load 1 false (.t 110)⟩, ⟨some 112, none, .fa 2 (.t 8)⟩, ⟨some 113, none, .fa 0 (.t 112)⟩, ⟨some 114, none, .load 3 true (.t 113)⟩, ⟨some 115, none, .call false 24 [(.t 109), (.t 111), (.t 114)]⟩, ⟨some 108, none, .mv (.t 115)⟩, ⟨some 116, none, .ext (.t 108) 0⟩, ⟨some 117, none, .ext (.t 108) 1⟩, ⟨(some 16), none, (.alloc 43 [(.f (.str ⟨#[]⟩)), (.f (.int .i64 0)), (.f (.int .i64 0)), .fG, (.f (.int .i64 0)), (.f (.int .i64 0)), (.f (.int .i64 0))])⟩, ⟨none, none, (.store 7 (.t 16) (.t 116))⟩, ⟨some 17, none, .mv (.t 117)⟩] [1, 5, 6, 7, 8, 16, 17]) (.seq (.reg [⟨some 119, none, .mv (.t 5)⟩, ⟨some 120, none, .fa 1 (.t 8)⟩, ⟨some 121, none, .load 1 false (.t 120)⟩, ⟨some 122, none, .fa 2 (.t 8)⟩, ⟨some 123, none, .fa 0 (.t 122)⟩, ⟨some 124, none, .load 3 true (.t 123)⟩, ⟨some 125, none, .call false 25 [(.t 119), (.t 121), (.t 124)]⟩, ⟨some 118, none, .mv (.t 125)⟩, ⟨some 126, none, .ext (.t 118) 0⟩, ⟨some 127, none, .ext (.t 118) 1⟩, ⟨(some 18), none, (.alloc 46 [(.f (.str ⟨#[]⟩)), (.f (.int .i64 0)), (.f (.int .i64 0)), .fG, (.f (.int .i64 0)), (.f (.int .i64 0)), (.f (.int .i64 0))])⟩, ⟨none, none, (.store 7 (.t 18) (.t 126))⟩, ⟨some 19, none, .mv (.t 127)⟩] [1, 5, 6, 7, 16, 17, 18, 19]) (.seq (.rA [⟨⟨some 128, none, .mv (.t 17)⟩, []⟩, ⟨⟨some 129, none, .mv (.t 19)⟩, []⟩, ⟨⟨some 130, none, .tY (.one .bool) true (.t 128) (.t 129)⟩, []⟩, ⟨⟨some 131, none, .mv (.t 130)⟩, []⟩, ⟨⟨(some 132), (some ⟨(some 131), false⟩), (.load 7 true (.t 18))⟩, []⟩, ⟨⟨(some 133), (some ⟨(some 131), false⟩), (.call false 23 [(.t 132)])⟩, []⟩, ⟨⟨(some 134), (some ⟨(some 131), false⟩), (.load 7 true (.t 16))⟩, []⟩] [] [] [⟨(some 135), (some ⟨(some 131), false⟩), (.call false 22 [(.t 133), (.t 134)])⟩, ⟨(some 136), (some ⟨(some 131), false⟩), (.no (.t 135))⟩, ⟨some 137, none, .pick (.t 131) (.k (.one (.f (.bool true)))) (.t 136)⟩] [1, 5, 6, 7, 137]) (.cond (.t 137) (.seq (.reg [⟨some 4, none, .mv (.k (.one (.f (.bool false))))⟩] [4]) .ret) .skip)))) (.seq (.reg [⟨some 139, none, .cmp .eq (.t 47) (.k (.one (.f (.int .i64 3))))⟩, ⟨some 138, none, .mv (.t 139)⟩] [1, 5, 6, 7, 8, 138]) (.cond (.t 138) (.seq (.reg [⟨some 141, none, .load 3 true (.t 6)⟩, ⟨some 142, none, .fa 2 (.t 8)⟩, ⟨some 143, none, .fa 0 (.t 142)⟩, ⟨some 144, none, .load 3 true (.t 143)⟩, ⟨some 145, none, .call false 26 [(.t 141), (.t 144)]⟩, ⟨some 140, none, .mv (.t 145)⟩, ⟨some 146, none, .ext (.t 140) 0⟩, ⟨some 147, none, .ext (.t 140) 1⟩, ⟨some 20, none, .alloc 29 [(.f (.int .i64 0)), .fG, (.f (.int .i64 0))]⟩, ⟨none, none, (.store 3 (.t 20) (.t 146))⟩, ⟨some 21, none, .mv (.t 147)⟩] [1, 5, 6, 7, 8, 20, 21]) (.seq (.reg [⟨some 148, none, .load 3 true (.t 20)⟩, ⟨none, none, (.store 3 (.t 6) (.t 148))⟩] [1, 5, 6, 7, 8, 21]) (.seq (.reg [⟨some 149, none, .mv (.t 5)⟩, ⟨some 150, none, .fa 2 (.t 8)⟩, ⟨some 151, none, .fa 0 (.t 150)⟩, ⟨some 152, none, .load 3 true (.t 151)⟩, ⟨some 153, none, .call false 27 [(.t 149), (.t 152)]⟩, ⟨some 154, none, .mv (.t 21)⟩, ⟨some 155, none, .tY (.one .bool) true (.t 153) (.t 154)⟩] [1, 5, 6, 7, 155]) (.cond (.t 155) (.seq (.reg [⟨some 4, none, .mv (.k (.one (.f (.bool false))))⟩] [4]) .ret) .skip)))) .skip)))))))))) (.seq (.any [⟨some 156, none, .mv (.t 5)⟩, ⟨some 157, none, .call false 29 [(.t 156)]⟩, ⟨some 158, none, .load 3 true (.t 6)⟩, ⟨some 159, none, .call false 30 [(.t 158)]⟩, ⟨some 160, none, .call false 28 [(.t 157), (.t 159)]⟩, ⟨some 161, none, .no (.t 160)⟩, ⟨some 162, none, .mv (.t 161)⟩, ⟨(some 163), (some ⟨(some 162), false⟩), (.mv (.t 5))⟩, ⟨(some 164), (some ⟨(some 162), false⟩), (.call false 31 [(.t 163)])⟩, ⟨(some 165), (some ⟨(some 162), false⟩), (.fa 2 (.t 6))⟩, ⟨(some 166), (some ⟨(some 162), false⟩), (.load 1 false (.t 165))⟩, ⟨(some 167), (some ⟨(some 162), false⟩), (.cmp .ne (.t 164) (.t 166))⟩, ⟨some 168, none, .pick (.t 162) (.k (.one (.f (.bool true)))) (.t 167)⟩] [[0, 1, 2, 3, 4, 5, 6, 7, 9, 8, 10, 11, 12], [0, 1, 2, 3, 4, 5, 6, 7, 9, 10, 8, 11, 12], [0, 2, 1, 3, 4, 5, 6, 7, 9, 8, 10, 11, 12], [0, 2, 1, 3, 4, 5, 6, 7, 9, 10, 8, 11, 12]] [1, 5, 6, 7, 168] [40202, 140000, 560200, 560204, 560206, 600400, 1180400, 1640400, 1642800, 2920400]) (.cond (.t 168) (.seq (.reg [⟨some 4, none, .mv (.k (.one (.f (.bool false))))⟩] [4]) .ret) .skip))))) (.reg [⟨some 40, none, .mv (.t 7)⟩, ⟨some 41, none, .ar .add (.t 40) (.k (.one (.f (.int .i64 1))))⟩, ⟨some 7, none, .mv (.t 41)⟩] [1, 5, 6, 7])))))) (.seq (.reg [⟨some 169, none, .call false 15 []⟩, ⟨some 4, none, .mv (.t 169)⟩] [4]) .ret)))))))⟩
def c4 : CF := ⟨2, [(.t 4)], [], [], (.seq (.reg [⟨some 4, none, .mv (.k (.one (.f (.bool false))))⟩] [0, 1]) (.seq (.seq (.reg [⟨some 13, none, .mv (.t 1)⟩, ⟨some 14, none, .call false 14 [(.t 13), (.k (.one (.f (.int .i64 60))))]⟩, ⟨some 15, none, .no (.t 14)⟩, ⟨some 16, none, .mv (.t 15)⟩, ⟨(some 17), (some ⟨(some 16), false⟩), (.mv (.t 0))⟩, ⟨(some 18), (some ⟨(some 16), false⟩), (.cmp .lt (.t 17) (.k (.one (.f (.int .i64 1)))))⟩, ⟨some 19, none, .pick (.t 16) (.k (.one (.f (.bool true)))) (.t 18)⟩, ⟨some 20, none, .mv (.t 19)⟩, ⟨(some 21), (some ⟨(some 20), false⟩), (.mv (.t 0))⟩, ⟨(some 22), (some ⟨(some 20), false⟩), (.cmp .gt (.t 21) (.k (.one (.f (.int .i64 1000)))))⟩, ⟨some 23, none, .pick (.t 20) (.k (.one (.f (.bool true)))) (.t 22)⟩] [0, 1, 23]) (.cond (.t 23) (.seq (.reg [⟨some 24, none, .call false 15 []⟩, ⟨some 4, none, .mv (.t 24)⟩] [4]) .ret) .skip)) (.seq (.reg [⟨some 25, none, .mv (.t 0)⟩, ⟨some 26, none, .call false 16 [(.t 25)]⟩, ⟨some 5, none, .mv (.t 26)⟩] [0, 1, 5]) (.seq (.seq (.reg [⟨some 27, none, .mv (.t 5)⟩, ⟨some 28, none, .mU false (.t 27)⟩] [0, 1, 5, 28]) (.cond (.t 28) (.seq (.reg [⟨some 4, none, .mv (.k (.one (.f (.bool false))))⟩] [4]) .ret) .skip)) (.seq (.reg [⟨some 6, none, .mv (.k (.one .fG))⟩] [0, 1, 5, 6]) (.seq (.seq (.reg [⟨some 7, none, .mv (.k (.one (.f (.int .i64 0))))⟩] [0, 1, 5, 6, 7]) (.block 0 (.loop [0, 1, 5, 6, 7] [40202, 140000, 540200, 540204, 540206] [⟨6, 5⟩] (.seq (.seq (.reg [⟨some 29, none, .mv (.t 7)⟩, ⟨some 30, none, .mv (.t 1)⟩, ⟨some 31, none, .iZ (.t 30)⟩, ⟨some 32, none, .cmp .lt (.t 29) (.t 31)⟩] [0, 1, 5, 6, 7, 32]) (.cond (.t 32) .skip (.exit 0))) (.seq (.block 1 (.seq (.reg [⟨some 35, none, .mv (.t 1)⟩, ⟨some 36, none, .mv (.t 7)⟩, ⟨some 37, none, .ia 8 (.t 35) (.t 36)⟩, ⟨some 38, none, .load 8 true (.t 37)⟩, ⟨(some 8), none, (.alloc 37 [(.f (.int .i64 0)), (.f (.int .i64 0)), (.f (.str ⟨#[]⟩)), (.f (.int .i64 0)), (.f (.int .i64 0)), .fG, (.f (.int .i64 0)), (.f (.int .i64 0))])⟩, ⟨none, none, (.store 8 (.t 8) (.t 38))⟩] [0, 1, 5, 6, 7, 8]) (.seq (.seq (.reg [⟨some 39, none, .fa 0 (.t 8)⟩, ⟨some 40, none, .load 1 false (.t 39)⟩, ⟨some 41, none, .cmp .ne (.t 40) (.k (.one (.f (.int .i64 0))))⟩] [0, 1, 5, 6, 7, 8, 41]) (.cond (.t 41) (.seq (.reg [⟨some 43, none, .mv (.t 5)⟩, ⟨some 44, none, .fa 1 (.t 8)⟩, ⟨some 45, none, .load 1 false (.t 44)⟩, ⟨some 46, none, .fa 2 (.t 8)⟩, ⟨some 47, none, .fa 0 (.t 46)⟩, ⟨some 48, none, .load 3 true (.t 47)⟩, ⟨some 49, none, .call false 21 [(.t 43), (.t 45), (.t 48)]⟩, ⟨some 42, none, .mv (.t 49)⟩, ⟨some 50, none, .ext (.t 42) 0⟩, ⟨some 51, none, .ext (.t 42) 1⟩, ⟨(some 9), none, (.alloc 46 [(.f (.str ⟨#[]⟩)), (.f (.int .i64 0)), (.f (.int .i64 0)), .fG, (.f (.int .i64 0)), (.f (.int .i64 0)), (.f (.int .i64 0))])⟩, ⟨none, none, (.store 7 (.t 9) (.t 50))⟩, ⟨some 10, none, .mv (.t 51)⟩] [0, 1, 5, 6, 7, 8, 9, 10]) (.seq (.any [⟨some 52, none, .mv (.t 10)⟩, ⟨some 53, none, .mv (.t 52)⟩, ⟨(some 54), (some ⟨(some 53), true⟩), (.fa 5 (.t 9))⟩, ⟨(some 55), (some ⟨(some 53), true⟩), (.load 1 false (.t 54))⟩, ⟨(some 56), (some ⟨(some 53), true⟩), (.fa 1 (.t 8))⟩, ⟨(some 57), (some ⟨(some 53), true⟩), (.load 1 false (.t 56))⟩, ⟨(some 58), (some ⟨(some 53), true⟩), (.cmp .le (.t 55) (.t 57))⟩, ⟨(some 59), (some ⟨(some 53), true⟩), (.mv (.t 58))⟩, ⟨(some 60), (some ⟨(some 59), false⟩), (.fa 0 (.t 9))⟩, ⟨(some 61), (some ⟨(some 59), false⟩), (.fa 0 (.t 60))⟩, ⟨(some 62), (some ⟨(some 59), false⟩), (.load 3 true (.t 61))⟩, ⟨(some 63), (some ⟨(some 59), false⟩), (.fa 2 (.t 8))⟩, ⟨(some 64), (some ⟨(some 59), false⟩), (.fa 0 (.t 63))⟩, ⟨(some 65), (some ⟨(some 59), false⟩), (.load 3 true (.t 64))⟩, ⟨(some 66), (some ⟨(some 59), false⟩), (.tY (.agg [.str, (.int .i64), (.int .i64)]) true (.t 62) (.t 65))⟩, ⟨(some 67), (some ⟨(some 53), true⟩), (.pick (.t 59) (.k (.one (.f (.bool true)))) (.t 66))⟩, ⟨(some 68), (some ⟨(some 53), true⟩), (.mv (.t 67))⟩, ⟨(some 69), (some ⟨(some 68), false⟩), (.fa 0 (.t 9))⟩, ⟨(some 70), (some ⟨(some 68), false⟩), (.load 5 true (.t 69))⟩, ⟨(some 71), (some ⟨(some 68), false⟩), (.mv (.t 6))⟩, ⟨(some 72), (some ⟨(some 68), false⟩), (.fa 2 (.t 8))⟩, ⟨(some 73), (some ⟨(some 68), false⟩), (.fa 0 (.t 72))⟩, ⟨(some 74), (some ⟨(some 68), false⟩), (.load 3 true (.t 73))⟩, ⟨(some 75), (some ⟨(some 68), false⟩), (.call true 33 [(.t 71), (.t 74)])⟩, ⟨(some 76), (some ⟨(some 68), false⟩), (.call false 32 [(.t 70), (.t 75)])⟩, ⟨(some 77), (some ⟨(some 68), false⟩), (.no (.t 76))⟩, ⟨(some 78), (some ⟨(some 53), true⟩), (.pick (.t 68) (.k (.one (.f (.bool true)))) (.t 77))⟩, ⟨some 79, none, .pick (.t 53) (.t 78) (.k (.one (.f (.bool false))))⟩] [[0, 1, 2, 4, 3, 5, 6, 7, 8, 9, 11, 12, 10, 13, 14, 15, 16, 17, 19, 20, 21, 18, 22, 23, 24, 25, 26, 27], [0, 1, 2, 4, 3, 5, 6, 7, 8, 9, 11, 12, 10, 13, 14, 15, 16, 17, 19, 20, 21, 22, 18, 23, 24, 25, 26, 27], [0, 1, 2, 4, 3, 5, 6, 7, 8, 9, 11, 12, 10, 13, 14, 15, 16, 17, 19, 20, 21, 22, 23, 18, 24, 25, 26, 27], [0, 1, 2, 4, 3, 5, 6, 7, 8, 9, 11, 12, 13, 10, 14, 15, 16, 17, 19, 20, 21, 18, 22, 23, 24, 25, 26, 27], [0, 1, 2, 4, 3, 5, 6, 7, 8, 9, 11, 12, 13, 10, 14, 15, 16, 17, 19, 20, 21, 22, 18, 23, 24, 25, 26, 27], [0, 1, 2, 4, 3, 5, 6, 7, 8, 9, 11, 12, 13, 10, 14, 15, 16, 17, 19, 20, 21, 22, 23, 18, 24, 25, 26, 27], [0, 1, 2, 4, 5, 3, 6, 7, 8, 9, 11, 12, 10, 13, 14, 15, 16, 17, 19, 20, 21, 18, 22, 23, 24, 25, 26, 27], [0, 1, 2, 4, 5, 3, 6, 7, 8, 9, 11, 12, 10, 13, 14, 15, 16, 17, 19, 20, 21, 22, 18, 23, 24, 25, 26, 27], [0, 1, 2, 4, 5, 3, 6, 7, 8, 9, 11, 12, 10, 13, 14, 15, 16, 17, 19, 20, 21, 22, 23, 18, 24, 25, 26, 27], [0, 1, 2, 4, 5, 3, 6, 7, 8, 9, 11, 12, 13, 10, 14, 15, 16, 17, 19, 20, 21, 18, 22, 23, 24, 25, 26, 27], [0, 1, 2, 4, 5, 3, 6, 7, 8, 9, 11, 12, 13, 10, 14, 15, 16, 17, 19, 20, 21, 22, 18, 23, 24, 25, 26, 27], [0, 1, 2, 4, 5, 3, 6, 7, 8, 9, 11, 12, 13, 10, 14, 15, 16, 17, 19, 20, 21, 22, 23, 18, 24, 25, 26, 27]] [0, 1, 5, 6, 7, 79] [40202, 140000, 540200, 540204, 540206, 1000800]) (.cond (.t 79) (.seq (.reg [⟨some 4, none, .mv (.k (.one (.f (.bool false))))⟩] [4]) .ret) .skip))) (.seq (.reg [⟨some 80, none, .mv (.t 5)⟩, ⟨some 81, none, .fa 1 (.t 8)⟩, ⟨some 82, none, .load 1 false (.t 81)⟩, ⟨some 83, none, .fa 2 (.t 8)⟩, ⟨some 84, none, .load 5 true (.t 83)⟩, ⟨some 85, none, .fa 7 (.t 8)⟩, ⟨some 86, none, .load 1 false (.t 85)⟩, ⟨some 87, none, .call false 19 [(.t 80), (.t 82), (.t 84), (.t 86)]⟩, ⟨some 88, none, .cmp .eq (.t 87) (.k (.one (.f (.int .i64 0))))⟩] [0, 1, 5, 6, 7, 8, 88]) (.cond (.t 88) (.seq (.reg [⟨some 89, none, .mv (.t 6)⟩, ⟨some 90, none, .fa 2 (.t 8)⟩, ⟨some 91, none, .load 5 true (.t 90)⟩, ⟨(some 92), none, (.Fj 35 5 1 [(.f (.str ⟨#[]⟩)), (.f (.int .i64 0)), (.f (.int .i64 0)), .fG, (.f (.int .i64 0))] [⟨0, ⟨5, (.t 91)⟩⟩])⟩, ⟨some 93, none, .app 35 5 64 (.t 89) (.t 92)⟩, ⟨some 6, none, .mv (.t 93)⟩] [0, 1, 5, 6, 7, 8]) (.seq (.reg [⟨some 95, none, .mv (.t 5)⟩, ⟨some 96, none, .fa 1 (.t 8)⟩, ⟨some 97, none, .load 1 false (.t 96)⟩, ⟨some 98, none, .fa 2 (.t 8)⟩, ⟨some 99, none, .fa 0 (.t 98)⟩, ⟨some 100, none, .load 3 true (.t 99)⟩, ⟨some 101, none, .call false 25 [(.t 95), (.t 97), (.t 100)]⟩, ⟨some 94, none, .mv (.t 101)⟩, ⟨some 102, none, .ext (.t 94) 0⟩, ⟨some 103, none, .ext (.t 94) 1⟩, ⟨(some 11), none, (.alloc 46 [(.f (.str ⟨#[]⟩)), (.f (.int .i64 0)), (.f (.int .i64 0)), .fG, (.f (.int .i64 0)), (.f (.int .i64 0)), (.f (.int .i64 0))])⟩, ⟨none, none, (.store 7 (.t 11) (.t 102))⟩, ⟨some 12, none, .mv (.t 103)⟩] [0, 1, 5, 6, 7, 8, 11, 12]) (.seq (.reg [⟨some 104, none, .mv (.t 12)⟩, ⟨some 105, none, .no (.t 104)⟩, ⟨some 106, none, .mv (.t 105)⟩, ⟨(some 107), (some ⟨(some 106), false⟩), (.fa 0 (.t 11))⟩, ⟨(some 108), (some ⟨(some 106), false⟩), (.load 5 true (.t 107))⟩, ⟨(some 109), (some ⟨(some 106), false⟩), (.fa 2 (.t 8))⟩, ⟨(some 110), (some ⟨(some 106), false⟩), (.load 5 true (.t 109))⟩, ⟨(some 111), (some ⟨(some 106), false⟩), (.call false 32 [(.t 108), (.t 110)])⟩, ⟨(some 112), (some ⟨(some 106), false⟩), (.no (.t 111))⟩, ⟨some 113, none, .pick (.t 106) (.k (.one (.f (.bool true)))) (.t 112)⟩, ⟨some 114, none, .mv (.t 113)⟩, ⟨(some 115), (some ⟨(some 114), false⟩), (.fa 6 (.t 11))⟩, ⟨(some 116), (some ⟨(some 114), false⟩), (.load 1 false (.t 115))⟩, ⟨(some 117), (some ⟨(some 114), false⟩), (.fa 7 (.t 8))⟩, ⟨(some 118), (some ⟨(some 114), false⟩), (.load 1 false (.t 117))⟩, ⟨(some 119), (some ⟨(some 114), false⟩), (.cmp .ne (.t 116) (.t 118))⟩, ⟨some 120, none, .pick (.t 114) (.k (.one (.f (.bool true)))) (.t 119)⟩] [0, 1, 5, 6, 7, 120]) (.cond (.t 120) (.seq (.reg [⟨some 4, none, .mv (.k (.one (.f (.bool false))))⟩] [4]) .ret) .skip)))) .skip)))) (.seq (.reg [⟨some 121, none, .mv (.t 5)⟩, ⟨some 122, none, .call false 29 [(.t 121)]⟩, ⟨some 123, none, .iZ (.t 122)⟩, ⟨some 124, none, .mv (.t 0)⟩, ⟨some 125, none, .cmp .gt (.t 123) (.t 124)⟩, ⟨some 126, none, .mv (.t 125)⟩, ⟨(some 127), (some ⟨(some 126), false⟩), (.mv (.t 5))⟩, ⟨(some 128), (some ⟨(some 126), false⟩), (.call false 29 [(.t 127)])⟩, ⟨(some 129), (some ⟨(some 126), false⟩), (.call false 34 [(.t 128)])⟩, ⟨(some 130), (some ⟨(some 126), false⟩), (.no (.t 129))⟩, ⟨some 131, none, .pick (.t 126) (.k (.one (.f (.bool true)))) (.t 130)⟩] [0, 1, 5, 6, 7, 131]) (.cond (.t 131) (.seq (.reg [⟨some 4, none, .mv (.k (.one (.f (.bool false))))⟩] [4]) .ret) .skip))))) (.reg [⟨some 33, none, .mv (.t 7)⟩, ⟨some 34, none, .ar .add (.t 33) (.k (.one (.f (.int .i64 1))))⟩, ⟨some 7, none, .mv (.t 34)⟩] [0, 1, 5, 6, 7])))))) (.seq (.reg [⟨some 132, none, .call false 15 []⟩, ⟨some 4, none, .mv (.t 132)⟩] [4]) .ret)))))))⟩
def c5 : CF := ⟨2, [(.t 4)], [], [], (.seq (.reg [⟨some 2, none, .box 37 (.t 0)⟩, ⟨some 3, none, .box 37 (.t 1)⟩, ⟨some 4, none, .mv (.k (.one (.f (.bool false))))⟩] [2, 3]) (.seq (.seq (.reg [⟨some 11, none, .fa 2 (.t 2)⟩, ⟨some 12, none, .load 5 true (.t 11)⟩, ⟨some 13, none, .call false 35 [(.t 12)]⟩, ⟨some 14, none, .no (.t 13)⟩, ⟨some 15, none, .mv (.t 14)⟩, ⟨(some 16), (some ⟨(some 15), false⟩), (.fa 2 (.t 3))⟩, ⟨(some 17), (some ⟨(some 15), false⟩), (.load 5 true (.t 16))⟩, ⟨(some 18), (some ⟨(some 15), false⟩), (.call false 35 [(.t 17)])⟩, ⟨(some 19), (some ⟨(some 15), false⟩), (.no (.t 18))⟩, ⟨some 20, none, .pick (.t 15) (.k (.one (.f (.bool true)))) (.t 19)⟩] [2, 3, 20]) (.cond (.t 20) (.seq (.reg [⟨some 21, none, .call false 15 []⟩, ⟨some 4, none, .mv (.t 21)⟩] [4]) .ret) .skip)) (.seq (.reg [⟨some 22, none, .call false 16 [(.k (.one (.f (.int .i64 5))))]⟩, ⟨some 5, none, .mv (.t 22)⟩] [2, 3, 5]) (.seq (.seq (.reg [⟨some 23, none, .mv (.t 5)⟩, ⟨some 24, none, .mU false (.t 23)⟩] [2, 3, 5, 24]) (.cond (.t 24) (.seq (.reg [⟨some 4, none, .mv (.k (.one (.f (.bool false))))⟩] [4]) .ret) .skip)) (.seq (.seq (.reg [⟨some 25, none, .mv (.t 5)⟩, ⟨some 26, none, .fa 1 (.t 2)⟩, ⟨some 27, none, .load 1 false (.t 26)⟩, ⟨some 28, none, .fa 2 (.t 2)⟩, ⟨some 29, none, .load 5 true (.t 28)⟩, ⟨some 30, none, .fa 7 (.t 2)⟩, ⟨some 31, none, .load 1 false (.t 30)⟩, ⟨some 32, none, .call false 19 [(.t 25), (.t 27), (.t 29), (.t 31)]⟩, ⟨some 33, none, .cmp .ne (.t 32) (.k (.one (.f (.int .i64 0))))⟩] [2, 3, 5, 33]) (.cond (.t 33) (.seq (.reg [⟨some 34, none, .mv (.t 5)⟩, ⟨some 35, none, .call false 29 [(.t 34)]⟩, ⟨some 36, none, .iZ (.t 35)⟩, ⟨some 37, none, .cmp .eq (.t 36) (.k (.one (.f (.int .i64 0))))⟩, ⟨some 38, none, .mv (.t 37)⟩, ⟨(some 39), (some ⟨(some 38), true⟩), (.mv (.t 5))⟩, ⟨(some 40), (some ⟨(some 38), true⟩), (.call false 31 [(.t 39)])⟩, ⟨(some 41), (some ⟨(some 38), true⟩), (.cmp .eq (.t 40) (.k (.one (.f (.int .i64 0)))))⟩, ⟨some 42, none, .pick (.t 38) (.t 41) (.k (.one (.f (.bool false))))⟩, ⟨some 43, none, .mv (.t 42)⟩, ⟨(some 44), (some ⟨(some 43), true⟩), (.call false 15 [])⟩, ⟨some 45, none, .pick (.t 43) (.t 44) (.k (.one (.f (.bool false))))⟩, ⟨some 4, none, .mv (.t 45)⟩] [4]) .ret) .skip)) (.seq (.reg [⟨some 46, none, .fa 2 (.t 2)⟩, ⟨some 47, none, .fa 0 (.t 46)⟩, ⟨some 48, none, .load 3 true (.t 47)⟩, ⟨some 49, none, .fa 2 (.t 3)⟩, ⟨some 50, none, .fa 0 (.t 49)⟩, ⟨none, none, (.store 3 (.t 50) (.t 48))⟩] [2, 3, 5]) (.seq (.reg [⟨some 52, none, .mv (.t 5)⟩, ⟨some 53, none, .fa 1 (.t 3)⟩, ⟨some 54, none, .load 1 false (.t 53)⟩, ⟨some 55, none, .fa 2 (.t 2)⟩, ⟨some 56, none, .fa 0 (.t 55)⟩, ⟨some 57, none, .load 3 true (.t 56)⟩, ⟨some 58, none, .call false 25 [(.t 52), (.t 54), (.t 57)]⟩, ⟨some 51, none, .mv (.t 58)⟩, ⟨some 59, none, .ext (.t 51) 0⟩, ⟨some 60, none, .ext (.t 51) 1⟩, ⟨(some 6), none, (.alloc 46 [(.f (.str ⟨#[]⟩)), (.f (.int .i64 0)), (.f (.int .i64 0)), .fG, (.f (.int .i64 0)), (.f (.int .i64 0)), (.f (.int .i64 0))])⟩, ⟨none, none, (.store 7 (.t 6) (.t 59))⟩, ⟨some 7, none, .mv (.t 60)⟩] [2, 3, 5, 6, 7]) (.seq (.reg [⟨some 61, none, .mv (.t 5)⟩, ⟨some 62, none, .fa 1 (.t 3)⟩, ⟨some 63, none, .load 1 false (.t 62)⟩, ⟨some 64, none, .fa 2 (.t 3)⟩, ⟨some 65, none, .load 5 true (.t 64)⟩, ⟨some 66, none, .fa 7 (.t 3)⟩, ⟨some 67, none, .load 1 false (.t 66)⟩, ⟨some 68, none, .call false 19 [(.t 61), (.t 63), (.t 65), (.t 67)]⟩, ⟨some 8, none, .mv (.t 68)⟩] [2, 3, 5, 6, 7, 8]) (.seq (.reg [⟨some 70, none, .mv (.t 5)⟩, ⟨some 71, none, .fa 1 (.t 3)⟩, ⟨some 72, none, .load 1 false (.t 71)⟩, ⟨some 73, none, .fa 2 (.t 2)⟩, ⟨some 74, none, .fa 0 (.t 73)⟩, ⟨some 75, none, .load 3 true (.t 74)⟩, ⟨some 76, none, .call false 25 [(.t 70), (.t 72), (.t 75)]⟩, ⟨some 69, none, .mv (.t 76)⟩, ⟨some 77, none, .ext (.t 69) 0⟩, ⟨some 78, none, .ext (.t 69) 1⟩, ⟨(some 9), none, (.alloc 46 [(.f (.str ⟨#[]⟩)), (.f (.int .i64 0)), (.f (.int .i64 0)), .fG, (.f (.int .i64 0)), (.f (.int .i64 0)), (.f (.int .i64 0))])⟩, ⟨none, none, (.store 7 (.t 9) (.t 77))⟩, ⟨some 10, none, .mv (.t 78)⟩] [2, 3, 5, 6, 7, 8, 9, 10]) (.seq (.seq (.reg [⟨some 79, none, .mv (.t 8)⟩, ⟨some 80, none, .cmp .eq (.t 79) (.k (.one (.f (.int .i64 0))))⟩] [2, 3, 5, 6, 7, 8, 9, 10, 80]) (.cond (.t 80) (.seq (.reg [⟨some 81, none, .mv (.t 7)⟩, ⟨some 82, none, .no (.t 81)⟩, ⟨some 83, none, .mv (.t 82)⟩, ⟨(some 84), (some ⟨(some 83), false⟩), (.fa 7 (.t 3))⟩, ⟨(some 85), (some ⟨(some 83), false⟩), (.load 1 false (.t 84))⟩, ⟨(some 86), (some ⟨(some 83), false⟩), (.fa 7 (.t 2))⟩, ⟨(some 87), (some ⟨(some 83), false⟩), (.load 1 false (.t 86))⟩, ⟨(some 88), (some ⟨(some 83), false⟩), (.cmp .ge (.t 85) (.t 87))⟩, ⟨some 89, none, .pick (.t 83) (.k (.one (.f (.bool true)))) (.t 88)⟩, ⟨some 90, none, .mv (.t 89)⟩, ⟨(some 91), (some ⟨(some 90), true⟩), (.mv (.t 10))⟩, ⟨some 92, none, .pick (.t 90) (.t 91) (.k (.one (.f (.bool false))))⟩, ⟨some 93, none, .mv (.t 92)⟩, ⟨(some 94), (some ⟨(some 93), true⟩), (.fa 6 (.t 9))⟩, ⟨(some 95), (some ⟨(some 93), true⟩), (.load 1 false (.t 94))⟩, ⟨(some 96), (some ⟨(some 93), true⟩), (.fa 7 (.t 3))⟩, ⟨(some 97), (some ⟨(some 93), true⟩), (.load 1 false (.t 96))⟩, ⟨(some 98), (some ⟨(some 93), true⟩), (.cmp .eq (.t 95) (.t 97))⟩, ⟨some 99, none, .pick (.t 93) (.t 98) (.k (.one (.f (.bool false))))⟩, ⟨some 100, none, .mv (.t 99)⟩, ⟨(some 101), (some ⟨(some 100), true⟩), (.mv (.t 5))⟩, ⟨(some 102), (some ⟨(some 100), true⟩), (.call false 31 [(.t 101)])⟩, ⟨(some 103), (some ⟨(some 100), true⟩), (.cmp .eq (.t 102) (.k (.one (.f (.int .i64 2)))))⟩, ⟨some 104, none, .pick (.t 100) (.t 103) (.k (.one (.f (.bool false))))⟩, ⟨some 105, none, .mv (.t 104)⟩, ⟨(some 106), (some ⟨(some 105), true⟩), (.call false 15 [])⟩, ⟨some 107, none, .pick (.t 105) (.t 106) (.k (.one (.f (.bool false))))⟩, ⟨some 4, none, .mv (.t 107)⟩] [4]) .ret) .skip)) (.seq (.seq (.reg [⟨some 108, none, .mv (.t 8)⟩, ⟨some 109, none, .cmp .eq (.t 108) (.k (.one (.f (.int .i64 10))))⟩, ⟨some 110, none, .mv (.t 109)⟩, ⟨(some 111), (some ⟨(some 110), true⟩), (.mv (.t 7))⟩, ⟨(some 112), (some ⟨(some 110), true⟩), (.no (.t 111))⟩, ⟨(some 113), (some ⟨(some 110), true⟩), (.mv (.t 112))⟩, ⟨(some 114), (some ⟨(some 113), false⟩), (.fa 7 (.t 3))⟩, ⟨(some 115), (some ⟨(some 113), false⟩), (.load 1 false (.t 114))⟩, ⟨(some 116), (some ⟨(some 113), false⟩), (.fa 7 (.t 2))⟩, ⟨(some 117), (some ⟨(some 113), false⟩), (.load 1 false (.t 116))⟩, ⟨(some 118), (some ⟨(some 113), false⟩), (.cmp .ge (.t 115) (.t 117))⟩, ⟨(some 119), (some ⟨(some 110), true⟩), (.pick (.t 113) (.k (.one (.f (.bool true)))) (.t 118))⟩, ⟨some 120, none, .pick (.t 110) (.t 119) (.k (.one (.f (.bool false))))⟩] [5, 6, 7, 9, 10, 120]) (.cond (.t 120) (.seq (.reg [⟨some 4, none, .mv (.k (.one (.f (.bool false))))⟩] [4]) .ret) .skip)) (.seq (.rA [⟨⟨some 121, none, .mv (.t 7)⟩, []⟩, ⟨⟨some 122, none, .mv (.t 10)⟩, []⟩, ⟨⟨some 123, none, .tY (.one .bool) false (.t 121) (.t 122)⟩, []⟩, ⟨⟨some 124, none, .mv (.t 123)⟩, []⟩, ⟨⟨(some 125), (some ⟨(some 124), true⟩), (.load 7 true (.t 6))⟩, []⟩, ⟨⟨(some 126), (some ⟨(some 124), true⟩), (.call false 23 [(.t 125)])⟩, []⟩, ⟨⟨(some 127), (some ⟨(some 124), true⟩), (.load 7 true (.t 9))⟩, []⟩] [] [] [⟨(some 128), (some ⟨(some 124), true⟩), (.call false 23 [(.t 127)])⟩, ⟨(some 129), (some ⟨(some 124), true⟩), (.call false 22 [(.t 126), (.t 128)])⟩, ⟨some 130, none, .pick (.t 124) (.t 129) (.k (.one (.f (.bool false))))⟩, ⟨some 131, none, .mv (.t 130)⟩, ⟨(some 132), (some ⟨(some 131), true⟩), (.mv (.t 5))⟩, ⟨(some 133), (some ⟨(some 131), true⟩), (.call false 31 [(.t 132)])⟩, ⟨(some 134), (some ⟨(some 131), true⟩), (.cmp .eq (.t 133) (.k (.one (.f (.int .i64 1)))))⟩, ⟨some 135, none, .pick (.t 131) (.t 134) (.k (.one (.f (.bool false))))⟩, ⟨some 136, none, .mv (.t 135)⟩, ⟨(some 137), (some ⟨(some 136), true⟩), (.call false 15 [])⟩, ⟨some 138, none, .pick (.t 136) (.t 137) (.k (.one (.f (.bool false))))⟩, ⟨some 4, none, .mv (.t 138)⟩] [4]) .ret))))))))))))⟩
def c6 : CF := ⟨1, [(.t 2)], [], [], (.seq (.reg [⟨some 1, none, .box 37 (.t 0)⟩, ⟨some 2, none, .mv (.k (.one (.f (.bool false))))⟩] [1]) (.seq (.seq (.reg [⟨some 8, none, .fa 2 (.t 1)⟩, ⟨some 9, none, .load 5 true (.t 8)⟩, ⟨some 10, none, .call false 35 [(.t 9)]⟩, ⟨some 11, none, .no (.t 10)⟩] [1, 11]) (.cond (.t 11) (.seq (.reg [⟨some 12, none, .call false 15 []⟩, ⟨some 2, none, .mv (.t 12)⟩] [2]) .ret) .skip)) (.seq (.reg [⟨some 3, none, .mv (.k (.one .jo))⟩] [1, 3]) (.seq (.reg [⟨some 14, none, .mv (.t 3)⟩, ⟨some 15, none, .fa 1 (.t 1)⟩, ⟨some 16, none, .load 1 false (.t 15)⟩, ⟨some 17, none, .fa 2 (.t 1)⟩, ⟨some 18, none, .fa 0 (.t 17)⟩, ⟨some 19, none, .load 3 true (.t 18)⟩, ⟨some 20, none, .call false 21 [(.t 14), (.t 16), (.t 19)]⟩, ⟨some 13, none, .mv (.t 20)⟩, ⟨some 21, none, .ext (.t 13) 0⟩, ⟨some 22, none, .ext (.t 13) 1⟩, ⟨(some 4), none, (.alloc 46 [(.f (.str ⟨#[]⟩)), (.f (.int .i64 0)), (.f (.int .i64 0)), .fG, (.f (.int .i64 0)), (.f (.int .i64 0)), (.f (.int .i64 0))])⟩, ⟨none, none, (.store 7 (.t 4) (.t 21))⟩, ⟨some 5, none, .mv (.t 22)⟩] [1, 3, 4, 5]) (.seq (.reg [⟨some 24, none, .mv (.t 3)⟩, ⟨some 25, none, .fa 1 (.t 1)⟩, ⟨some 26, none, .load 1 false (.t 25)⟩, ⟨some 27, none, .fa 2 (.t 1)⟩, ⟨some 28, none, .fa 0 (.t 27)⟩, ⟨some 29, none, .load 3 true (.t 28)⟩, ⟨some 30, none, .call false 25 [(.t 24), (.t 26), (.t 29)]⟩, ⟨some 23, none, .mv (.t 30)⟩, ⟨some 31, none, .ext (.t 23) 0⟩, ⟨some 32, none, .ext (.t 23) 1⟩, ⟨(some 6), none, (.alloc 46 [(.f (.str ⟨#[]⟩)), (.f (.int .i64 0)), (.f (.int .i64 0)), .fG, (.f (.int .i64 0)), (.f (.int .i64 0)), (.f (.int .i64 0))])⟩, ⟨none, none, (.store 7 (.t 6) (.t 31))⟩, ⟨some 7, none, .mv (.t 32)⟩] [1, 3, 4, 5, 6, 7]) (.seq (.rA [⟨⟨some 33, none, .mv (.t 3)⟩, []⟩, ⟨⟨some 34, none, .fa 1 (.t 1)⟩, []⟩, ⟨⟨some 35, none, .load 1 false (.t 34)⟩, []⟩, ⟨⟨some 36, none, .fa 2 (.t 1)⟩, []⟩, ⟨⟨some 37, none, .load 5 true (.t 36)⟩, []⟩, ⟨⟨some 38, none, .fa 7 (.t 1)⟩, []⟩, ⟨⟨some 39, none, .load 1 false (.t 38)⟩, []⟩, ⟨⟨some 40, none, .call false 19 [(.t 33), (.t 35), (.t 37), (.t 39)]⟩, []⟩, ⟨⟨some 41, none, .cmp .eq (.t 40) (.k (.one (.f (.int .i64 1))))⟩, []⟩, ⟨⟨some 42, none, .mv (.t 41)⟩, []⟩, ⟨⟨(some 43), (some ⟨(some 42), true⟩), (.mv (.t 5))⟩, []⟩, ⟨⟨(some 44), (some ⟨(some 42), true⟩), (.no (.t 43))⟩, []⟩, ⟨⟨some 45, none, .pick (.t 42) (.t 44) (.k (.one (.f (.bool false))))⟩, []⟩, ⟨⟨some 46, none, .mv (.t 45)⟩, []⟩, ⟨⟨(some 47), (some ⟨(some 46), true⟩), (.mv (.t 7))⟩, []⟩, ⟨⟨(some 48), (some ⟨(some 46), true⟩), (.no (.t 47))⟩, []⟩, ⟨⟨some 49, none, .pick (.t 46) (.t 48) (.k (.one (.f (.bool false))))⟩, []⟩, ⟨⟨some 50, none, .mv (.t 49)⟩, []⟩, ⟨⟨(some 51), (some ⟨(some 50), true⟩), (.load 7 true (.t 4))⟩, []⟩, ⟨⟨(some 52), (some ⟨(some 50), true⟩), (.call false 23 [(.t 51)])⟩, []⟩, ⟨⟨(some 53), (some ⟨(some 50), true⟩), (.load 7 true (.t 6))⟩, []⟩, ⟨⟨(some 54), (some ⟨(some 50), true⟩), (.call false 23 [(.t 53)])⟩, []⟩, ⟨⟨(some 55), (some ⟨(some 50), true⟩), (.call false 22 [(.t 52), (.t 54)])⟩, []⟩, ⟨⟨some 56, none, .pick (.t 50) (.t 55) (.k (.one (.f (.bool false))))⟩, []⟩, ⟨⟨some 57, none, .mv (.t 56)⟩, []⟩, ⟨⟨(some 58), (some ⟨(some 57), true⟩), (.fa 6 (.t 4))⟩, []⟩, ⟨⟨(some 59), (some ⟨(some 57), true⟩), (.load 1 false (.t 58))⟩, []⟩, ⟨⟨(some 60), (some ⟨(some 57), true⟩), (.cmp .eq (.t 59) (.k (.one (.f (.int .i64 0)))))⟩, []⟩, ⟨⟨some 61, none, .pick (.t 57) (.t 60) (.k (.one (.f (.bool false))))⟩, []⟩, ⟨⟨some 62, none, .mv (.t 61)⟩, []⟩, ⟨⟨(some 63), (some ⟨(some 62), true⟩), (.mv (.t 3))⟩, []⟩, ⟨⟨(some 64), (some ⟨(some 62), true⟩), (.fa 2 (.t 1))⟩, []⟩, ⟨⟨(some 65), (some ⟨(some 62), true⟩), (.fa 0 (.t 64))⟩, []⟩, ⟨⟨(some 66), (some ⟨(some 62), true⟩), (.load 3 true (.t 65))⟩, []⟩] [] [] [⟨(some 67), (some ⟨(some 62), true⟩), (.call false 27 [(.t 63), (.t 66)])⟩, ⟨(some 68), (some ⟨(some 62), true⟩), (.no (.t 67))⟩, ⟨some 69, none, .pick (.t 62) (.t 68) (.k (.one (.f (.bool false))))⟩, ⟨some 70, none, .mv (.t 69)⟩, ⟨(some 71), (some ⟨(some 70), true⟩), (.mv (.t 3))⟩, ⟨(some 72), (some ⟨(some 70), true⟩), (.call false 29 [(.t 71)])⟩, ⟨(some 73), (some ⟨(some 70), true⟩), (.iZ (.t 72))⟩, ⟨(some 74), (some ⟨(some 70), true⟩), (.cmp .eq (.t 73) (.k (.one (.f (.int .i64 0)))))⟩, ⟨some 75, none, .pick (.t 70) (.t 74) (.k (.one (.f (.bool false))))⟩, ⟨some 76, none, .mv (.t 75)⟩, ⟨(some 77), (some ⟨(some 76), true⟩), (.mv (.t 3))⟩, ⟨(some 78), (some ⟨(some 76), true⟩), (.call false 31 [(.t 77)])⟩, ⟨(some 79), (some ⟨(some 76), true⟩), (.cmp .eq (.t 78) (.k (.one (.f (.int .i64 0)))))⟩, ⟨some 80, none, .pick (.t 76) (.t 79) (.k (.one (.f (.bool false))))⟩, ⟨some 81, none, .mv (.t 80)⟩, ⟨(some 82), (some ⟨(some 81), true⟩), (.call false 15 [])⟩, ⟨some 83, none, .pick (.t 81) (.t 82) (.k (.one (.f (.bool false))))⟩, ⟨some 2, none, .mv (.t 83)⟩] [2]) .ret))))))⟩
def c7 : CF := ⟨3, [(.t 6)], [], [], (.seq (.reg [⟨some 6, none, .mv (.k (.one (.f (.bool false))))⟩] [0, 1, 2]) (.seq (.seq (.reg [⟨some 15, none, .mv (.t 0)⟩, ⟨some 16, none, .call false 14 [(.t 15), (.k (.one (.f (.int .i64 60))))]⟩, ⟨some 17, none, .no (.t 16)⟩, ⟨some 18, none, .mv (.t 17)⟩, ⟨(some 19), (some ⟨(some 18), false⟩), (.mv (.t 1))⟩, ⟨(some 20), (some ⟨(some 18), false⟩), (.cmp .lt (.t 19) (.k (.one (.f (.int .i64 0)))))⟩, ⟨some 21, none, .pick (.t 18) (.k (.one (.f (.bool true)))) (.t 20)⟩, ⟨some 22, none, .mv (.t 21)⟩, ⟨(some 23), (some ⟨(some 22), false⟩), (.mv (.t 2))⟩, ⟨(some 24), (some ⟨(some 22), false⟩), (.cmp .lt (.t 23) (.k (.one (.f (.int .i64 0)))))⟩, ⟨some 25, none, .pick (.t 22) (.k (.one (.f (.bool true)))) (.t 24)⟩, ⟨some 26, none, .mv (.t 25)⟩, ⟨(some 27), (some ⟨(some 26), false⟩), (.mv (.t 1))⟩, ⟨(some 28), (some ⟨(some 26), false⟩), (.cmp .gt (.t 27) (.k (.one (.f (.int .i64 549755813888)))))⟩, ⟨some 29, none, .pick (.t 26) (.k (.one (.f (.bool true)))) (.t 28)⟩, ⟨some 30, none, .mv (.t 29)⟩, ⟨(some 31), (some ⟨(some 30), false⟩), (.mv (.t 2))⟩, ⟨(some 32), (some ⟨(some 30), false⟩), (.cmp .gt (.t 31) (.k (.one (.f (.int .i64 549755813888)))))⟩, ⟨some 33, none, .pick (.t 30) (.k (.one (.f (.bool true)))) (.t 32)⟩] [0, 1, 2, 33]) (.cond (.t 33) (.seq (.reg [⟨some 34, none, .call false 15 []⟩, ⟨some 6, none, .mv (.t 34)⟩] [6]) .ret) .skip)) (.seq (.reg [⟨some 35, none, .call false 16 [(.k (.one (.f (.int .i64 50))))]⟩, ⟨some 7, none, .mv (.t 35)⟩] [0, 1, 2, 7]) (.seq (.seq (.reg [⟨some 36, none, .mv (.t 7)⟩, ⟨some 37, none, .mU false (.t 36)⟩] [0, 1, 2, 7, 37]) (.cond (.t 37) (.seq (.reg [⟨some 6, none, .mv (.k (.one (.f (.bool false))))⟩] [6]) .ret) .skip)) (.seq (.seq (.reg [⟨some 8, none, .mv (.k (.one (.f (.int .i64 0))))⟩] [0, 1, 2, 7, 8]) (.block 0 (.loop [0, 1, 2, 7, 8] [20202, 720200, 720204, 720206] [] (.seq (.seq (.reg [⟨some 38, none, .mv (.t 8)⟩, ⟨some 39, none, .mv (.t 0)⟩, ⟨some 40, none, .iZ (.t 39)⟩, ⟨some 41, none, .cmp .lt (.t 38) (.t 40)⟩] [0, 1, 2, 7, 8, 41]) (.cond (.t 41) .skip (.exit 0))) (.seq (.block 1 (.rA [⟨⟨some 44, none, .mv (.t 7)⟩, []⟩, ⟨⟨some 45, none, .mv (.t 0)⟩, []⟩, ⟨⟨some 46, none, .mv (.t 8)⟩, []⟩, ⟨⟨some 47, none, .ia 8 (.t 45) (.t 46)⟩, []⟩, ⟨⟨some 48, none, .fa 1 (.t 47)⟩, []⟩, ⟨⟨some 49, none, .load 1 false (.t 48)⟩, []⟩, ⟨⟨some 50, none, .mv (.t 0)⟩, []⟩, ⟨⟨some 51, none, .mv (.t 8)⟩, []⟩, ⟨⟨some 52, none, .ia 8 (.t 50) (.t 51)⟩, []⟩, ⟨⟨some 53, none, .fa 2 (.t 52)⟩, []⟩, ⟨⟨some 54, none, .load 5 true (.t 53)⟩, []⟩, ⟨⟨some 55, none, .mv (.t 0)⟩, []⟩, ⟨⟨some 56, none, .mv (.t 8)⟩, []⟩, ⟨⟨some 57, none, .ia 8 (.t 55) (.t 56)⟩, []⟩, ⟨⟨some 58, none, .fa 7 (.t 57)⟩, []⟩, ⟨⟨some 59, none, .load 1 false (.t 58)⟩, []⟩] [] [] [⟨some 60, none, .call false 19 [(.t 44), (.t 49), (.t 54), (.t 59)]⟩] [0, 1, 2, 7, 8])) (.reg [⟨some 42, none, .mv (.t 8)⟩, ⟨some 43, none, .ar .add (.t 42) (.k (.one (.f (.int .i64 1))))⟩, ⟨some 8, none, .mv (.t 43)⟩] [0, 1, 2, 7, 8])))))) (.seq (.reg [⟨some 61, none, .mv (.t 7)⟩, ⟨some 62, none, .call false 29 [(.t 61)]⟩, ⟨some 9, none, .mv (.t 62)⟩] [1, 2, 7, 9]) (.seq (.seq (.reg [⟨some 10, none, .mv (.k (.one (.f (.int .i64 0))))⟩] [1, 2, 7, 9, 10]) (.block 2 (.loop [1, 2, 7, 9, 10] [720200, 720204, 720206, 1260200] [] (.seq (.seq (.reg [⟨some 63, none, .mv (.t 10)⟩, ⟨some 64, none, .mv (.t 9)⟩, ⟨some 65, none, .iZ (.t 64)⟩, ⟨some 66, none, .cmp .lt (.t 63) (.t 65)⟩] [1, 2, 7, 9, 10, 66]) (.cond (.t 66) .skip (.exit 2))) (.seq (.block 3 (.seq (.reg [⟨some 70, none, .mv (.t 7)⟩, ⟨some 71, none, .mv (.t 1)⟩, ⟨some 72, none, .mv (.t 9)⟩, ⟨some 73, none, .mv (.t 10)⟩, ⟨some 74, none, .ia 3 (.t 72) (.t 73)⟩, ⟨some 75, none, .load 3 true (.t 74)⟩, ⟨some 76, none, .call false 25 [(.t 70), (.t 71), (.t 75)]⟩, ⟨some 69, none, .mv (.t 76)⟩, ⟨some 77, none, .ext (.t 69) 0⟩, ⟨some 78, none, .ext (.t 69) 1⟩, ⟨(some 11), none, (.alloc 46 [(.f (.str ⟨#[]⟩)), (.f (.int .i64 0)), (.f (.int .i64 0)), .fG, (.f (.int .i64 0)), (.f (.int .i64 0)), (.f (.int .i64 0))])⟩, ⟨none, none, (.store 7 (.t 11) (.t 77))⟩, ⟨some 12, none, .mv (.t 78)⟩] [1, 2, 7, 9, 10, 11, 12]) (.seq (.reg [⟨some 80, none, .mv (.t 7)⟩, ⟨some 81, none, .mv (.t 1)⟩, ⟨some 82, none, .mv (.t 2)⟩, ⟨some 83, none, .ar .add (.t 81) (.t 82)⟩, ⟨some 84, none, .mv (.t 9)⟩, ⟨some 85, none, .mv (.t 10)⟩, ⟨some 86, none, .ia 3 (.t 84) (.t 85)⟩, ⟨some 87, none, .load 3 true (.t 86)⟩, ⟨some 88, none, .call false 25 [(.t 80), (.t 83), (.t 87)]⟩, ⟨some 79, none, .mv (.t 88)⟩, ⟨some 89, none, .ext (.t 79) 0⟩, ⟨some 90, none, .ext (.t 79) 1⟩, ⟨(some 13), none, (.alloc 46 [(.f (.str ⟨#[]⟩)), (.f (.int .i64 0)), (.f (.int .i64 0)), .fG, (.f (.int .i64 0)), (.f (.int .i64 0)), (.f (.int .i64 0))])⟩, ⟨none, none, (.store 7 (.t 13) (.t 89))⟩, ⟨some 14, none, .mv (.t 90)⟩] [1, 2, 7, 9, 10, 11, 12, 13, 14]) (.seq (.rA [⟨⟨some 91, none, .mv (.t 14)⟩, []⟩, ⟨⟨some 92, none, .mv (.t 91)⟩, []⟩, ⟨⟨(some 93), (some ⟨(some 92), true⟩), (.mv (.t 12))⟩, []⟩, ⟨⟨(some 94), (some ⟨(some 92), true⟩), (.no (.t 93))⟩, []⟩, ⟨⟨(some 95), (some ⟨(some 92), true⟩), (.mv (.t 94))⟩, []⟩, ⟨⟨(some 96), (some ⟨(some 95), false⟩), (.load 7 true (.t 11))⟩, []⟩, ⟨⟨(some 97), (some ⟨(some 95), false⟩), (.call false 23 [(.t 96)])⟩, []⟩, ⟨⟨(some 98), (some ⟨(some 95), false⟩), (.load 7 true (.t 13))⟩, []⟩, ⟨⟨(some 99), (some ⟨(some 95), false⟩), (.call false 23 [(.t 98)])⟩, []⟩, ⟨⟨(some 100), (some ⟨(some 95), false⟩), (.call false 22 [(.t 97), (.t 99)])⟩, []⟩, ⟨⟨(some 101), (some ⟨(some 95), false⟩), (.no (.t 100))⟩, []⟩, ⟨⟨(some 102), (some ⟨(some 92), true⟩), (.pick (.t 95) (.k (.one (.f (.bool true)))) (.t 101))⟩, []⟩, ⟨⟨(some 103), (some ⟨(some 92), true⟩), (.mv (.t 102))⟩, []⟩, ⟨⟨(some 104), (some ⟨(some 103), false⟩), (.fa 5 (.t 13))⟩, []⟩, ⟨⟨(some 105), (some ⟨(some 103), false⟩), (.load 1 false (.t 104))⟩, []⟩, ⟨⟨(some 106), (some ⟨(some 103), false⟩), (.mv (.t 1))⟩, []⟩, ⟨⟨(some 107), (some ⟨(some 103), false⟩), (.mv (.t 2))⟩, []⟩, ⟨⟨(some 108), (some ⟨(some 103), false⟩), (.ar .add (.t 106) (.t 107))⟩, []⟩] [] [] [⟨(some 109), (some ⟨(some 103), false⟩), (.cmp .le (.t 105) (.t 108))⟩, ⟨(some 110), (some ⟨(some 92), true⟩), (.pick (.t 103) (.k (.one (.f (.bool true)))) (.t 109))⟩, ⟨some 111, none, .pick (.t 92) (.t 110) (.k (.one (.f (.bool false))))⟩] [1, 2, 7, 9, 10, 111]) (.cond (.t 111) (.seq (.reg [⟨some 6, none, .mv (.k (.one (.f (.bool false))))⟩] [6]) .ret) .skip))))) (.reg [⟨some 67, none, .mv (.t 10)⟩, ⟨some 68, none, .ar .add (.t 67) (.k (.one (.f (.int .i64 1))))⟩, ⟨some 10, none, .mv (.t 68)⟩] [1, 2, 7, 9, 10])))))) (.seq (.reg [⟨some 112, none, .mv (.t 7)⟩, ⟨some 113, none, .call false 29 [(.t 112)]⟩, ⟨some 114, none, .mv (.t 9)⟩, ⟨some 115, none, .call false 28 [(.t 113), (.t 114)]⟩, ⟨some 116, none, .mv (.t 115)⟩, ⟨(some 117), (some ⟨(some 116), true⟩), (.call false 15 [])⟩, ⟨some 118, none, .pick (.t 116) (.t 117) (.k (.one (.f (.bool false))))⟩, ⟨some 6, none, .mv (.t 118)⟩] [6]) .ret))))))))⟩
def c8 : CF := ⟨2, [(.t 4)], [], [], (.seq (.reg [⟨some 4, none, .mv (.k (.one (.f (.bool false))))⟩] [0, 1]) (.seq (.seq (.reg [⟨some 14, none, .mv (.t 0)⟩, ⟨some 15, none, .cmp .lt (.t 14) (.k (.one (.f (.int .i64 2))))⟩, ⟨some 16, none, .mv (.t 15)⟩, ⟨(some 17), (some ⟨(some 16), false⟩), (.mv (.t 0))⟩, ⟨(some 18), (some ⟨(some 16), false⟩), (.cmp .gt (.t 17) (.k (.one (.f (.int .i64 40)))))⟩, ⟨some 19, none, .pick (.t 16) (.k (.one (.f (.bool true)))) (.t 18)⟩, ⟨some 20, none, .mv (.t 19)⟩, ⟨(some 21), (some ⟨(some 20), false⟩), (.mv (.t 1))⟩, ⟨(some 22), (some ⟨(some 20), false⟩), (.cmp .lt (.t 21) (.k (.one (.f (.int .i64 0)))))⟩, ⟨some 23, none, .pick (.t 20) (.k (.one (.f (.bool true)))) (.t 22)⟩, ⟨some 24, none, .mv (.t 23)⟩, ⟨(some 25), (some ⟨(some 24), false⟩), (.mv (.t 1))⟩, ⟨(some 26), (some ⟨(some 24), false⟩), (.mv (.t 0))⟩, ⟨(some 27), (some ⟨(some 24), false⟩), (.cmp .ge (.t 25) (.t 26))⟩, ⟨some 28, none, .pick (.t 24) (.k (.one (.f (.bool true)))) (.t 27)⟩] [0, 1, 28]) (.cond (.t 28) (.seq (.reg [⟨some 29, none, .call false 15 []⟩, ⟨some 4, none, .mv (.t 29)⟩] [4]) .ret) .skip)) (.seq (.reg [⟨some 30, none, .mv (.t 0)⟩, ⟨some 31, none, .call false 16 [(.t 30)]⟩, ⟨some 5, none, .mv (.t 31)⟩] [0, 1, 5]) (.seq (.seq (.reg [⟨some 32, none, .mv (.t 5)⟩, ⟨some 33, none, .mU false (.t 32)⟩] [0, 1, 5, 33]) (.cond (.t 33) (.seq (.reg [⟨some 4, none, .mv (.k (.one (.f (.bool false))))⟩] [4]) .ret) .skip)) (.seq (.seq (.reg [⟨some 6, none, .mv (.k (.one (.f (.int .i64 0))))⟩] [0, 1, 5, 6]) (.block 0 (.loop [0, 1, 5, 6] [640200, 640204, 640206] [] (.seq (.seq (.reg [⟨some 34, none, .mv (.t 6)⟩, ⟨some 35, none, .mv (.t 0)⟩, ⟨some 36, none, .cmp .lt (.t 34) (.t 35)⟩] [0, 1, 5, 6, 36]) (.cond (.t 36) .skip (.exit 0))) (.seq (.block 1 (.seq (.reg [⟨some 39, none, .mv (.t 5)⟩, ⟨some 40, none, .mv (.t 6)⟩, ⟨some 41, none, .call false 36 [(.t 40)]⟩, ⟨some 42, none, .call false 19 [(.t 39), (.k (.one (.f (.int .i64 0)))), (.t 41), (.k (.one (.f (.int .i64 3))))]⟩, ⟨some 43, none, .cmp .ne (.t 42) (.k (.one (.f (.int .i64 0))))⟩] [0, 1, 5, 6, 43]) (.cond (.t 43) (.seq (.reg [⟨some 4, none, .mv (.k (.one (.f (.bool false))))⟩] [4]) .ret) .skip))) (.reg [⟨some 37, none, .mv (.t 6)⟩, ⟨some 38, none, .ar .add (.t 37) (.k (.one (.f (.int .i64 1))))⟩, ⟨some 6, none, .mv (.t 38)⟩] [0, 1, 5, 6])))))) (.seq (.reg [⟨some 45, none, .mv (.t 5)⟩, ⟨some 46, none, .mv (.t 1)⟩, ⟨some 47, none, .call false 36 [(.t 46)]⟩, ⟨some 48, none, .Ma 0 3 true (.t 47)⟩, ⟨some 49, none, .call false 21 [(.t 45), (.k (.one (.f (.int .i64 1)))), (.t 48)]⟩, ⟨some 44, none, .mv (.t 49)⟩, ⟨some 50, none, .ext (.t 44) 0⟩, ⟨some 51, none, .ext (.t 44) 1⟩, ⟨(some 7), none, (.alloc 46 [(.f (.str ⟨#[]⟩)), (.f (.int .i64 0)), (.f (.int .i64 0)), .fG, (.f (.int .i64 0)), (.f (.int .i64 0)), (.f (.int .i64 0))])⟩, ⟨none, none, (.store 7 (.t 7) (.t 50))⟩, ⟨some 8, none, .mv (.t 51)⟩] [0, 1, 5, 8]) (.seq (.seq (.reg [⟨some 9, none, .mv (.k (.one (.f (.int .i64 0))))⟩] [0, 1, 5, 8, 9]) (.block 2 (.loop [0, 1, 5, 8, 9] [640200, 640204, 640206, 1000800] [] (.seq (.seq (.reg [⟨some 52, none, .mv (.t 9)⟩, ⟨some 53, none, .mv (.t 0)⟩, ⟨some 54, none, .ar .sub (.t 53) (.k (.one (.f (.int .i64 1))))⟩, ⟨some 55, none, .cmp .lt (.t 52) (.t 54)⟩] [0, 1, 5, 8, 9, 55]) (.cond (.t 55) .skip (.exit 2))) (.seq (.block 3 (.seq (.seq (.reg [⟨some 58, none, .mv (.t 8)⟩, ⟨some 59, none, .no (.t 58)⟩, ⟨some 60, none, .mv (.t 59)⟩, ⟨(some 61), (some ⟨(some 60), false⟩), (.mv (.t 5))⟩, ⟨(some 62), (some ⟨(some 60), false⟩), (.mv (.t 0))⟩, ⟨(some 63), (some ⟨(some 60), false⟩), (.mv (.t 9))⟩, ⟨(some 64), (some ⟨(some 60), false⟩), (.ar .add (.t 62) (.t 63))⟩, ⟨(some 65), (some ⟨(some 60), false⟩), (.call false 36 [(.t 64)])⟩, ⟨(some 66), (some ⟨(some 60), false⟩), (.call false 19 [(.t 61), (.k (.one (.f (.int .i64 1)))), (.t 65), (.k (.one (.f (.int .i64 3))))])⟩, ⟨(some 67), (some ⟨(some 60), false⟩), (.cmp .ne (.t 66) (.k (.one (.f (.int .i64 0)))))⟩, ⟨some 68, none, .pick (.t 60) (.k (.one (.f (.bool true)))) (.t 67)⟩] [0, 1, 5, 8, 9, 68]) (.cond (.t 68) (.seq (.reg [⟨some 4, none, .mv (.k (.one (.f (.bool false))))⟩] [4]) .ret) .skip)) (.seq (.reg [⟨some 70, none, .mv (.t 5)⟩, ⟨some 71, none, .mv (.t 1)⟩, ⟨some 72, none, .call false 36 [(.t 71)]⟩, ⟨some 73, none, .Ma 0 3 true (.t 72)⟩, ⟨some 74, none, .call false 25 [(.t 70), (.k (.one (.f (.int .i64 1)))), (.t 73)]⟩, ⟨some 69, none, .mv (.t 74)⟩, ⟨some 75, none, .ext (.t 69) 0⟩, ⟨some 76, none, .ext (.t 69) 1⟩, ⟨(some 10), none, (.alloc 46 [(.f (.str ⟨#[]⟩)), (.f (.int .i64 0)), (.f (.int .i64 0)), .fG, (.f (.int .i64 0)), (.f (.int .i64 0)), (.f (.int .i64 0))])⟩, ⟨none, none, (.store 7 (.t 10) (.t 75))⟩, ⟨some 11, none, .mv (.t 76)⟩] [0, 1, 5, 8, 9, 11]) (.seq (.reg [⟨some 77, none, .mv (.t 11)⟩, ⟨some 78, none, .no (.t 77)⟩, ⟨some 79, none, .mv (.t 78)⟩, ⟨(some 80), (some ⟨(some 79), false⟩), (.mv (.t 5))⟩, ⟨(some 81), (some ⟨(some 79), false⟩), (.call false 29 [(.t 80)])⟩, ⟨(some 82), (some ⟨(some 79), false⟩), (.iZ (.t 81))⟩, ⟨(some 83), (some ⟨(some 79), false⟩), (.mv (.t 0))⟩, ⟨(some 84), (some ⟨(some 79), false⟩), (.cmp .ne (.t 82) (.t 83))⟩, ⟨some 85, none, .pick (.t 79) (.k (.one (.f (.bool true)))) (.t 84)⟩] [0, 1, 5, 8, 9, 85]) (.cond (.t 85) (.seq (.reg [⟨some 4, none, .mv (.k (.one (.f (.bool false))))⟩] [4]) .ret) .skip))))) (.reg [⟨some 56, none, .mv (.t 9)⟩, ⟨some 57, none, .ar .add (.t 56) (.k (.one (.f (.int .i64 1))))⟩, ⟨some 9, none, .mv (.t 57)⟩] [0, 1, 5, 8, 9])))))) (.seq (.reg [⟨some 86, none, .mv (.t 5)⟩, ⟨some 87, none, .mv (.t 0)⟩, ⟨some 88, none, .ar .mul (.k (.one (.f (.int .i64 2)))) (.t 87)⟩, ⟨some 89, none, .call false 36 [(.t 88)]⟩, ⟨some 90, none, .call false 19 [(.t 86), (.k (.one (.f (.int .i64 1)))), (.t 89), (.k (.one (.f (.int .i64 3))))]⟩] [1, 5]) (.seq (.reg [⟨some 92, none, .mv (.t 5)⟩, ⟨some 93, none, .mv (.t 1)⟩, ⟨some 94, none, .call false 36 [(.t 93)]⟩, ⟨some 95, none, .Ma 0 3 true (.t 94)⟩, ⟨some 96, none, .call false 25 [(.t 92), (.k (.one (.f (.int .i64 1)))), (.t 95)]⟩, ⟨some 91, none, .mv (.t 96)⟩, ⟨some 97, none, .ext (.t 91) 0⟩, ⟨some 98, none, .ext (.t 91) 1⟩, ⟨(some 12), none, (.alloc 46 [(.f (.str ⟨#[]⟩)), (.f (.int .i64 0)), (.f (.int .i64 0)), .fG, (.f (.int .i64 0)), (.f (.int .i64 0)), (.f (.int .i64 0))])⟩, ⟨none, none, (.store 7 (.t 12) (.t 97))⟩, ⟨some 13, none, .mv (.t 98)⟩] [13]) (.seq (.reg [⟨some 99, none, .mv (.t 13)⟩, ⟨some 100, none, .no (.t 99)⟩, ⟨some 101, none, .mv (.t 100)⟩, ⟨(some 102), (some ⟨(some 101), true⟩), (.call false 15 [])⟩, ⟨some 103, none, .pick (.t 101) (.t 102) (.k (.one (.f (.bool false))))⟩, ⟨some 4, none, .mv (.t 103)⟩] [4]) .ret))))))))))⟩
def c14 : CF := ⟨2, [(.t 4)], [], [], (.seq (.reg [⟨some 4, none, .mv (.k (.one (.f (.bool false))))⟩] [0, 1]) (.seq (.seq (.reg [⟨some 5, none, .mv (.k (.one (.f (.int .i64 0))))⟩] [0, 1, 5]) (.block 0 (.loop [0, 1, 5] [20202] [] (.seq (.seq (.reg [⟨some 6, none, .mv (.t 5)⟩, ⟨some 7, none, .mv (.t 0)⟩, ⟨some 8, none, .iZ (.t 7)⟩, ⟨some 9, none, .cmp .lt (.t 6) (.t 8)⟩] [0, 1, 5, 9]) (.cond (.t 9) .skip (.exit 0))) (.seq (.block 1 (.seq (.reg [⟨some 12, none, .mv (.t 0)⟩, ⟨some 13, none, .mv (.t 5)⟩, ⟨some 14, none, .ia 8 (.t 12) (.t 13)⟩, ⟨some 15, none, .fa 2 (.t 14)⟩, ⟨some 16, none, .load 5 true (.t 15)⟩, ⟨some 17, none, .call false 35 [(.t 16)]⟩, ⟨some 18, none, .no (.t 17)⟩] [0, 1, 5, 18]) (.cond (.t 18) (.seq (.reg [⟨some 4, none, .mv (.k (.one (.f (.bool false))))⟩] [4]) .ret) .skip))) (.reg [⟨some 10, none, .mv (.t 5)⟩, ⟨some 11, none, .ar .add (.t 10) (.k (.one (.f (.int .i64 1))))⟩, ⟨some 5, none, .mv (.t 11)⟩] [0, 1, 5])))))) (.seq (.reg [⟨some 19, none, .mv (.t 0)⟩, ⟨some 20, none, .iZ (.t 19)⟩, ⟨some 21, none, .mv (.t 1)⟩, ⟨some 22, none, .cmp .le (.t 20) (.t 21)⟩, ⟨some 4, none, .mv (.t 22)⟩] [4]) .ret)))⟩
def c15 : CF := ⟨0, [(.t 0)], [], [], (.seq (.reg [⟨some 0, none, .mv (.k (.one (.f (.bool false))))⟩] []) (.seq (.reg [⟨some 17, none, .call false 16 [(.k (.one (.f (.int .i64 2))))]⟩, ⟨some 1, none, .mv (.t 17)⟩] [1]) (.seq (.seq (.reg [⟨some 18, none, .mv (.t 1)⟩, ⟨some 19, none, .mU false (.t 18)⟩, ⟨some 20, none, .mv (.t 19)⟩, ⟨(some 21), (some ⟨(some 20), false⟩), (.call false 16 [(.k (.one (.f (.int .i64 0))))])⟩, ⟨(some 22), (some ⟨(some 20), false⟩), (.mU true (.t 21))⟩, ⟨some 23, none, .pick (.t 20) (.k (.one (.f (.bool true)))) (.t 22)⟩, ⟨some 24, none, .mv (.t 23)⟩, ⟨(some 25), (some ⟨(some 24), false⟩), (.call false 16 [(.k (.one (.f (.int .i64 1001))))])⟩, ⟨(some 26), (some ⟨(some 24), false⟩), (.mU true (.t 25))⟩, ⟨some 27, none, .pick (.t 24) (.k (.one (.f (.bool true)))) (.t 26)⟩] [1, 27]) (.cond (.t 27) (.seq (.reg [⟨some 0, none, .mv (.k (.one (.f (.bool false))))⟩] [0]) .ret) .skip)) (.seq (.reg [⟨(some 28), none, (.build [(.f (.str ⟨#[]⟩)), (.f (.int .i64 0)), (.f (.int .i64 0))] [⟨0, ⟨1, (.k (.one (.f (.str ⟨#[1, 97, 0]⟩))))⟩⟩, ⟨1, ⟨1, (.k (.one (.f (.int .i64 1))))⟩⟩, ⟨2, ⟨1, (.k (.one (.f (.int .i64 1))))⟩⟩])⟩, ⟨(some 29), none, (.Fj 9 1 1 [(.f (.str ⟨#[]⟩))] [⟨0, ⟨1, (.k (.one (.f (.str ⟨#[49, 49, 49, 49]⟩))))⟩⟩])⟩, ⟨(some 30), none, (.build [(.f (.str ⟨#[]⟩)), (.f (.int .i64 0)), (.f (.int .i64 0)), .fG, (.f (.int .i64 0))] [⟨0, ⟨3, (.t 28)⟩⟩, ⟨3, ⟨1, (.t 29)⟩⟩, ⟨4, ⟨1, (.k (.one (.f (.int .i64 5))))⟩⟩])⟩, ⟨(some 2), none, (.alloc 35 [(.f (.str ⟨#[]⟩)), (.f (.int .i64 0)), (.f (.int .i64 0)), .fG, (.f (.int .i64 0))])⟩, ⟨none, none, (.store 5 (.t 2) (.t 30))⟩] [1, 2]) (.seq (.reg [⟨some 31, none, .load 5 true (.t 2)⟩, ⟨(some 3), none, (.alloc 35 [(.f (.str ⟨#[]⟩)), (.f (.int .i64 0)), (.f (.int .i64 0)), .fG, (.f (.int .i64 0))])⟩, ⟨none, none, (.store 5 (.t 3) (.t 31))⟩] [1, 2, 3]) (.seq (.reg [⟨some 32, none, .fa 0 (.t 3)⟩, ⟨some 33, none, .fa 0 (.t 32)⟩, ⟨none, none, (.store 1 (.t 33) (.k (.one (.f (.str ⟨#[1, 98, 0]⟩)))))⟩] [1, 2, 3]) (.seq (.reg [⟨some 34, none, .load 5 true (.t 2)⟩, ⟨(some 4), none, (.alloc 35 [(.f (.str ⟨#[]⟩)), (.f (.int .i64 0)), (.f (.int .i64 0)), .fG, (.f (.int .i64 0))])⟩, ⟨none, none, (.store 5 (.t 4) (.t 34))⟩] [1, 2, 3, 4]) (.seq (.reg [⟨some 35, none, .fa 0 (.t 4)⟩, ⟨some 36, none, .fa 0 (.t 35)⟩, ⟨none, none, (.store 1 (.t 36) (.k (.one (.f (.str ⟨#[1, 99, 0]⟩)))))⟩] [1, 2, 3, 4]) (.seq (.reg [⟨some 37, none, .mv (.t 1)⟩, ⟨some 38, none, .load 5 true (.t 2)⟩, ⟨some 39, none, .call false 19 [(.t 37), (.k (.one (.f (.int .i64 1)))), (.t 38), (.k (.one (.f (.int .i64 5))))]⟩, ⟨some 5, none, .mv (.t 39)⟩] [1, 2, 3, 4, 5]) (.seq (.reg [⟨some 40, none, .mv (.t 1)⟩, ⟨some 41, none, .load 5 true (.t 3)⟩, ⟨some 42, none, .call false 19 [(.t 40), (.k (.one (.f (.int .i64 1)))), (.t 41), (.k (.one (.f (.int .i64 3))))]⟩, ⟨some 6, none, .mv (.t 42)⟩] [1, 2, 3, 4, 5, 6]) (.seq (.reg [⟨some 43, none, .mv (.t 1)⟩, ⟨some 44, none, .load 5 true (.t 2)⟩, ⟨some 45, none, .call false 19 [(.t 43), (.k (.one (.f (.int .i64 2)))), (.t 44), (.k (.one (.f (.int .i64 4))))]⟩, ⟨some 7, none, .mv (.t 45)⟩] [1, 2, 3, 4, 5, 6, 7]) (.seq (.reg [⟨some 47, none, .mv (.t 1)⟩, ⟨some 48, none, .fa 0 (.t 2)⟩, ⟨some 49, none, .load 3 true (.t 48)⟩, ⟨some 50, none, .call false 21 [(.t 47), (.k (.one (.f (.int .i64 2)))), (.t 49)]⟩, ⟨some 46, none, .mv (.t 50)⟩, ⟨some 51, none, .ext (.t 46) 0⟩, ⟨some 52, none, .ext (.t 46) 1⟩, ⟨(some 8), none, (.alloc 46 [(.f (.str ⟨#[]⟩)), (.f (.int .i64 0)), (.f (.int .i64 0)), .fG, (.f (.int .i64 0)), (.f (.int .i64 0)), (.f (.int .i64 0))])⟩, ⟨none, none, (.store 7 (.t 8) (.t 51))⟩, ⟨some 9, none, .mv (.t 52)⟩] [1, 2, 3, 4, 5, 6, 7, 8, 9]) (.seq (.reg [⟨some 53, none, .mv (.t 1)⟩, ⟨some 54, none, .load 5 true (.t 4)⟩, ⟨some 55, none, .call false 19 [(.t 53), (.k (.one (.f (.int .i64 2)))), (.t 54), (.k (.one (.f (.int .i64 1))))]⟩, ⟨some 10, none, .mv (.t 55)⟩] [1, 2, 3, 5, 6, 7, 8, 9, 10]) (.seq (.reg [⟨some 57, none, .mv (.t 1)⟩, ⟨some 58, none, .fa 0 (.t 3)⟩, ⟨some 59, none, .load 3 true (.t 58)⟩, ⟨some 60, none, .call false 25 [(.t 57), (.k (.one (.f (.int .i64 2)))), (.t 59)]⟩, ⟨some 56, none, .mv (.t 60)⟩, ⟨some 61, none, .ext (.t 56) 0⟩, ⟨some 62, none, .ext (.t 56) 1⟩, ⟨(some 11), none, (.alloc 46 [(.f (.str ⟨#[]⟩)), (.f (.int .i64 0)), (.f (.int .i64 0)), .fG, (.f (.int .i64 0)), (.f (.int .i64 0)), (.f (.int .i64 0))])⟩, ⟨none, none, (.store 7 (.t 11) (.t 61))⟩, ⟨some 12, none, .mv (.t 62)⟩] [1, 2, 5, 6, 7, 8, 9, 10, 12]) (.seq (.reg [⟨some 64, none, .mv (.t 1)⟩, ⟨some 65, none, .fa 0 (.t 2)⟩, ⟨some 66, none, .load 3 true (.t 65)⟩, ⟨some 67, none, .call false 25 [(.t 64), (.k (.one (.f (.int .i64 6)))), (.t 66)]⟩, ⟨some 63, none, .mv (.t 67)⟩, ⟨some 68, none, .ext (.t 63) 0⟩, ⟨some 69, none, .ext (.t 63) 1⟩, ⟨(some 13), none, (.alloc 46 [(.f (.str ⟨#[]⟩)), (.f (.int .i64 0)), (.f (.int .i64 0)), .fG, (.f (.int .i64 0)), (.f (.int .i64 0)), (.f (.int .i64 0))])⟩, ⟨none, none, (.store 7 (.t 13) (.t 68))⟩, ⟨some 14, none, .mv (.t 69)⟩] [1, 2, 5, 6, 7, 8, 9, 10, 12, 14]) (.seq (.reg [⟨some 70, none, .load 5 true (.t 2)⟩, ⟨(some 15), none, (.alloc 35 [(.f (.str ⟨#[]⟩)), (.f (.int .i64 0)), (.f (.int .i64 0)), .fG, (.f (.int .i64 0))])⟩, ⟨none, none, (.store 5 (.t 15) (.t 70))⟩] [1, 2, 5, 6, 7, 8, 9, 10, 12, 14, 15]) (.seq (.reg [⟨some 71, none, .fa 4 (.t 15)⟩, ⟨none, none, (.store 1 (.t 71) (.k (.one (.f (.int .i64 0)))))⟩] [1, 2, 5, 6, 7, 8, 9, 10, 12, 14, 15]) (.seq (.reg [⟨some 72, none, .mv (.t 1)⟩, ⟨some 73, none, .load 5 true (.t 15)⟩, ⟨some 74, none, .call false 19 [(.t 72), (.k (.one (.f (.int .i64 2)))), (.t 73), (.k (.one (.f (.int .i64 5))))]⟩, ⟨some 16, none, .mv (.t 74)⟩] [1, 2, 5, 6, 7, 8, 9, 10, 12, 14, 16]) (.seq (.reg [⟨some 75, none, .mv (.t 5)⟩, ⟨some 76, none, .cmp .eq (.t 75) (.k (.one (.f (.int .i64 0))))⟩, ⟨some 77, none, .mv (.t 76)⟩, ⟨(some 78), (some ⟨(some 77), true⟩), (.mv (.t 6))⟩, ⟨(some 79), (some ⟨(some 77), true⟩), (.cmp .eq (.t 78) (.k (.one (.f (.int .i64 0)))))⟩, ⟨some 80, none, .pick (.t 77) (.t 79) (.k (.one (.f (.bool false))))⟩, ⟨some 81, none, .mv (.t 80)⟩, ⟨(some 82), (some ⟨(some 81), true⟩), (.mv (.t 7))⟩, ⟨(some 83), (some ⟨(some 81), true⟩), (.cmp .eq (.t 82) (.k (.one (.f (.int .i64 10)))))⟩, ⟨some 84, none, .pick (.t 81) (.t 83) (.k (.one (.f (.bool false))))⟩, ⟨some 85, none, .mv (.t 84)⟩, ⟨(some 86), (some ⟨(some 85), true⟩), (.mv (.t 9))⟩, ⟨some 87, none, .pick (.t 85) (.t 86) (.k (.one (.f (.bool false))))⟩, ⟨some 88, none, .mv (.t 87)⟩, ⟨(some 89), (some ⟨(some 88), true⟩), (.fa 5 (.t 8))⟩, ⟨(some 90), (some ⟨(some 88), true⟩), (.load 1 false (.t 89))⟩, ⟨(some 91), (some ⟨(some 88), true⟩), (.cmp .eq (.t 90) (.k (.one (.f (.int .i64 6)))))⟩, ⟨some 92, none, .pick (.t 88) (.t 91) (.k (.one (.f (.bool false))))⟩, ⟨some 93, none, .mv (.t 92)⟩, ⟨(some 94), (some ⟨(some 93), true⟩), (.fa 6 (.t 8))⟩, ⟨(some 95), (some ⟨(some 93), true⟩), (.load 1 false (.t 94))⟩, ⟨(some 96), (some ⟨(some 93), true⟩), (.cmp .eq (.t 95) (.k (.one (.f (.int .i64 5)))))⟩, ⟨some 97, none, .pick (.t 93) (.t 96) (.k (.one (.f (.bool false))))⟩, ⟨some 98, none, .mv (.t 97)⟩, ⟨(some 99), (some ⟨(some 98), true⟩), (.mv (.t 10))⟩, ⟨(some 100), (some ⟨(some 98), true⟩), (.cmp .eq (.t 99) (.k (.one (.f (.int .i64 0)))))⟩, ⟨some 101, none, .pick (.t 98) (.t 100) (.k (.one (.f (.bool false))))⟩, ⟨some 102, none, .mv (.t 101)⟩, ⟨(some 103), (some ⟨(some 102), true⟩), (.mv (.t 12))⟩, ⟨(some 104), (some ⟨(some 102), true⟩), (.no (.t 103))⟩, ⟨some 105, none, .pick (.t 102) (.t 104) (.k (.one (.f (.bool false))))⟩, ⟨some 106, none, .mv (.t 105)⟩, ⟨(some 107), (some ⟨(some 106), true⟩), (.mv (.t 14))⟩, ⟨(some 108), (some ⟨(some 106), true⟩), (.no (.t 107))⟩, ⟨some 109, none, .pick (.t 106) (.t 108) (.k (.one (.f (.bool false))))⟩, ⟨some 110, none, .mv (.t 109)⟩, ⟨(some 111), (some ⟨(some 110), true⟩), (.mv (.t 16))⟩, ⟨(some 112), (some ⟨(some 110), true⟩), (.cmp .eq (.t 111) (.k (.one (.f (.int .i64 14)))))⟩, ⟨some 113, none, .pick (.t 110) (.t 112) (.k (.one (.f (.bool false))))⟩, ⟨some 114, none, .mv (.t 113)⟩, ⟨(some 115), (some ⟨(some 114), true⟩), (.mv (.t 1))⟩, ⟨(some 116), (some ⟨(some 114), true⟩), (.call false 31 [(.t 115)])⟩, ⟨(some 117), (some ⟨(some 114), true⟩), (.cmp .eq (.t 116) (.k (.one (.f (.int .i64 3)))))⟩, ⟨some 118, none, .pick (.t 114) (.t 117) (.k (.one (.f (.bool false))))⟩, ⟨some 119, none, .mv (.t 118)⟩, ⟨(some 120), (some ⟨(some 119), true⟩), (.mv (.t 1))⟩, ⟨(some 121), (some ⟨(some 119), true⟩), (.call false 29 [(.t 120)])⟩, ⟨(some 122), (some ⟨(some 119), true⟩), (.iZ (.t 121))⟩, ⟨(some 123), (some ⟨(some 119), true⟩), (.cmp .eq (.t 122) (.k (.one (.f (.int .i64 2)))))⟩, ⟨some 124, none, .pick (.t 119) (.t 123) (.k (.one (.f (.bool false))))⟩, ⟨some 125, none, .mv (.t 124)⟩, ⟨(some 126), (some ⟨(some 125), true⟩), (.mv (.t 1))⟩, ⟨(some 127), (some ⟨(some 125), true⟩), (.fa 0 (.t 2))⟩, ⟨(some 128), (some ⟨(some 125), true⟩), (.load 3 true (.t 127))⟩, ⟨(some 129), (some ⟨(some 125), true⟩), (.call false 27 [(.t 126), (.t 128)])⟩, ⟨some 130, none, .pick (.t 125) (.t 129) (.k (.one (.f (.bool false))))⟩, ⟨some 131, none, .mv (.t 130)⟩, ⟨(some 132), (some ⟨(some 131), true⟩), (.mv (.t 1))⟩, ⟨(some 133), (some ⟨(some 131), true⟩), (.fa 0 (.t 2))⟩, ⟨(some 134), (some ⟨(some 131), true⟩), (.load 3 true (.t 133))⟩, ⟨(some 135), (some ⟨(some 131), true⟩), (.call false 27 [(.t 132), (.t 134)])⟩, ⟨(some 136), (some ⟨(some 131), true⟩), (.no (.t 135))⟩, ⟨some 137, none, .pick (.t 131) (.t 136) (.k (.one (.f (.bool false))))⟩, ⟨some 138, none, .mv (.t 137)⟩, ⟨(some 139), (some ⟨(some 138), true⟩), (.mv (.t 1))⟩, ⟨(some 140), (some ⟨(some 138), true⟩), (.call false 31 [(.t 139)])⟩, ⟨(some 141), (some ⟨(some 138), true⟩), (.cmp .eq (.t 140) (.k (.one (.f (.int .i64 4)))))⟩, ⟨some 142, none, .pick (.t 138) (.t 141) (.k (.one (.f (.bool false))))⟩, ⟨some 143, none, .mv (.t 142)⟩, ⟨(some 144), (some ⟨(some 143), true⟩), (.mv (.t 1))⟩, ⟨(some 145), (some ⟨(some 143), true⟩), (.load 5 true (.t 2))⟩, ⟨(some 146), (some ⟨(some 143), true⟩), (.call false 19 [(.t 144), (.k (.one (.f (.int .i64 (-1))))), (.t 145), (.k (.one (.f (.int .i64 5))))])⟩, ⟨(some 147), (some ⟨(some 143), true⟩), (.cmp .eq (.t 146) (.k (.one (.f (.int .i64 1)))))⟩, ⟨some 148, none, .pick (.t 143) (.t 147) (.k (.one (.f (.bool false))))⟩, ⟨some 0, none, .mv (.t 148)⟩] [0]) .ret)))))))))))))))))))⟩
def c16 : CF := ⟨1, [(.t 2)], [], [], (.seq (.reg [⟨some 2, none, .mv (.k (.one .jo))⟩] [0]) (.seq (.seq (.reg [⟨some 3, none, .mv (.t 0)⟩, ⟨some 4, none, .cmp .lt (.t 3) (.k (.one (.f (.int .i64 1))))⟩, ⟨some 5, none, .mv (.t 4)⟩, ⟨(some 6), (some ⟨(some 5), false⟩), (.mv (.t 0))⟩, ⟨(some 7), (some ⟨(some 5), false⟩), (.cmp .gt (.t 6) (.k (.one (.f (.int .i64 1000)))))⟩, ⟨some 8, none, .pick (.t 5) (.k (.one (.f (.bool true)))) (.t 7)⟩] [0, 8]) (.cond (.t 8) (.seq (.reg [⟨some 2, none, .mv (.k (.one .jo))⟩] [2]) .ret) .skip)) (.seq (.reg [⟨some 9, none, .mv (.t 0)⟩, ⟨some 10, none, .rz (.agg [.str, (.int .i64), (.int .i64)])⟩, ⟨(some 11), none, (.build [(.f (.int .i64 0)), .fA, .fG, (.f (.int .i64 0))] [⟨0, ⟨1, (.t 9)⟩⟩, ⟨1, ⟨1, (.t 10)⟩⟩])⟩, ⟨some 12, none, .box 106 (.t 11)⟩, ⟨some 2, none, .mv (.t 12)⟩] [2]) .ret)))⟩
def c17 : CF := ⟨1, [(.cell 2 3 true)], [], [], (.seq (.reg [⟨some 2, none, .alloc 29 [(.f (.int .i64 0)), .fG, (.f (.int .i64 0))]⟩] [0, 2]) (.seq (.seq (.reg [⟨some 3, none, .mv (.t 0)⟩, ⟨some 4, none, .cmp .lt (.t 3) (.k (.one (.f (.int .i64 1))))⟩, ⟨some 5, none, .mv (.t 4)⟩, ⟨(some 6), (some ⟨(some 5), false⟩), (.mv (.t 0))⟩, ⟨(some 7), (some ⟨(some 5), false⟩), (.cmp .gt (.t 6) (.k (.one (.f (.int .i64 1000)))))⟩, ⟨some 8, none, .pick (.t 5) (.k (.one (.f (.bool true)))) (.t 7)⟩] [0, 2, 8]) (.cond (.t 8) (.seq (.reg [⟨some 9, none, .build [(.f (.int .i64 0)), .fG, (.f (.int .i64 0))] []⟩, ⟨none, none, (.store 3 (.t 2) (.t 9))⟩] [2]) .ret) .skip)) (.seq (.reg [⟨some 10, none, .mv (.t 0)⟩, ⟨(some 11), none, (.build [(.f (.int .i64 0)), .fG, (.f (.int .i64 0))] [⟨0, ⟨1, (.t 10)⟩⟩])⟩, ⟨none, none, (.store 3 (.t 2) (.t 11))⟩] [2]) .ret)))⟩
def c20 : CF := ⟨3, [(.cell 6 3 true), (.cell 7 7 true), (.t 8)], [], [], (.seq (.reg [⟨some 3, none, .box 29 (.t 0)⟩, ⟨some 5, none, .box 32 (.t 2)⟩, ⟨some 6, none, .alloc 29 [(.f (.int .i64 0)), .fG, (.f (.int .i64 0))]⟩, ⟨(some 7), none, (.alloc 43 [(.f (.str ⟨#[]⟩)), (.f (.int .i64 0)), (.f (.int .i64 0)), .fG, (.f (.int .i64 0)), (.f (.int .i64 0)), (.f (.int .i64 0))])⟩, ⟨some 8, none, .mv (.k (.one (.f (.bool false))))⟩] [1, 3, 5, 6, 7]) (.seq (.reg [⟨some 13, none, .load 3 true (.t 3)⟩, ⟨some 14, none, .mv (.t 1)⟩, ⟨some 15, none, .load 3 true (.t 5)⟩, ⟨some 16, none, .call false 24 [(.t 13), (.t 14), (.t 15)]⟩, ⟨some 12, none, .mv (.t 16)⟩, ⟨some 17, none, .ext (.t 12) 0⟩, ⟨some 18, none, .ext (.t 12) 1⟩, ⟨(some 9), none, (.alloc 43 [(.f (.str ⟨#[]⟩)), (.f (.int .i64 0)), (.f (.int .i64 0)), .fG, (.f (.int .i64 0)), (.f (.int .i64 0)), (.f (.int .i64 0))])⟩, ⟨none, none, (.store 7 (.t 9) (.t 17))⟩, ⟨some 10, none, .mv (.t 18)⟩] [3, 5, 6, 7, 9, 10]) (.seq (.seq (.reg [⟨some 19, none, .mv (.t 10)⟩] [3, 5, 6, 7, 9, 10, 19]) (.cond (.t 19) (.seq (.rA [⟨⟨some 20, none, .fa 1 (.t 3)⟩, []⟩, ⟨⟨some 21, none, .load 1 false (.t 20)⟩, []⟩, ⟨⟨some 22, none, .load 3 true (.t 3)⟩, []⟩, ⟨⟨some 23, none, .load 3 true (.t 5)⟩, []⟩, ⟨⟨some 24, none, .call false 59 [(.t 22), (.t 23)]⟩, []⟩] [] [] [⟨some 25, none, .call false 61 [(.t 21), (.t 24)]⟩, ⟨some 11, none, .mv (.t 25)⟩] [3, 6, 7, 9, 10, 11]) (.seq (.reg [⟨some 26, none, .mv (.t 11)⟩, ⟨some 27, none, .load 7 true (.t 9)⟩, ⟨(some 28), none, (.Fj 43 7 1 [(.f (.str ⟨#[]⟩)), (.f (.int .i64 0)), (.f (.int .i64 0)), .fG, (.f (.int .i64 0)), (.f (.int .i64 0)), (.f (.int .i64 0))] [⟨0, ⟨7, (.t 27)⟩⟩])⟩, ⟨some 29, none, .app 43 7 80 (.t 26) (.t 28)⟩, ⟨some 11, none, .mv (.t 29)⟩] [3, 6, 7, 9, 10, 11]) (.reg [⟨some 30, none, .mv (.t 11)⟩, ⟨some 31, none, .fa 1 (.t 3)⟩, ⟨none, none, (.store 1 (.t 31) (.t 30))⟩] [3, 6, 7, 9, 10]))) .skip)) (.seq (.rA [⟨⟨some 32, none, .load 3 true (.t 3)⟩, []⟩, ⟨⟨some 33, none, .load 7 true (.t 9)⟩, []⟩, ⟨⟨some 34, none, .mv (.t 10)⟩, []⟩] [1, 2] [⟨none, none, (.store 3 (.t 6) (.t 32))⟩, ⟨none, none, (.store 7 (.t 7) (.t 33))⟩] [⟨some 8, none, .mv (.t 34)⟩] [6, 7, 8]) .ret))))⟩
def c21 : CF := ⟨3, [(.cell 6 7 true), (.t 7)], [], [], (.seq (.reg [⟨some 5, none, .box 32 (.t 2)⟩, ⟨(some 6), none, (.alloc 46 [(.f (.str ⟨#[]⟩)), (.f (.int .i64 0)), (.f (.int .i64 0)), .fG, (.f (.int .i64 0)), (.f (.int .i64 0)), (.f (.int .i64 0))])⟩, ⟨some 7, none, .mv (.k (.one (.f (.bool false))))⟩] [0, 1, 5, 6]) (.seq (.reg [⟨some 11, none, .mv (.t 0)⟩, ⟨some 12, none, .mv (.t 1)⟩, ⟨some 13, none, .load 3 true (.t 5)⟩, ⟨some 14, none, .call false 25 [(.t 11), (.t 12), (.t 13)]⟩, ⟨some 10, none, .mv (.t 14)⟩, ⟨some 15, none, .ext (.t 10) 0⟩, ⟨some 16, none, .ext (.t 10) 1⟩, ⟨(some 8), none, (.alloc 46 [(.f (.str ⟨#[]⟩)), (.f (.int .i64 0)), (.f (.int .i64 0)), .fG, (.f (.int .i64 0)), (.f (.int .i64 0)), (.f (.int .i64 0))])⟩, ⟨none, none, (.store 7 (.t 8) (.t 15))⟩, ⟨some 9, none, .mv (.t 16)⟩] [0, 5, 6, 8, 9]) (.seq (.seq (.reg [⟨some 17, none, .mv (.t 9)⟩] [0, 5, 6, 8, 9, 17]) (.cond (.t 17) (.rA [⟨⟨some 18, none, .mv (.t 0)⟩, []⟩, ⟨⟨some 19, none, .mv (.t 0)⟩, []⟩, ⟨⟨some 20, none, .kW (.t 19)⟩, []⟩, ⟨⟨some 21, none, .fa 2 (.t 20)⟩, []⟩, ⟨⟨some 22, none, .load 1 false (.t 21)⟩, []⟩, ⟨⟨some 23, none, .load 3 true (.t 5)⟩, []⟩, ⟨⟨some 24, none, .call false 67 [(.t 22), (.t 23)]⟩, []⟩] [] [] [⟨some 25, none, .kW (.t 18)⟩, ⟨some 26, none, .fa 2 (.t 25)⟩, ⟨none, none, (.store 1 (.t 26) (.t 24))⟩] [6, 8, 9]) .skip)) (.seq (.reg [⟨some 27, none, .load 7 true (.t 8)⟩, ⟨some 28, none, .mv (.t 9)⟩, ⟨none, none, (.store 7 (.t 6) (.t 27))⟩, ⟨some 7, none, .mv (.t 28)⟩] [6, 7]) .ret))))⟩
def BQ : CF := ⟨2, [(.t 4)], [], [], (.seq (.reg [⟨some 2, none, .box 43 (.t 0)⟩, ⟨some 3, none, .box 43 (.t 1)⟩, ⟨some 4, none, .mv (.k (.one (.f (.bool false))))⟩] [2, 3]) (.seq (.reg [⟨some 5, none, .fa 0 (.t 2)⟩, ⟨some 6, none, .load 5 true (.t 5)⟩, ⟨some 7, none, .fa 0 (.t 3)⟩, ⟨some 8, none, .load 5 true (.t 7)⟩, ⟨some 9, none, .call false 32 [(.t 6), (.t 8)]⟩, ⟨some 10, none, .mv (.t 9)⟩, ⟨(some 11), (some ⟨(some 10), true⟩), (.fa 5 (.t 2))⟩, ⟨(some 12), (some ⟨(some 10), true⟩), (.load 1 false (.t 11))⟩, ⟨(some 13), (some ⟨(some 10), true⟩), (.fa 5 (.t 3))⟩, ⟨(some 14), (some ⟨(some 10), true⟩), (.load 1 false (.t 13))⟩, ⟨(some 15), (some ⟨(some 10), true⟩), (.cmp .eq (.t 12) (.t 14))⟩, ⟨some 16, none, .pick (.t 10) (.t 15) (.k (.one (.f (.bool false))))⟩, ⟨some 17, none, .mv (.t 16)⟩, ⟨(some 18), (some ⟨(some 17), true⟩), (.fa 6 (.t 2))⟩, ⟨(some 19), (some ⟨(some 17), true⟩), (.load 1 false (.t 18))⟩, ⟨(some 20), (some ⟨(some 17), true⟩), (.fa 6 (.t 3))⟩, ⟨(some 21), (some ⟨(some 17), true⟩), (.load 1 false (.t 20))⟩, ⟨(some 22), (some ⟨(some 17), true⟩), (.cmp .eq (.t 19) (.t 21))⟩, ⟨some 23, none, .pick (.t 17) (.t 22) (.k (.one (.f (.bool false))))⟩, ⟨some 4, none, .mv (.t 23)⟩] [4]) .ret))⟩
def c23 : CF := ⟨1, [(.cell 2 7 true)], [], [], (.seq (.reg [⟨some 1, none, .box 46 (.t 0)⟩, ⟨(some 2), none, (.alloc 43 [(.f (.str ⟨#[]⟩)), (.f (.int .i64 0)), (.f (.int .i64 0)), .fG, (.f (.int .i64 0)), (.f (.int .i64 0)), (.f (.int .i64 0))])⟩] [1, 2]) (.seq (.reg [⟨some 3, none, .fa 0 (.t 1)⟩, ⟨some 4, none, .load 5 true (.t 3)⟩, ⟨some 5, none, .fa 5 (.t 1)⟩, ⟨some 6, none, .load 1 false (.t 5)⟩, ⟨some 7, none, .fa 6 (.t 1)⟩, ⟨some 8, none, .load 1 false (.t 7)⟩, ⟨(some 9), none, (.build [(.f (.str ⟨#[]⟩)), (.f (.int .i64 0)), (.f (.int .i64 0)), .fG, (.f (.int .i64 0)), (.f (.int .i64 0)), (.f (.int .i64 0))] [⟨0, ⟨5, (.t 4)⟩⟩, ⟨5, ⟨1, (.t 6)⟩⟩, ⟨6, ⟨1, (.t 8)⟩⟩])⟩, ⟨none, none, (.store 7 (.t 2) (.t 9))⟩] [2]) .ret))⟩
def L6 : CF := ⟨3, [(.cell 6 7 true), (.t 7)], [], [], (.seq (.reg [⟨some 5, none, .box 32 (.t 2)⟩, ⟨(some 6), none, (.alloc 46 [(.f (.str ⟨#[]⟩)), (.f (.int .i64 0)), (.f (.int .i64 0)), .fG, (.f (.int .i64 0)), (.f (.int .i64 0)), (.f (.int .i64 0))])⟩, ⟨some 7, none, .mv (.k (.one (.f (.bool false))))⟩] [0, 1, 5, 6]) (.seq (.seq (.reg [⟨some 10, none, .mv (.t 0)⟩, ⟨some 11, none, .mU false (.t 10)⟩] [0, 1, 5, 6, 11]) (.cond (.t 11) (.seq (.reg [⟨(some 12), none, (.build [(.f (.str ⟨#[]⟩)), (.f (.int .i64 0)), (.f (.int .i64 0)), .fG, (.f (.int .i64 0)), (.f (.int .i64 0)), (.f (.int .i64 0))] [])⟩, ⟨none, none, (.store 7 (.t 6) (.t 12))⟩, ⟨some 7, none, .mv (.k (.one (.f (.bool false))))⟩] [6, 7]) .ret) .skip)) (.seq (.rA [⟨⟨some 14, none, .mv (.t 0)⟩, [180000]⟩, ⟨⟨some 15, none, .kW (.t 14)⟩, [180000]⟩, ⟨⟨some 16, none, .fa 1 (.t 15)⟩, [180000]⟩, ⟨⟨some 17, none, .load 1 false (.t 16)⟩, [180000]⟩, ⟨⟨some 18, none, .load 3 true (.t 5)⟩, [180000]⟩, ⟨⟨(some 19), none, (.look (.agg [.str, (.int .i64), (.int .i64)]) (.agg [(.str ⟨#[]⟩), (.int .i64 0), (.int .i64 0), (.sl []), (.int .i64 0), (.int .i64 0), (.int .i64 0)]) true (.t 17) (.t 18))⟩, [180000]⟩, ⟨⟨some 13, none, .mv (.t 19)⟩, [180000]⟩, ⟨⟨some 20, none, .ext (.t 13) 0⟩, [180000]⟩, ⟨⟨some 21, none, .ext (.t 13) 1⟩, [180000]⟩, ⟨⟨(some 8), none, (.alloc 46 [(.f (.str ⟨#[]⟩)), (.f (.int .i64 0)), (.f (.int .i64 0)), .fG, (.f (.int .i64 0)), (.f (.int .i64 0)), (.f (.int .i64 0))])⟩, []⟩] [8] [⟨none, none, (.store 7 (.t 8) (.t 20))⟩] [⟨some 9, none, .mv (.t 21)⟩] [1, 6, 8, 9]) (.seq (.seq (.reg [⟨some 22, none, .mv (.t 9)⟩, ⟨some 23, none, .no (.t 22)⟩, ⟨some 24, none, .mv (.t 23)⟩, ⟨(some 25), (some ⟨(some 24), false⟩), (.mv (.t 1))⟩, ⟨(some 26), (some ⟨(some 24), false⟩), (.fa 5 (.t 8))⟩, ⟨(some 27), (some ⟨(some 24), false⟩), (.load 1 false (.t 26))⟩, ⟨(some 28), (some ⟨(some 24), false⟩), (.call false 68 [(.t 25), (.t 27)])⟩, ⟨(some 29), (some ⟨(some 24), false⟩), (.no (.t 28))⟩, ⟨some 30, none, .pick (.t 24) (.k (.one (.f (.bool true)))) (.t 29)⟩] [6, 8, 30]) (.cond (.t 30) (.seq (.reg [⟨(some 31), none, (.build [(.f (.str ⟨#[]⟩)), (.f (.int .i64 0)), (.f (.int .i64 0)), .fG, (.f (.int .i64 0)), (.f (.int .i64 0)), (.f (.int .i64 0))] [])⟩, ⟨none, none, (.store 7 (.t 6) (.t 31))⟩, ⟨some 7, none, .mv (.k (.one (.f (.bool false))))⟩] [6, 7]) .ret) .skip)) (.seq (.reg [⟨some 32, none, .load 7 true (.t 8)⟩, ⟨some 33, none, .call false 65 [(.t 32)]⟩, ⟨none, none, (.store 7 (.t 6) (.t 33))⟩, ⟨some 7, none, .mv (.k (.one (.f (.bool true))))⟩] [6, 7]) .ret)))))⟩
def Xo : CF := ⟨2, [(.t 4)], [], [], (.seq (.reg [⟨some 3, none, .box 32 (.t 1)⟩, ⟨some 4, none, .mv (.k (.one (.f (.bool false))))⟩] [0, 3]) (.seq (.seq (.reg [⟨some 7, none, .mv (.t 0)⟩, ⟨some 8, none, .mU false (.t 7)⟩] [0, 3, 8]) (.cond (.t 8) (.seq (.reg [⟨some 4, none, .mv (.k (.one (.f (.bool false))))⟩] [4]) .ret) .skip)) (.seq (.seq (.rA [⟨⟨some 10, none, .mv (.t 0)⟩, [120000]⟩, ⟨⟨some 11, none, .kW (.t 10)⟩, [120000]⟩, ⟨⟨some 12, none, .fa 1 (.t 11)⟩, [120000]⟩, ⟨⟨some 13, none, .load 1 false (.t 12)⟩, [120000]⟩, ⟨⟨some 14, none, .load 3 true (.t 3)⟩, [120000]⟩, ⟨⟨(some 15), none, (.look (.agg [.str, (.int .i64), (.int .i64)]) (.agg [(.str ⟨#[]⟩), (.int .i64 0), (.int .i64 0), (.sl []), (.int .i64 0), (.int .i64 0), (.int .i64 0)]) true (.t 13) (.t 14))⟩, [120000]⟩, ⟨⟨some 9, none, .mv (.t 15)⟩, [120000]⟩, ⟨⟨some 16, none, .ext (.t 9) 0⟩, [120000]⟩, ⟨⟨some 17, none, .ext (.t 9) 1⟩, [120000]⟩, ⟨⟨(some 5), none, (.alloc 46 [(.f (.str ⟨#[]⟩)), (.f (.int .i64 0)), (.f (.int .i64 0)), .fG, (.f (.int .i64 0)), (.f (.int .i64 0)), (.f (.int .i64 0))])⟩, []⟩] [8] [⟨none, none, (.store 7 (.t 5) (.t 16))⟩] [⟨some 6, none, .mv (.t 17)⟩] [0, 3, 6]) (.seq (.reg [⟨some 18, none, .mv (.t 6)⟩, ⟨some 19, none, .no (.t 18)⟩] [0, 3, 19]) (.cond (.t 19) (.seq (.reg [⟨some 4, none, .mv (.k (.one (.f (.bool false))))⟩] [4]) .ret) .skip))) (.seq (.rA [⟨⟨some 20, none, .mv (.t 0)⟩, []⟩, ⟨⟨some 21, none, .kW (.t 20)⟩, []⟩, ⟨⟨some 22, none, .fa 1 (.t 21)⟩, []⟩, ⟨⟨some 23, none, .load 1 false (.t 22)⟩, []⟩, ⟨⟨some 24, none, .load 3 true (.t 3)⟩, []⟩] [] [] [⟨none, none, (.del (.agg [.str, (.int .i64), (.int .i64)]) (.t 23) (.t 24))⟩] [0, 3]) (.seq (.rA [⟨⟨some 25, none, .mv (.t 0)⟩, []⟩, ⟨⟨some 26, none, .mv (.t 0)⟩, []⟩, ⟨⟨some 27, none, .kW (.t 26)⟩, []⟩, ⟨⟨some 28, none, .fa 2 (.t 27)⟩, []⟩, ⟨⟨some 29, none, .load 1 false (.t 28)⟩, []⟩, ⟨⟨some 30, none, .load 3 true (.t 3)⟩, []⟩, ⟨⟨some 31, none, .call false 69 [(.t 29), (.t 30)]⟩, []⟩] [] [] [⟨some 32, none, .kW (.t 25)⟩, ⟨some 33, none, .fa 2 (.t 32)⟩, ⟨none, none, (.store 1 (.t 33) (.t 31))⟩] [0]) (.seq (.reg [⟨some 34, none, .mv (.t 0)⟩, ⟨some 35, none, .kW (.t 34)⟩, ⟨some 36, none, .fa 3 (.t 35)⟩, ⟨some 37, none, .load 1 false (.t 36)⟩, ⟨some 38, none, .ar .add (.t 37) (.k (.one (.f (.int .i64 1))))⟩, ⟨some 39, none, .kW (.t 34)⟩, ⟨some 40, none, .fa 3 (.t 39)⟩, ⟨none, none, (.store 1 (.t 40) (.t 38))⟩] []) (.seq (.reg [⟨some 4, none, .mv (.k (.one (.f (.bool true))))⟩] [4]) .ret)))))))⟩
def c28 : CF := ⟨2, [(.t 4)], [], [], (.seq (.reg [⟨some 4, none, .mv (.k (.one (.f (.bool false))))⟩] [0, 1]) (.seq (.seq (.reg [⟨some 6, none, .mv (.t 0)⟩, ⟨some 7, none, .iZ (.t 6)⟩, ⟨some 8, none, .mv (.t 1)⟩, ⟨some 9, none, .iZ (.t 8)⟩, ⟨some 10, none, .cmp .ne (.t 7) (.t 9)⟩] [0, 1, 10]) (.cond (.t 10) (.seq (.reg [⟨some 4, none, .mv (.k (.one (.f (.bool false))))⟩] [4]) .ret) .skip)) (.seq (.seq (.reg [⟨some 5, none, .mv (.k (.one (.f (.int .i64 0))))⟩] [0, 1, 5]) (.block 0 (.loop [0, 1, 5] [20202, 40202] [] (.seq (.seq (.reg [⟨some 11, none, .mv (.t 5)⟩, ⟨some 12, none, .mv (.t 0)⟩, ⟨some 13, none, .iZ (.t 12)⟩, ⟨some 14, none, .cmp .lt (.t 11) (.t 13)⟩] [0, 1, 5, 14]) (.cond (.t 14) .skip (.exit 0))) (.seq (.block 1 (.seq (.rA [⟨⟨some 17, none, .mv (.t 0)⟩, []⟩, ⟨⟨some 18, none, .mv (.t 5)⟩, []⟩, ⟨⟨some 19, none, .ia 3 (.t 17) (.t 18)⟩, []⟩, ⟨⟨some 20, none, .load 3 true (.t 19)⟩, []⟩, ⟨⟨some 21, none, .mv (.t 1)⟩, []⟩, ⟨⟨some 22, none, .mv (.t 5)⟩, []⟩, ⟨⟨some 23, none, .ia 3 (.t 21) (.t 22)⟩, []⟩, ⟨⟨some 24, none, .load 3 true (.t 23)⟩, []⟩] [] [] [⟨some 25, none, .tY (.agg [.str, (.int .i64), (.int .i64)]) true (.t 20) (.t 24)⟩] [0, 1, 5, 25]) (.cond (.t 25) (.seq (.reg [⟨some 4, none, .mv (.k (.one (.f (.bool false))))⟩] [4]) .ret) .skip))) (.reg [⟨some 15, none, .mv (.t 5)⟩, ⟨some 16, none, .ar .add (.t 15) (.k (.one (.f (.int .i64 1))))⟩, ⟨some 5, none, .mv (.t 16)⟩] [0, 1, 5])))))) (.seq (.reg [⟨some 4, none, .mv (.k (.one (.f (.bool true))))⟩] [4]) .ret))))⟩
def Hw : CF := ⟨1, [(.t 2)], [], [], (.seq (.reg [⟨some 2, none, .mv (.k (.one .fG))⟩] [0]) (.seq (.seq (.reg [⟨some 3, none, .mv (.t 0)⟩, ⟨some 4, none, .mU false (.t 3)⟩] [0, 4]) (.cond (.t 4) (.seq (.reg [⟨some 2, none, .mv (.k (.one .fG))⟩] [2]) .ret) .skip)) (.seq (.reg [⟨some 5, none, .mv (.t 0)⟩, ⟨some 6, none, .kW (.t 5)⟩, ⟨some 7, none, .fa 2 (.t 6)⟩, ⟨some 8, none, .load 1 false (.t 7)⟩, ⟨some 9, none, .call false 70 [(.t 8)]⟩, ⟨some 2, none, .mv (.t 9)⟩] [2]) .ret)))⟩
def c31 : CF := ⟨1, [(.t 2)], [], [], (.seq (.reg [⟨some 2, none, .mv (.k (.one (.f (.int .i64 0))))⟩] [0]) (.seq (.seq (.reg [⟨some 3, none, .mv (.t 0)⟩, ⟨some 4, none, .mU false (.t 3)⟩] [0, 4]) (.cond (.t 4) (.seq (.reg [⟨some 2, none, .mv (.k (.one (.f (.int .i64 0))))⟩] [2]) .ret) .skip)) (.seq (.reg [⟨some 5, none, .mv (.t 0)⟩, ⟨some 6, none, .kW (.t 5)⟩, ⟨some 7, none, .fa 3 (.t 6)⟩, ⟨some 8, none, .load 1 false (.t 7)⟩, ⟨some 2, none, .mv (.t 8)⟩] [2]) .ret)))⟩
def c32 : CF := ⟨2, [(.t 4)], [], [], (.seq (.reg [⟨some 2, none, .box 35 (.t 0)⟩, ⟨some 3, none, .box 35 (.t 1)⟩, ⟨some 4, none, .mv (.k (.one (.f (.bool false))))⟩] [2, 3]) (.seq (.reg [⟨some 5, none, .fa 0 (.t 2)⟩, ⟨some 6, none, .load 3 true (.t 5)⟩, ⟨some 7, none, .fa 0 (.t 3)⟩, ⟨some 8, none, .load 3 true (.t 7)⟩, ⟨some 9, none, .tY (.agg [.str, (.int .i64), (.int .i64)]) false (.t 6) (.t 8)⟩, ⟨some 10, none, .mv (.t 9)⟩, ⟨(some 11), (some ⟨(some 10), true⟩), (.fa 4 (.t 2))⟩, ⟨(some 12), (some ⟨(some 10), true⟩), (.load 1 false (.t 11))⟩, ⟨(some 13), (some ⟨(some 10), true⟩), (.fa 4 (.t 3))⟩, ⟨(some 14), (some ⟨(some 10), true⟩), (.load 1 false (.t 13))⟩, ⟨(some 15), (some ⟨(some 10), true⟩), (.cmp .eq (.t 12) (.t 14))⟩, ⟨some 16, none, .pick (.t 10) (.t 15) (.k (.one (.f (.bool false))))⟩, ⟨some 17, none, .mv (.t 16)⟩, ⟨(some 18), (some ⟨(some 17), true⟩), (.fa 3 (.t 2))⟩, ⟨(some 19), (some ⟨(some 17), true⟩), (.load 1 false (.t 18))⟩, ⟨(some 20), (some ⟨(some 17), true⟩), (.fa 3 (.t 3))⟩, ⟨(some 21), (some ⟨(some 17), true⟩), (.load 1 false (.t 20))⟩, ⟨(some 22), (some ⟨(some 17), true⟩), (.call false 71 [(.t 19), (.t 21)])⟩, ⟨some 23, none, .pick (.t 17) (.t 22) (.k (.one (.f (.bool false))))⟩, ⟨some 4, none, .mv (.t 23)⟩] [4]) .ret))⟩
def Nb : CF := ⟨2, [(.cell 4 5 true)], [], [0], (.seq (.reg [⟨some 3, none, .box 32 (.t 1)⟩, ⟨(some 4), none, (.alloc 35 [(.f (.str ⟨#[]⟩)), (.f (.int .i64 0)), (.f (.int .i64 0)), .fG, (.f (.int .i64 0))])⟩] [0, 3, 4]) (.seq (.reg [⟨(some 5), none, (.alloc 35 [(.f (.str ⟨#[]⟩)), (.f (.int .i64 0)), (.f (.int .i64 0)), .fG, (.f (.int .i64 0))])⟩] [0, 3, 4, 5]) (.seq (.seq (.reg [⟨some 6, none, .mv (.k (.one (.f (.int .i64 0))))⟩] [0, 3, 4, 5, 6]) (.block 0 (.loop [0, 3, 4, 5, 6] [30201, 80000, 100000, 120000] [] (.seq (.seq (.reg [⟨some 7, none, .mv (.t 6)⟩, ⟨some 8, none, .mv (.t 0)⟩, ⟨some 9, none, .iZ (.t 8)⟩, ⟨some 10, none, .cmp .lt (.t 7) (.t 9)⟩] [0, 3, 4, 5, 6, 10]) (.cond (.t 10) .skip (.exit 0))) (.seq (.block 1 (.seq (.rA [⟨⟨some 13, none, .mv (.t 0)⟩, []⟩, ⟨⟨some 14, none, .mv (.t 6)⟩, []⟩, ⟨⟨some 15, none, .ia 5 (.t 13) (.t 14)⟩, []⟩, ⟨⟨some 16, none, .fa 0 (.t 15)⟩, []⟩, ⟨⟨some 17, none, .load 3 true (.t 16)⟩, []⟩, ⟨⟨some 18, none, .load 3 true (.t 3)⟩, []⟩] [] [] [⟨some 19, none, .tY (.agg [.str, (.int .i64), (.int .i64)]) false (.t 17) (.t 18)⟩] [0, 3, 4, 5, 6, 19]) (.cond (.t 19) (.reg [⟨some 20, none, .mv (.t 0)⟩, ⟨some 21, none, .mv (.t 6)⟩, ⟨some 22, none, .ia 5 (.t 20) (.t 21)⟩, ⟨some 23, none, .load 5 true (.t 22)⟩, ⟨none, none, (.store 5 (.t 5) (.t 23))⟩] [0, 3, 4, 5, 6]) .skip))) (.reg [⟨some 11, none, .mv (.t 6)⟩, ⟨some 12, none, .ar .add (.t 11) (.k (.one (.f (.int .i64 1))))⟩, ⟨some 6, none, .mv (.t 12)⟩] [0, 3, 4, 5, 6])))))) (.seq (.reg [⟨some 24, none, .load 5 true (.t 5)⟩, ⟨none, none, (.store 5 (.t 4) (.t 24))⟩] [4]) .ret))))⟩
def c34 : CF := ⟨1, [(.t 2)], [], [], (.seq (.reg [⟨some 2, none, .mv (.k (.one (.f (.bool false))))⟩] [0]) (.seq (.seq (.reg [⟨some 3, none, .mv (.k (.one (.f (.int .i64 0))))⟩] [0, 3]) (.block 0 (.loop [0, 3] [20202] [] (.seq (.seq (.reg [⟨some 5, none, .mv (.t 3)⟩, ⟨some 6, none, .mv (.t 0)⟩, ⟨some 7, none, .iZ (.t 6)⟩, ⟨some 8, none, .cmp .lt (.t 5) (.t 7)⟩] [0, 3, 8]) (.cond (.t 8) .skip (.exit 0))) (.seq (.block 1 (.seq (.reg [⟨some 4, none, .mv (.k (.one (.f (.int .i64 0))))⟩] [0, 3, 4]) (.block 2 (.loop [0, 3, 4] [20202] [] (.seq (.seq (.reg [⟨some 11, none, .mv (.t 4)⟩, ⟨some 12, none, .mv (.t 3)⟩, ⟨some 13, none, .cmp .lt (.t 11) (.t 12)⟩] [0, 3, 4, 13]) (.cond (.t 13) .skip (.exit 2))) (.seq (.block 3 (.seq (.rA [⟨⟨some 16, none, .mv (.t 0)⟩, []⟩, ⟨⟨some 17, none, .mv (.t 3)⟩, []⟩, ⟨⟨some 18, none, .ia 3 (.t 16) (.t 17)⟩, []⟩, ⟨⟨some 19, none, .load 3 true (.t 18)⟩, []⟩, ⟨⟨some 20, none, .mv (.t 0)⟩, []⟩, ⟨⟨some 21, none, .mv (.t 4)⟩, []⟩, ⟨⟨some 22, none, .ia 3 (.t 20) (.t 21)⟩, []⟩, ⟨⟨some 23, none, .load 3 true (.t 22)⟩, []⟩] [] [] [⟨some 24, none, .tY (.agg [.str, (.int .i64), (.int .i64)]) false (.t 19) (.t 23)⟩] [0, 3, 4, 24]) (.cond (.t 24) (.seq (.reg [⟨some 2, none, .mv (.k (.one (.f (.bool false))))⟩] [2]) .ret) .skip))) (.reg [⟨some 14, none, .mv (.t 4)⟩, ⟨some 15, none, .ar .add (.t 14) (.k (.one (.f (.int .i64 1))))⟩, ⟨some 4, none, .mv (.t 15)⟩] [0, 3, 4]))))))) (.reg [⟨some 9, none, .mv (.t 3)⟩, ⟨some 10, none, .ar .add (.t 9) (.k (.one (.f (.int .i64 1))))⟩, ⟨some 3, none, .mv (.t 10)⟩] [0, 3])))))) (.seq (.reg [⟨some 2, none, .mv (.k (.one (.f (.bool true))))⟩] [2]) .ret)))⟩
def c35 : CF := ⟨1, [(.t 2)], [], [], (.seq (.reg [⟨some 1, none, .box 35 (.t 0)⟩, ⟨some 2, none, .mv (.k (.one (.f (.bool false))))⟩] [1]) (.seq (.seq (.reg [⟨some 3, none, .mv (.k (.one (.f (.int .i64 0))))⟩] [1, 3]) (.block 0 (.loop [1, 3] [20802, 40000] [] (.seq (.seq (.reg [⟨some 4, none, .mv (.t 3)⟩, ⟨some 5, none, .fa 3 (.t 1)⟩, ⟨some 6, none, .load 1 false (.t 5)⟩, ⟨some 7, none, .iZ (.t 6)⟩, ⟨some 8, none, .cmp .lt (.t 4) (.t 7)⟩] [1, 3, 8]) (.cond (.t 8) .skip (.exit 0))) (.seq (.block 1 (.seq (.reg [⟨some 11, none, .fa 3 (.t 1)⟩, ⟨some 12, none, .load 1 false (.t 11)⟩, ⟨some 13, none, .mv (.t 3)⟩, ⟨some 14, none, .ia 1 (.t 12) (.t 13)⟩, ⟨some 15, none, .load 1 false (.t 14)⟩, ⟨some 16, none, .BS (.t 15)⟩, ⟨some 17, none, .cmp .gt (.t 16) (.k (.one (.f (.int .i64 2000))))⟩, ⟨some 18, none, .mv (.t 17)⟩, ⟨(some 19), (some ⟨(some 18), false⟩), (.fa 3 (.t 1))⟩, ⟨(some 20), (some ⟨(some 18), false⟩), (.load 1 false (.t 19))⟩, ⟨(some 21), (some ⟨(some 18), false⟩), (.iZ (.t 20))⟩, ⟨(some 22), (some ⟨(some 18), false⟩), (.cmp .gt (.t 21) (.k (.one (.f (.int .i64 60)))))⟩, ⟨some 23, none, .pick (.t 18) (.k (.one (.f (.bool true)))) (.t 22)⟩] [1, 3, 23]) (.cond (.t 23) (.seq (.reg [⟨some 2, none, .mv (.k (.one (.f (.bool false))))⟩] [2]) .ret) .skip))) (.reg [⟨some 9, none, .mv (.t 3)⟩, ⟨some 10, none, .ar .add (.t 9) (.k (.one (.f (.int .i64 1))))⟩, ⟨some 3, none, .mv (.t 10)⟩] [1, 3])))))) (.seq (.reg [⟨some 24, none, .fa 0 (.t 1)⟩, ⟨some 25, none, .fa 0 (.t 24)⟩, ⟨some 26, none, .load 1 false (.t 25)⟩, ⟨some 27, none, .BS (.t 26)⟩, ⟨some 28, none, .cmp .le (.t 27) (.k (.one (.f (.int .i64 300))))⟩, ⟨some 2, none, .mv (.t 28)⟩] [2]) .ret)))⟩
def c62 : CF := ⟨2, [(.t 4)], [], [], (.seq (.reg [⟨some 4, none, .mv (.k (.one (.f (.int .i64 0))))⟩] [0, 1]) (.seq (.seq (.reg [⟨some 5, none, .mv (.t 0)⟩, ⟨some 6, none, .call false 86 [(.t 5), (.k (.one (.f (.int .i64 1099511627776))))]⟩, ⟨some 7, none, .no (.t 6)⟩, ⟨some 8, none, .mv (.t 7)⟩, ⟨(some 9), (some ⟨(some 8), false⟩), (.mv (.t 1))⟩, ⟨(some 10), (some ⟨(some 8), false⟩), (.cmp .lt (.t 9) (.k (.one (.f (.int .i64 0)))))⟩, ⟨some 11, none, .pick (.t 8) (.k (.one (.f (.bool true)))) (.t 10)⟩] [0, 1, 11]) (.cond (.t 11) (.seq (.reg [⟨some 4, none, .mv (.k (.one (.f (.int .i64 (-1)))))⟩] [4]) .ret) .skip)) (.seq (.reg [⟨some 12, none, .mv (.t 0)⟩, ⟨some 13, none, .mv (.t 1)⟩, ⟨some 14, none, .mn (.t 13) (.k (.one (.f (.int .i64 604800))))⟩, ⟨some 15, none, .ar .add (.t 12) (.t 14)⟩, ⟨some 4, none, .mv (.t 15)⟩] [4]) .ret)))⟩
def c64 : CF := ⟨3, [(.t 6)], [], [], (.seq (.reg [⟨some 5, none, .box 46 (.t 2)⟩, ⟨some 6, none, .mv (.k (.one (.f (.int .i64 0))))⟩] [0, 1, 5]) (.seq (.seq (.reg [⟨some 9, none, .mv (.t 0)⟩, ⟨some 10, none, .mU false (.t 9)⟩, ⟨some 11, none, .mv (.t 10)⟩, ⟨(some 12), (some ⟨(some 11), false⟩), (.fa 5 (.t 5))⟩, ⟨(some 13), (some ⟨(some 11), false⟩), (.load 1 false (.t 12))⟩, ⟨(some 14), (some ⟨(some 11), false⟩), (.cmp .lt (.t 13) (.k (.one (.f (.int .i64 0)))))⟩, ⟨some 15, none, .pick (.t 11) (.k (.one (.f (.bool true)))) (.t 14)⟩, ⟨some 16, none, .mv (.t 15)⟩, ⟨(some 17), (some ⟨(some 16), false⟩), (.fa 0 (.t 5))⟩, ⟨(some 18), (some ⟨(some 16), false⟩), (.load 5 true (.t 17))⟩, ⟨(some 19), (some ⟨(some 16), false⟩), (.call false 73 [(.t 18)])⟩, ⟨(some 20), (some ⟨(some 16), false⟩), (.no (.t 19))⟩, ⟨some 21, none, .pick (.t 16) (.k (.one (.f (.bool true)))) (.t 20)⟩, ⟨some 22, none, .mv (.t 21)⟩, ⟨(some 23), (some ⟨(some 22), false⟩), (.fa 6 (.t 5))⟩, ⟨(some 24), (some ⟨(some 22), false⟩), (.load 1 false (.t 23))⟩, ⟨(some 25), (some ⟨(some 22), false⟩), (.cmp .lt (.t 24) (.k (.one (.f (.int .i64 1)))))⟩, ⟨some 26, none, .pick (.t 22) (.k (.one (.f (.bool true)))) (.t 25)⟩, ⟨some 27, none, .mv (.t 26)⟩, ⟨(some 28), (some ⟨(some 27), false⟩), (.fa 6 (.t 5))⟩, ⟨(some 29), (some ⟨(some 27), false⟩), (.load 1 false (.t 28))⟩, ⟨(some 30), (some ⟨(some 27), false⟩), (.cmp .gt (.t 29) (.k (.one (.f (.int .i64 5)))))⟩, ⟨some 31, none, .pick (.t 27) (.k (.one (.f (.bool true)))) (.t 30)⟩] [0, 1, 5, 31]) (.cond (.t 31) (.seq (.reg [⟨some 6, none, .mv (.k (.one (.f (.int .i64 1))))⟩] [6]) .ret) .skip)) (.seq (.seq (.reg [⟨some 32, none, .mv (.t 1)⟩, ⟨some 33, none, .fa 5 (.t 5)⟩, ⟨some 34, none, .load 1 false (.t 33)⟩, ⟨some 35, none, .call false 68 [(.t 32), (.t 34)]⟩, ⟨some 36, none, .no (.t 35)⟩] [0, 1, 5, 36]) (.cond (.t 36) (.seq (.reg [⟨some 6, none, .mv (.k (.one (.f (.int .i64 14))))⟩] [6]) .ret) .skip)) (.seq (.rA [⟨⟨some 38, none, .mv (.t 0)⟩, [160000]⟩, ⟨⟨some 39, none, .kW (.t 38)⟩, [160000]⟩, ⟨⟨some 40, none, .fa 1 (.t 39)⟩, [160000]⟩, ⟨⟨some 41, none, .load 1 false (.t 40)⟩, [160000]⟩, ⟨⟨some 42, none, .fa 0 (.t 5)⟩, [160000]⟩, ⟨⟨some 43, none, .fa 0 (.t 42)⟩, [160000]⟩, ⟨⟨some 44, none, .load 3 true (.t 43)⟩, [160000]⟩, ⟨⟨(some 45), none, (.look (.agg [.str, (.int .i64), (.int .i64)]) (.agg [(.str ⟨#[]⟩), (.int .i64 0), (.int .i64 0), (.sl []), (.int .i64 0), (.int .i64 0), (.int .i64 0)]) true (.t 41) (.t 44))⟩, [160000]⟩, ⟨⟨some 37, none, .mv (.t 45)⟩, [160000]⟩, ⟨⟨some 46, none, .ext (.t 37) 0⟩, [160000]⟩, ⟨⟨some 47, none, .ext (.t 37) 1⟩, [160000]⟩, ⟨⟨(some 7), none, (.alloc 46 [(.f (.str ⟨#[]⟩)), (.f (.int .i64 0)), (.f (.int .i64 0)), .fG, (.f (.int .i64 0)), (.f (.int .i64 0)), (.f (.int .i64 0))])⟩, []⟩] [10] [⟨none, none, (.store 7 (.t 7) (.t 46))⟩] [⟨some 8, none, .mv (.t 47)⟩] [1, 5, 7, 8]) (.seq (.seq (.rA [⟨⟨some 48, none, .mv (.t 8)⟩, []⟩, ⟨⟨some 49, none, .mv (.t 48)⟩, []⟩, ⟨⟨(some 50), (some ⟨(some 49), true⟩), (.fa 6 (.t 7))⟩, []⟩, ⟨⟨(some 51), (some ⟨(some 49), true⟩), (.load 1 false (.t 50))⟩, []⟩, ⟨⟨(some 52), (some ⟨(some 49), true⟩), (.mv (.t 1))⟩, []⟩, ⟨⟨(some 53), (some ⟨(some 49), true⟩), (.fa 5 (.t 7))⟩, []⟩, ⟨⟨(some 54), (some ⟨(some 49), true⟩), (.load 1 false (.t 53))⟩, []⟩, ⟨⟨(some 55), (some ⟨(some 49), true⟩), (.call false 68 [(.t 52), (.t 54)])⟩, []⟩, ⟨⟨(some 56), (some ⟨(some 49), true⟩), (.fa 6 (.t 5))⟩, []⟩, ⟨⟨(some 57), (some ⟨(some 49), true⟩), (.load 1 false (.t 56))⟩, []⟩] [] [] [⟨(some 58), (some ⟨(some 49), true⟩), (.call false 87 [(.t 51), (.t 55), (.t 57)])⟩, ⟨(some 59), (some ⟨(some 49), true⟩), (.no (.t 58))⟩, ⟨some 60, none, .pick (.t 49) (.t 59) (.k (.one (.f (.bool false))))⟩] [60]) (.cond (.t 60) (.seq (.reg [⟨some 6, none, .mv (.k (.one (.f (.int .i64 10))))⟩] [6]) .ret) .skip)) (.seq (.reg [⟨some 6, none, .mv (.k (.one (.f (.int .i64 0))))⟩] [6]) .ret))))))⟩
def c65 : CF := ⟨1, [(.cell 2 7 true)], [], [], (.seq (.reg [⟨some 1, none, .box 46 (.t 0)⟩, ⟨(some 2), none, (.alloc 46 [(.f (.str ⟨#[]⟩)), (.f (.int .i64 0)), (.f (.int .i64 0)), .fG, (.f (.int .i64 0)), (.f (.int .i64 0)), (.f (.int .i64 0))])⟩] [1, 2]) (.seq (.reg [⟨some 3, none, .fa 0 (.t 1)⟩, ⟨some 4, none, .fa 3 (.t 3)⟩, ⟨some 5, none, .load 1 false (.t 4)⟩, ⟨some 6, none, .call false 88 [(.t 5)]⟩, ⟨some 7, none, .fa 0 (.t 1)⟩, ⟨some 8, none, .fa 3 (.t 7)⟩, ⟨none, none, (.store 1 (.t 8) (.t 6))⟩] [1, 2]) (.seq (.reg [⟨some 9, none, .load 7 true (.t 1)⟩, ⟨none, none, (.store 7 (.t 2) (.t 9))⟩] [2]) .ret)))⟩
def c66 : CF := ⟨2, [(.t 4), (.t 5)], [], [], (.seq (.reg [⟨some 4, none, .mv (.k (.one .fG))⟩, ⟨some 5, none, .mv (.k (.one .fG))⟩] [0, 1]) (.seq (.reg [⟨some 7, none, .mv (.t 0)⟩, ⟨some 8, none, .iZ (.t 7)⟩, ⟨some 9, none, .mv (.t 1)⟩, ⟨some 10, none, .mv (.t 0)⟩, ⟨some 11, none, .iZ (.t 10)⟩, ⟨some 12, none, .mn (.t 9) (.t 11)⟩, ⟨some 13, none, .mx (.t 12) (.k (.one (.f (.int .i64 0))))⟩, ⟨some 14, none, .ar .sub (.t 8) (.t 13)⟩, ⟨some 6, none, .mv (.t 14)⟩] [0, 6]) (.seq (.rA [⟨⟨some 15, none, .mv (.t 0)⟩, []⟩, ⟨⟨some 16, none, .mv (.t 6)⟩, []⟩, ⟨⟨some 17, none, .cut 3 (.t 15) (some (.t 16)) none⟩, []⟩, ⟨⟨some 18, none, .call false 70 [(.t 17)]⟩, []⟩, ⟨⟨some 19, none, .mv (.t 0)⟩, []⟩, ⟨⟨some 20, none, .mv (.t 6)⟩, []⟩, ⟨⟨some 21, none, .cut 3 (.t 19) none (some (.t 20))⟩, []⟩] [] [] [⟨some 22, none, .call false 70 [(.t 21)]⟩, ⟨some 4, none, .mv (.t 18)⟩, ⟨some 5, none, .mv (.t 22)⟩] [4, 5]) .ret)))⟩
def c67 : CF := ⟨2, [(.t 4)], [], [], (.seq (.reg [⟨some 3, none, .box 32 (.t 1)⟩, ⟨some 4, none, .mv (.k (.one .fG))⟩] [0, 3]) (.seq (.rA [⟨⟨some 5, none, .mv (.t 0)⟩, [160000, 200000]⟩, ⟨⟨some 6, none, .load 3 true (.t 3)⟩, [160000, 200000]⟩, ⟨⟨some 7, none, .yE 69 [(.t 5), (.t 6)]⟩, [200000]⟩, ⟨⟨some 8, none, .load 3 true (.t 3)⟩, [160000, 200000]⟩, ⟨⟨(some 9), none, (.Fj 32 3 1 [(.f (.str ⟨#[]⟩)), (.f (.int .i64 0)), (.f (.int .i64 0))] [⟨0, ⟨3, (.t 8)⟩⟩])⟩, [160000]⟩] [] [] [⟨some 10, none, .app 32 3 32 (.t 7) (.t 9)⟩, ⟨some 4, none, .mv (.t 10)⟩] [4]) .ret))⟩
def c68 : CF := ⟨2, [(.t 4)], [], [], (.seq (.reg [⟨some 4, none, .mv (.k (.one (.f (.bool false))))⟩] [0, 1]) (.seq (.reg [⟨some 5, none, .mv (.t 0)⟩, ⟨some 6, none, .call false 86 [(.t 5), (.k (.one (.f (.int .i64 1099511627776))))]⟩, ⟨some 7, none, .mv (.t 6)⟩, ⟨(some 8), (some ⟨(some 7), true⟩), (.mv (.t 0))⟩, ⟨(some 9), (some ⟨(some 7), true⟩), (.mv (.t 1))⟩, ⟨(some 10), (some ⟨(some 7), true⟩), (.cmp .lt (.t 8) (.t 9))⟩, ⟨some 11, none, .pick (.t 7) (.t 10) (.k (.one (.f (.bool false))))⟩, ⟨some 4, none, .mv (.t 11)⟩] [4]) .ret))⟩
def c69 : CF := ⟨2, [(.t 4)], [some 3], [], (.seq (.reg [⟨some 3, none, .box 32 (.t 1)⟩, ⟨some 4, none, .mv (.k (.one .fG))⟩] [0, 3]) (.seq (.reg [⟨some 5, none, .mv (.t 0)⟩, ⟨some 6, none, .call false 70 [(.t 5)]⟩, ⟨some 7, none, .QX 90 [(.t 3)]⟩, ⟨some 8, none, .call true 89 [(.t 6), (.t 7)]⟩, ⟨some 4, none, .mv (.t 8)⟩] [4]) .ret))⟩
def c71 : CF := ⟨2, [(.t 4)], [], [], (.seq (.reg [⟨some 4, none, .mv (.k (.one (.f (.bool false))))⟩] [0, 1]) (.seq (.seq (.reg [⟨some 6, none, .mv (.t 0)⟩, ⟨some 7, none, .iZ (.t 6)⟩, ⟨some 8, none, .mv (.t 1)⟩, ⟨some 9, none, .iZ (.t 8)⟩, ⟨some 10, none, .cmp .ne (.t 7) (.t 9)⟩] [0, 1, 10]) (.cond (.t 10) (.seq (.reg [⟨some 4, none, .mv (.k (.one (.f (.bool false))))⟩] [4]) .ret) .skip)) (.seq (.seq (.reg [⟨some 5, none, .mv (.k (.one (.f (.int .i64 0))))⟩] [0, 1, 5]) (.block 0 (.loop [0, 1, 5] [20202, 40202] [] (.seq (.seq (.reg [⟨some 11, none, .mv (.t 5)⟩, ⟨some 12, none, .mv (.t 0)⟩, ⟨some 13, none, .iZ (.t 12)⟩, ⟨some 14, none, .cmp .lt (.t 11) (.t 13)⟩] [0, 1, 5, 14]) (.cond (.t 14) .skip (.exit 0))) (.seq (.block 1 (.seq (.rA [⟨⟨some 17, none, .mv (.t 0)⟩, []⟩, ⟨⟨some 18, none, .mv (.t 5)⟩, []⟩, ⟨⟨some 19, none, .ia 1 (.t 17) (.t 18)⟩, []⟩, ⟨⟨some 20, none, .load 1 false (.t 19)⟩, []⟩, ⟨⟨some 21, none, .mv (.t 1)⟩, []⟩, ⟨⟨some 22, none, .mv (.t 5)⟩, []⟩, ⟨⟨some 23, none, .ia 1 (.t 21) (.t 22)⟩, []⟩, ⟨⟨some 24, none, .load 1 false (.t 23)⟩, []⟩] [] [] [⟨some 25, none, .tY (.one .str) true (.t 20) (.t 24)⟩] [0, 1, 5, 25]) (.cond (.t 25) (.seq (.reg [⟨some 4, none, .mv (.k (.one (.f (.bool false))))⟩] [4]) .ret) .skip))) (.reg [⟨some 15, none, .mv (.t 5)⟩, ⟨some 16, none, .ar .add (.t 15) (.k (.one (.f (.int .i64 1))))⟩, ⟨some 5, none, .mv (.t 16)⟩] [0, 1, 5])))))) (.seq (.reg [⟨some 4, none, .mv (.k (.one (.f (.bool true))))⟩] [4]) .ret))))⟩
def c73 : CF := ⟨1, [(.t 2)], [], [], (.seq (.reg [⟨some 1, none, .box 35 (.t 0)⟩, ⟨some 2, none, .mv (.k (.one (.f (.bool false))))⟩] [1]) (.seq (.reg [⟨some 6, none, .fa 0 (.t 1)⟩, ⟨some 7, none, .load 3 true (.t 6)⟩, ⟨(some 3), none, (.alloc 32 [(.f (.str ⟨#[]⟩)), (.f (.int .i64 0)), (.f (.int .i64 0))])⟩, ⟨none, none, (.store 3 (.t 3) (.t 7))⟩] [1, 3]) (.seq (.seq (.rA [⟨⟨some 8, none, .fa 0 (.t 3)⟩, []⟩, ⟨⟨some 9, none, .load 1 false (.t 8)⟩, []⟩, ⟨⟨some 10, none, .call false 91 [(.t 9)]⟩, []⟩, ⟨⟨some 11, none, .no (.t 10)⟩, []⟩, ⟨⟨some 12, none, .mv (.t 11)⟩, []⟩, ⟨⟨(some 13), (some ⟨(some 12), false⟩), (.fa 0 (.t 3))⟩, []⟩, ⟨⟨(some 14), (some ⟨(some 12), false⟩), (.load 1 false (.t 13))⟩, []⟩, ⟨⟨(some 15), (some ⟨(some 12), false⟩), (.call false 92 [(.t 14)])⟩, []⟩, ⟨⟨(some 16), (some ⟨(some 12), false⟩), (.fa 0 (.t 3))⟩, []⟩, ⟨⟨(some 17), (some ⟨(some 12), false⟩), (.load 1 false (.t 16))⟩, []⟩] [] [] [⟨(some 18), (some ⟨(some 12), false⟩), (.tY (.one .str) true (.t 15) (.t 17))⟩, ⟨some 19, none, .pick (.t 12) (.k (.one (.f (.bool true)))) (.t 18)⟩, ⟨some 20, none, .mv (.t 19)⟩, ⟨(some 21), (some ⟨(some 20), false⟩), (.fa 1 (.t 3))⟩, ⟨(some 22), (some ⟨(some 20), false⟩), (.load 1 false (.t 21))⟩, ⟨(some 23), (some ⟨(some 20), false⟩), (.call false 93 [(.t 22), (.k (.one (.f (.int .i64 65535))))])⟩, ⟨(some 24), (some ⟨(some 20), false⟩), (.no (.t 23))⟩, ⟨some 25, none, .pick (.t 20) (.k (.one (.f (.bool true)))) (.t 24)⟩, ⟨some 26, none, .mv (.t 25)⟩, ⟨(some 27), (some ⟨(some 26), false⟩), (.fa 2 (.t 3))⟩, ⟨(some 28), (some ⟨(some 26), false⟩), (.load 1 false (.t 27))⟩, ⟨(some 29), (some ⟨(some 26), false⟩), (.call false 93 [(.t 28), (.k (.one (.f (.int .i64 65535))))])⟩, ⟨(some 30), (some ⟨(some 26), false⟩), (.no (.t 29))⟩, ⟨some 31, none, .pick (.t 26) (.k (.one (.f (.bool true)))) (.t 30)⟩, ⟨some 32, none, .mv (.t 31)⟩, ⟨(some 33), (some ⟨(some 32), false⟩), (.fa 4 (.t 1))⟩, ⟨(some 34), (some ⟨(some 32), false⟩), (.load 1 false (.t 33))⟩, ⟨(some 35), (some ⟨(some 32), false⟩), (.call false 93 [(.t 34), (.k (.one (.f (.int .i64 2147483647))))])⟩, ⟨(some 36), (some ⟨(some 32), false⟩), (.no (.t 35))⟩, ⟨some 37, none, .pick (.t 32) (.k (.one (.f (.bool true)))) (.t 36)⟩] [1, 3, 37]) (.cond (.t 37) (.seq (.reg [⟨some 2, none, .mv (.k (.one (.f (.bool false))))⟩] [2]) .ret) .skip)) (.seq (.seq (.reg [⟨some 38, none, .fa 3 (.t 1)⟩, ⟨some 39, none, .load 1 false (.t 38)⟩, ⟨some 40, none, .iZ (.t 39)⟩, ⟨some 41, none, .mv (.k (.one (.f (.int .i64 0))))⟩] [1, 3, 39, 40, 41]) (.block 0 (.loop [1, 3, 39, 40, 41] [20802, 40000, 80000] [] (.seq (.reg [⟨some 42, none, .cmp .lt (.t 41) (.t 40)⟩] [1, 3, 39, 40, 41, 42]) (.seq (.cond (.t 42) .skip (.exit 0)) (.seq (.block 1 (.seq (.reg [⟨some 43, none, .mv (.t 41)⟩, ⟨some 44, none, .ia 1 (.t 39) (.t 41)⟩, ⟨some 45, none, .load 1 false (.t 44)⟩, ⟨some 4, none, .mv (.t 43)⟩, ⟨some 5, none, .mv (.t 45)⟩] [1, 3, 4, 5, 39, 40, 41]) (.seq (.reg [⟨some 46, none, .fa 1 (.t 3)⟩, ⟨some 47, none, .load 1 false (.t 46)⟩, ⟨some 48, none, .mv (.t 5)⟩, ⟨some 49, none, .call false 94 [(.t 47), (.t 48)]⟩, ⟨some 50, none, .no (.t 49)⟩, ⟨some 51, none, .mv (.t 50)⟩, ⟨(some 52), (some ⟨(some 51), false⟩), (.fa 1 (.t 3))⟩, ⟨(some 53), (some ⟨(some 51), false⟩), (.load 1 false (.t 52))⟩, ⟨(some 54), (some ⟨(some 51), false⟩), (.mv (.t 5))⟩, ⟨(some 55), (some ⟨(some 51), false⟩), (.call false 95 [(.t 53), (.t 54)])⟩, ⟨(some 56), (some ⟨(some 51), false⟩), (.mv (.t 5))⟩, ⟨(some 57), (some ⟨(some 51), false⟩), (.tY (.one .str) true (.t 55) (.t 56))⟩, ⟨some 58, none, .pick (.t 51) (.k (.one (.f (.bool true)))) (.t 57)⟩, ⟨some 59, none, .mv (.t 58)⟩, ⟨(some 60), (some ⟨(some 59), false⟩), (.fa 3 (.t 1))⟩, ⟨(some 61), (some ⟨(some 59), false⟩), (.load 1 false (.t 60))⟩, ⟨(some 62), (some ⟨(some 59), false⟩), (.mv (.t 4))⟩, ⟨(some 63), (some ⟨(some 59), false⟩), (.cut 1 (.t 61) none (some (.t 62)))⟩, ⟨(some 64), (some ⟨(some 59), false⟩), (.mv (.t 5))⟩, ⟨(some 65), (some ⟨(some 59), false⟩), (.call false 96 [(.t 63), (.t 64)])⟩, ⟨some 66, none, .pick (.t 59) (.k (.one (.f (.bool true)))) (.t 65)⟩] [1, 3, 39, 40, 41, 66]) (.cond (.t 66) (.seq (.reg [⟨some 2, none, .mv (.k (.one (.f (.bool false))))⟩] [2]) .ret) .skip)))) (.reg [⟨some 67, none, .ar .add (.t 41) (.k (.one (.f (.int .i64 1))))⟩, ⟨some 41, none, .mv (.t 67)⟩] [1, 3, 39, 40, 41]))))))) (.seq (.reg [⟨some 68, none, .fa 3 (.t 1)⟩, ⟨some 69, none, .load 1 false (.t 68)⟩, ⟨some 70, none, .iZ (.t 69)⟩, ⟨some 71, none, .cmp .gt (.t 70) (.k (.one (.f (.int .i64 0))))⟩, ⟨some 2, none, .mv (.t 71)⟩] [2]) .ret)))))⟩
def c86 : CF := ⟨2, [(.t 4)], [], [], (.seq (.reg [⟨some 4, none, .mv (.k (.one (.f (.bool false))))⟩] [0, 1]) (.seq (.reg [⟨some 5, none, .mv (.t 0)⟩, ⟨some 6, none, .cmp .ge (.t 5) (.k (.one (.f (.int .i64 0))))⟩, ⟨some 7, none, .mv (.t 6)⟩, ⟨(some 8), (some ⟨(some 7), true⟩), (.mv (.t 0))⟩, ⟨(some 9), (some ⟨(some 7), true⟩), (.mv (.t 1))⟩, ⟨(some 10), (some ⟨(some 7), true⟩), (.cmp .le (.t 8) (.t 9))⟩, ⟨some 11, none, .pick (.t 7) (.t 10) (.k (.one (.f (.bool false))))⟩, ⟨some 4, none, .mv (.t 11)⟩] [4]) .ret))⟩
def c87 : CF := ⟨3, [(.t 6)], [], [], (.seq (.reg [⟨some 6, none, .mv (.k (.one (.f (.bool false))))⟩] [0, 1, 2]) (.seq (.reg [⟨some 7, none, .mv (.t 2)⟩, ⟨some 8, none, .call false 107 [(.t 7), (.k (.one (.f (.int .i64 1))))]⟩, ⟨some 9, none, .mv (.t 8)⟩, ⟨(some 10), (some ⟨(some 9), true⟩), (.mv (.t 1))⟩, ⟨(some 11), (some ⟨(some 9), true⟩), (.no (.t 10))⟩, ⟨(some 12), (some ⟨(some 9), true⟩), (.mv (.t 11))⟩, ⟨(some 13), (some ⟨(some 12), false⟩), (.mv (.t 2))⟩, ⟨(some 14), (some ⟨(some 12), false⟩), (.mv (.t 0))⟩, ⟨(some 15), (some ⟨(some 12), false⟩), (.cmp .ge (.t 13) (.t 14))⟩, ⟨(some 16), (some ⟨(some 9), true⟩), (.pick (.t 12) (.k (.one (.f (.bool true)))) (.t 15))⟩, ⟨some 17, none, .pick (.t 9) (.t 16) (.k (.one (.f (.bool false))))⟩, ⟨some 6, none, .mv (.t 17)⟩] [6]) .ret))⟩
def c89 : CF := ⟨2, [(.t 4)], [some 3], [], (.seq (.reg [⟨some 4, none, .mv (.k (.one .fG))⟩] [0, 1]) (.seq (.reg [⟨some 8, none, .mv (.t 0)⟩, ⟨some 9, none, .mv (.t 1)⟩, ⟨some 10, none, .call false 108 [(.t 8), (.t 9)]⟩, ⟨some 5, none, .mv (.t 10)⟩] [0, 1, 5]) (.seq (.seq (.reg [⟨some 11, none, .mv (.t 5)⟩, ⟨some 12, none, .cmp .eq (.t 11) (.k (.one (.f (.int .i64 (-1)))))⟩] [0, 1, 5, 12]) (.cond (.t 12) (.seq (.reg [⟨some 13, none, .mv (.t 0)⟩, ⟨some 4, none, .mv (.t 13)⟩] [4]) .ret) .skip)) (.seq (.seq (.reg [⟨some 14, none, .mv (.t 5)⟩, ⟨some 15, none, .ar .add (.t 14) (.k (.one (.f (.int .i64 1))))⟩, ⟨some 6, none, .mv (.t 15)⟩] [0, 1, 5, 6]) (.block 0 (.loop [0, 1, 5, 6] [20202] [] (.seq (.seq (.reg [⟨some 16, none, .mv (.t 6)⟩, ⟨some 17, none, .mv (.t 0)⟩, ⟨some 18, none, .iZ (.t 17)⟩, ⟨some 19, none, .cmp .lt (.t 16) (.t 18)⟩] [0, 1, 5, 6, 19]) (.cond (.t 19) .skip (.exit 0))) (.seq (.block 1 (.seq (.reg [⟨some 22, none, .mv (.t 0)⟩, ⟨some 23, none, .mv (.t 6)⟩, ⟨some 24, none, .ia 3 (.t 22) (.t 23)⟩, ⟨some 25, none, .load 3 true (.t 24)⟩, ⟨(some 7), none, (.alloc 32 [(.f (.str ⟨#[]⟩)), (.f (.int .i64 0)), (.f (.int .i64 0))])⟩, ⟨none, none, (.store 3 (.t 7) (.t 25))⟩] [0, 1, 5, 6, 7]) (.seq (.reg [⟨some 26, none, .mv (.t 1)⟩, ⟨some 27, none, .load 3 true (.t 7)⟩, ⟨some 28, none, .dyn (.t 26) [(.t 27)]⟩, ⟨some 29, none, .no (.t 28)⟩] [0, 1, 5, 6, 7, 29]) (.cond (.t 29) (.seq (.reg [⟨some 30, none, .mv (.t 0)⟩, ⟨some 31, none, .mv (.t 5)⟩, ⟨some 32, none, .load 3 true (.t 7)⟩, ⟨some 33, none, .ia 3 (.t 30) (.t 31)⟩, ⟨none, none, (.store 3 (.t 33) (.t 32))⟩] [0, 1, 5, 6]) (.reg [⟨some 34, none, .mv (.t 5)⟩, ⟨some 35, none, .ar .add (.t 34) (.k (.one (.f (.int .i64 1))))⟩, ⟨some 5, none, .mv (.t 35)⟩] [0, 1, 5, 6])) .skip)))) (.reg [⟨some 20, none, .mv (.t 6)⟩, ⟨some 21, none, .ar .add (.t 20) (.k (.one (.f (.int .i64 1))))⟩, ⟨some 6, none, .mv (.t 21)⟩] [0, 1, 5, 6])))))) (.seq (.reg [⟨some 36, none, .mv (.t 0)⟩, ⟨some 37, none, .mv (.t 5)⟩, ⟨some 38, none, .cutV 3 (.t 36) (.t 37)⟩, ⟨none, none, (.Px 3 [(.str ⟨#[]⟩), (.int .i64 0), (.int .i64 0)] (.t 38))⟩] [0, 5]) (.seq (.reg [⟨some 39, none, .mv (.t 0)⟩, ⟨some 40, none, .mv (.t 5)⟩, ⟨some 41, none, .D9 3 (.t 39) (.t 40)⟩, ⟨some 4, none, .mv (.t 41)⟩] [4]) .ret))))))⟩
def c90 : CF := ⟨2, [(.t 3)], [none], [], (.seq (.reg [⟨some 2, none, .box 32 (.t 0)⟩, ⟨some 3, none, .mv (.k (.one (.f (.bool false))))⟩] [1, 2]) (.seq (.reg [⟨some 4, none, .load 3 true (.t 2)⟩, ⟨some 5, none, .load 3 true (.t 1)⟩, ⟨some 6, none, .tY (.agg [.str, (.int .i64), (.int .i64)]) false (.t 4) (.t 5)⟩, ⟨some 3, none, .mv (.t 6)⟩] [3]) .ret))⟩
def c93 : CF := ⟨2, [(.t 4)], [], [], (.seq (.reg [⟨some 4, none, .mv (.k (.one (.f (.bool false))))⟩] [0, 1]) (.seq (.reg [⟨some 5, none, .mv (.t 0)⟩, ⟨some 6, none, .cmp .ge (.t 5) (.k (.one (.f (.int .i64 0))))⟩, ⟨some 7, none, .mv (.t 6)⟩, ⟨(some 8), (some ⟨(some 7), true⟩), (.mv (.t 0))⟩, ⟨(some 9), (some ⟨(some 7), true⟩), (.mv (.t 1))⟩, ⟨(some 10), (some ⟨(some 7), true⟩), (.cmp .le (.t 8) (.t 9))⟩, ⟨some 11, none, .pick (.t 7) (.t 10) (.k (.one (.f (.bool false))))⟩, ⟨some 4, none, .mv (.t 11)⟩] [4]) .ret))⟩
def c96 : CF := ⟨2, [(.t 4)], [], [], (.seq (.reg [⟨some 4, none, .mv (.k (.one (.f (.bool false))))⟩] [0, 1]) (.seq (.reg [⟨some 5, none, .mv (.t 0)⟩, ⟨some 6, none, .mv (.t 1)⟩, ⟨some 7, none, .call false 114 [(.t 5), (.t 6)]⟩, ⟨some 8, none, .cmp .ge (.t 7) (.k (.one (.f (.int .i64 0))))⟩, ⟨some 4, none, .mv (.t 8)⟩] [4]) .ret))⟩
def c107 : CF := ⟨2, [(.t 4)], [], [], (.seq (.reg [⟨some 4, none, .mv (.k (.one (.f (.bool false))))⟩] [0, 1]) (.seq (.reg [⟨some 5, none, .mv (.t 0)⟩, ⟨some 6, none, .mv (.t 1)⟩, ⟨some 7, none, .cmp .ge (.t 5) (.t 6)⟩, ⟨some 8, none, .mv (.t 7)⟩, ⟨(some 9), (some ⟨(some 8), true⟩), (.mv (.t 0))⟩, ⟨(some 10), (some ⟨(some 8), true⟩), (.cmp .le (.t 9) (.k (.one (.f (.int .i64 5)))))⟩, ⟨some 11, none, .pick (.t 8) (.t 10) (.k (.one (.f (.bool false))))⟩, ⟨some 4, none, .mv (.t 11)⟩] [4]) .ret))⟩
def Nc : CF := ⟨2, [(.t 4)], [], [], (.seq (.reg [⟨some 4, none, .mv (.k (.one (.f (.int .i64 0))))⟩] [0, 1]) (.seq (.seq (.reg [⟨some 6, none, .mv (.t 0)⟩, ⟨some 7, none, .iZ (.t 6)⟩, ⟨some 8, none, .mv (.k (.one (.f (.int .i64 0))))⟩] [0, 1, 7, 8]) (.block 0 (.loop [0, 1, 7, 8] [20202] [] (.seq (.reg [⟨some 9, none, .cmp .lt (.t 8) (.t 7)⟩] [0, 1, 7, 8, 9]) (.seq (.cond (.t 9) .skip (.exit 0)) (.seq (.block 1 (.seq (.reg [⟨some 10, none, .mv (.t 8)⟩, ⟨some 5, none, .mv (.t 10)⟩] [0, 1, 5, 7, 8]) (.seq (.reg [⟨some 11, none, .mv (.t 1)⟩, ⟨some 12, none, .mv (.t 0)⟩, ⟨some 13, none, .mv (.t 5)⟩, ⟨some 14, none, .ia 3 (.t 12) (.t 13)⟩, ⟨some 15, none, .load 3 true (.t 14)⟩, ⟨some 16, none, .dyn (.t 11) [(.t 15)]⟩] [0, 1, 5, 7, 8, 16]) (.cond (.t 16) (.seq (.reg [⟨some 17, none, .mv (.t 5)⟩, ⟨some 4, none, .mv (.t 17)⟩] [4]) .ret) .skip)))) (.reg [⟨some 18, none, .ar .add (.t 8) (.k (.one (.f (.int .i64 1))))⟩, ⟨some 8, none, .mv (.t 18)⟩] [0, 1, 7, 8]))))))) (.seq (.reg [⟨some 4, none, .mv (.k (.one (.f (.int .i64 (-1)))))⟩] [4]) .ret)))⟩
def Nf : CF := ⟨2, [(.t 4)], [], [], (.seq (.reg [⟨some 4, none, .mv (.k (.one (.f (.int .i64 0))))⟩] [0, 1]) (.seq (.seq (.reg [⟨some 6, none, .mv (.t 0)⟩, ⟨some 7, none, .iZ (.t 6)⟩, ⟨some 8, none, .mv (.k (.one (.f (.int .i64 0))))⟩] [0, 1, 7, 8]) (.block 0 (.loop [0, 1, 7, 8] [20202] [] (.seq (.reg [⟨some 9, none, .cmp .lt (.t 8) (.t 7)⟩] [0, 1, 7, 8, 9]) (.seq (.cond (.t 9) .skip (.exit 0)) (.seq (.block 1 (.seq (.reg [⟨some 10, none, .mv (.t 8)⟩, ⟨some 5, none, .mv (.t 10)⟩] [0, 1, 5, 7, 8]) (.seq (.reg [⟨some 11, none, .mv (.t 1)⟩, ⟨some 12, none, .mv (.t 0)⟩, ⟨some 13, none, .mv (.t 5)⟩, ⟨some 14, none, .ia 1 (.t 12) (.t 13)⟩, ⟨some 15, none, .load 1 false (.t 14)⟩, ⟨some 16, none, .tY (.one .str) false (.t 11) (.t 15)⟩] [0, 1, 5, 7, 8, 16]) (.cond (.t 16) (.seq (.reg [⟨some 17, none, .mv (.t 5)⟩, ⟨some 4, none, .mv (.t 17)⟩] [4]) .ret) .skip)))) (.reg [⟨some 18, none, .ar .add (.t 8) (.k (.one (.f (.int .i64 1))))⟩, ⟨some 8, none, .mv (.t 18)⟩] [0, 1, 7, 8]))))))) (.seq (.reg [⟨some 4, none, .mv (.k (.one (.f (.int .i64 (-1)))))⟩] [4]) .ret)))⟩
def wX : List (FuncId × CF) := [(3, c3), (4, c4), (5, c5), (6, c6), (7, c7), (8, c8), (14, c14), (15, c15), (16, c16), (17, c17), (20, c20), (21, c21), (22, BQ), (23, c23), (25, L6), (27, Xo), (28, c28), (29, Hw), (31, c31), (32, c32), (33, Nb), (34, c34), (35, c35), (62, c62), (64, c64), (65, c65), (66, c66), (67, c67), (68, c68), (69, c69), (71, c71), (73, c73), (86, c86), (87, c87), (89, c89), (90, c90), (93, c93), (96, c96), (107, c107), (108, Nc), (114, Nf)]
end Go.Proofs.Ytdkkgecdhapfhaa.Ka
namespace Go.Proofs.Ytdkkgecdhapfhaa.Ka
open Go Ev
variable {ext : Env} {F n : Nat}
noncomputable abbrev G (ext : Env) (F n : Nat) : Env := Gm wX ext F n
theorem Hy {x : Int} (h1 : -9223372036854775808 ≤ x) (h2 : x ≤ 9223372036854775807) : IntKind.i64.wrap x = x := by
  rw [IntKind.wrap_i64]; omega
abbrev vi (x : Int) : AV := .one (.f (.int .i64 x))
abbrev vb (b : Bool) : AV := .one (.f (.bool b))
abbrev vs (s : ByteArray) : AV := .one (.f (.str s))
abbrev vl (l : List (List FV)) : AV := .one (.f (.sl l))
def gI (s : ByteArray) : List FV := [.str s]
abbrev vq (q : ByteArray) (t c : Int) : AV := .agg [.f (.str q), .f (.int .i64 t), .f (.int .i64 c)]
abbrev yN (q : ByteArray) (t c : Int) (d : List ByteArray) (ttl : Int) : AV := .agg [.f (.str q), .f (.int .i64 t), .f (.int .i64 c), .f (.sl (d.map gI)), .f (.int .i64 ttl)]
theorem Qt (x m : Int) : G ext F (n + 1) 93 [vi x, vi m] = some ([vb (decide (0 ≤ x ∧ x ≤ m))], [vi x, vi m]) := by
  refine gM (cf := c93) rfl ?_
  simp only [c93, go_sem, Nat.reduceAdd, Nat.reduceMul, Nat.reduceEqDiff, Nat.reduceBEq, Nat.reduceMod, Nat.reduceDiv, ↓reduceIte, reduceCtorEq]
  repeat' (refine cO (fun h => ?_) (fun h => ?_) <;> simp only [h, go_sem, Nat.reduceAdd, Nat.reduceMul, Nat.reduceEqDiff, Nat.reduceBEq, Nat.reduceMod, Nat.reduceDiv, ↓reduceIte, reduceCtorEq])
  all_goals (simp only [decide_eq_true_eq, decide_eq_false_iff_not] at *; simp; try omega)
theorem pF (x m : Int) : G ext F (n + 1) 86 [vi x, vi m] = some ([vb (decide (0 ≤ x ∧ x ≤ m))], [vi x, vi m]) := by
  refine gM (cf := c86) rfl ?_
  simp only [c86, go_sem, Nat.reduceAdd, Nat.reduceMul, Nat.reduceEqDiff, Nat.reduceBEq, Nat.reduceMod, Nat.reduceDiv, ↓reduceIte, reduceCtorEq]
  repeat' (refine cO (fun h => ?_) (fun h => ?_) <;> simp only [h, go_sem, Nat.reduceAdd, Nat.reduceMul, Nat.reduceEqDiff, Nat.reduceBEq, Nat.reduceMod, Nat.reduceDiv, ↓reduceIte, reduceCtorEq])
  all_goals (simp only [decide_eq_true_eq, decide_eq_false_iff_not] at *; simp; try omega)
theorem Kg (x m : Int) : G ext F (n + 1) 107 [vi x, vi m] = some ([vb (decide (m ≤ x ∧ x ≤ 5))], [vi x, vi m]) := by
  refine gM (cf := c107) rfl ?_
  simp only [c107, go_sem, Nat.reduceAdd, Nat.reduceMul, Nat.reduceEqDiff, Nat.reduceBEq, Nat.reduceMod, Nat.reduceDiv, ↓reduceIte, reduceCtorEq]
  repeat' (refine cO (fun h => ?_) (fun h => ?_) <;> simp only [h, go_sem, Nat.reduceAdd, Nat.reduceMul, Nat.reduceEqDiff, Nat.reduceBEq, Nat.reduceMod, Nat.reduceDiv, ↓reduceIte, reduceCtorEq])
  all_goals (simp only [decide_eq_true_eq, decide_eq_false_iff_not] at *; simp; try omega)
def ED (x : Int) : Bool := decide (0 ≤ x ∧ x ≤ 1099511627776)
def iw (now ttl : Int) : Int := if ED now = true ∧ 0 ≤ ttl then now + (if ttl ≤ 604800 then ttl else 604800) else -1
def jO (now u : Int) : Bool := ED now && decide (now < u)
def FU (old : Int) (l : Bool) (now : Int) : Bool := decide (1 ≤ now ∧ now ≤ 5) && (!l || decide (old ≤ now))
theorem sw (x u : Int) : G ext F (n + 2) 68 [vi x, vi u] = some ([vb (jO x u)], [vi x, vi u]) := by
  refine gM (cf := c68) rfl ?_
  simp only [c68, pF, go_sem, Nat.reduceAdd, Nat.reduceMul, Nat.reduceEqDiff, Nat.reduceBEq, Nat.reduceMod, Nat.reduceDiv, ↓reduceIte, reduceCtorEq]
  repeat' (refine cO (fun h => ?_) (fun h => ?_) <;> simp only [h, pF, go_sem, Nat.reduceAdd, Nat.reduceMul, Nat.reduceEqDiff, Nat.reduceBEq, Nat.reduceMod, Nat.reduceDiv, ↓reduceIte, reduceCtorEq])
  all_goals (simp only [decide_eq_true_eq, decide_eq_false_iff_not] at *; simp [ED, jO]; try omega)
theorem Ng {x t : Int} (h : 0 ≤ x ∧ x ≤ 1099511627776) (ht : 0 ≤ t) : IntKind.i64.wrap (x + if 604800 < t then 604800 else t) = x + if t ≤ 604800 then t else 604800 := by
  have e : (if 604800 < t then (604800 : Int) else t) = if t ≤ 604800 then t else 604800 := by split <;> split <;> omega
  rw [e]
  refine Hy ?_ ?_ <;> split <;> omega
theorem Hz {x t : Int} (h : 0 ≤ x ∧ x ≤ 1099511627776) (ht : ¬ t < 0) : iw x t = IntKind.i64.wrap (x + if 604800 < t then 604800 else t) := by
  rw [Ng h (by omega)]
  simp only [iw, ED, decide_eq_true_eq]
  rw [if_pos (show (0 ≤ x ∧ x ≤ 1099511627776) ∧ 0 ≤ t from ⟨h, by omega⟩)]
theorem Kh {x t : Int} (h : ¬ ((0 ≤ x ∧ x ≤ 1099511627776) ∧ 0 ≤ t)) : iw x t = -1 := by
  simp only [iw, ED, decide_eq_true_eq]
  rw [if_neg h]
theorem CX (x t : Int) : G ext F (n + 2) 62 [vi x, vi t] = some ([vi (iw x t)], [vi x, vi t]) := by
  refine gM (cf := c62) rfl ?_
  simp only [c62, pF, go_sem, Nat.reduceAdd, Nat.reduceMul, Nat.reduceEqDiff, Nat.reduceBEq, Nat.reduceMod, Nat.reduceDiv, ↓reduceIte, reduceCtorEq]
  repeat' (refine cO (fun h => ?_) (fun h => ?_) <;> simp only [h, pF, go_sem, Nat.reduceAdd, Nat.reduceMul, Nat.reduceEqDiff, Nat.reduceBEq, Nat.reduceMod, Nat.reduceDiv, ↓reduceIte, reduceCtorEq])
  all_goals (simp only [ED, decide_eq_true_eq, decide_eq_false_iff_not] at *; first | rw [Hz (by assumption) (by omega)] | rw [Kh (by omega)])
theorem FW (o x : Int) (l : Bool) : G ext F (n + 2) 87 [vi o, vb l, vi x] = some ([vb (FU o l x)], [vi o, vb l, vi x]) := by
  refine gM (cf := c87) rfl ?_
  simp only [c87, Kg, go_sem, Nat.reduceAdd, Nat.reduceMul, Nat.reduceEqDiff, Nat.reduceBEq, Nat.reduceMod, Nat.reduceDiv, ↓reduceIte, reduceCtorEq]
  repeat' (refine cO (fun h => ?_) (fun h => ?_) <;> simp only [h, Kg, go_sem, Nat.reduceAdd, Nat.reduceMul, Nat.reduceEqDiff, Nat.reduceBEq, Nat.reduceMod, Nat.reduceDiv, ↓reduceIte, reduceCtorEq])
  all_goals (simp only [decide_eq_true_eq, decide_eq_false_iff_not] at *; simp_all [FU]; try omega)
end Go.Proofs.Ytdkkgecdhapfhaa.Ka
namespace Go.Proofs.Ytdkkgecdhapfhaa.Ka
open Go Ev
variable {ext : Env} {F n : Nat}
theorem at_ {α : Type} {l : List α} {i : Nat} (h : i < l.length) : ∃ x, l[i]? = some x ∧ decide ((i : Int) < (l.length : Int)) = true ∧ ((i : Int).toNat = i) ∧ (0 : Int) ≤ i := ⟨_, List.getElem?_eq_getElem h, by simpa using h, by simp, by omega⟩
theorem end_ {α : Type} {l : List α} : decide ((l.length : Int) < (l.length : Int)) = false := by simp
theorem nx {i N : Nat} (h : i < N) (hN : N ≤ 200000000000000) : IntKind.i64.wrap ((i : Int) + 1) = ((i + 1 : Nat) : Int) := by rw [Hy (by omega) (by omega)]; omega
def EF (l : List ByteArray) (s : ByteArray) : Bool := l.any fun x => decide (x = s)
theorem Ki {l : List ByteArray} {s x : ByteArray} {i : Nat} (h : l[i]? = some x) : EF (l.take (i + 1)) s = (EF (l.take i) s || decide (x = s)) := by
  unfold EF
  have hi := (List.getElem?_eq_some_iff.mp h)
  rw [List.take_add_one, h, List.any_append]
  simp
theorem SS {l : List ByteArray} {s x : ByteArray} {i : Nat} (h : l[i]? = some x) (hx : x = s) : EF l s = true := by
  unfold EF
  exact List.any_eq_true.mpr ⟨x, List.mem_of_getElem? h, by simpa using hx⟩
theorem Nh {l : List ByteArray} {s : ByteArray} (h : EF (l.take l.length) s = false) : EF l s = false := by rwa [List.take_length] at h
theorem Ni (l : List ByteArray) (s : ByteArray) (hl : l.length ≤ 1000000000000) (hF : 200000000000001 ≤ F) : ∃ z : Int, (decide (0 ≤ z) = EF l s) ∧ G ext F (n + 1) 114 [vl (l.map gI), vs s] = some ([vi z], [vl (l.map gI), vs s]) := by
  suffices h : W (fun r => ∃ z : Int, (decide (0 ≤ z) = EF l s) ∧ r = ([vi z], [vl (l.map gI), vs s])) ⟨⟩ (G ext F (n + 1) 114 [vl (l.map gI), vs s]) by
    obtain ⟨r, h1, z, h2, h3⟩ := h
    exact ⟨z, h2, by rw [h1, h3]⟩
  show W _ _ (I9 _ F Nf _)
  simp only [Nf, go_sem, Nat.reduceAdd, Nat.reduceMul, Nat.reduceEqDiff, Nat.reduceBEq, Nat.reduceMod, Nat.reduceDiv, ↓reduceIte, reduceCtorEq]
  refine FR l.length (fun i => ⟨[(0, PV.c (CV.one (PL.f (FV.sl (l.map gI))))), (1, PV.c (CV.one (PL.f (FV.str s)))), (7, PV.c (CV.one (PL.f (FV.int .i64 (l.map gI).length)))), (8, PV.c (CV.one (PL.f (FV.int .i64 i))))], []⟩) (fun i => EF (l.take i) s = false) (by omega) rfl (fun i hi hP => ?_) (fun hP => ?_)
  · obtain ⟨x, hx, hd, ht, h0⟩ := at_ hi
    have hn := nx hi (Nat.le_trans hl (by decide))
    have hs := Ki (s := s) hx
    simp only [List.length_map, List.getElem?_map, hd, hx, ht, h0, gI, go_sem, Nat.reduceAdd, Nat.reduceMul, Nat.reduceEqDiff, Nat.reduceBEq, Nat.reduceMod, Nat.reduceDiv, ↓reduceIte, reduceCtorEq]
    repeat' (refine cO (fun h => ?_) (fun h => ?_) <;> simp only [h, List.length_map, List.getElem?_map, hd, hx, ht, h0, hn, gI, go_sem, Nat.reduceAdd, Nat.reduceMul, Nat.reduceEqDiff, Nat.reduceBEq, Nat.reduceMod, Nat.reduceDiv, ↓reduceIte, reduceCtorEq])
    · exact ⟨i, by rw [SS hx (by simp at h; first | exact h | exact h.symm)]; simp, rfl⟩
    · rw [hs, hP]; simp at h ⊢; first | exact h | exact fun e => h e.symm
  · have hd := @end_ _ l
    simp only [List.length_map, hd, go_sem, Nat.reduceAdd, Nat.reduceMul, Nat.reduceEqDiff, Nat.reduceBEq, Nat.reduceMod, Nat.reduceDiv, ↓reduceIte, reduceCtorEq]
    repeat' (refine cO (fun h => ?_) (fun h => ?_) <;> simp only [h, List.length_map, hd, go_sem, Nat.reduceAdd, Nat.reduceMul, Nat.reduceEqDiff, Nat.reduceBEq, Nat.reduceMod, Nat.reduceDiv, ↓reduceIte, reduceCtorEq])
    exact ⟨-1, by rw [Nh hP]; rfl, rfl⟩
theorem CY (l : List ByteArray) (s : ByteArray) (hl : l.length ≤ 1000000000000) (hF : 200000000000001 ≤ F) : G ext F (n + 2) 96 [vl (l.map gI), vs s] = some ([vb (EF l s)], [vl (l.map gI), vs s]) := by
  refine gM (cf := c96) rfl ?_
  obtain ⟨z, hz, h⟩ := Ni (ext := ext) (F := F) (n := n) l s hl hF
  simp only [c96, h, go_sem, Nat.reduceAdd, Nat.reduceMul, Nat.reduceEqDiff, Nat.reduceBEq, Nat.reduceMod, Nat.reduceDiv, ↓reduceIte, reduceCtorEq]
  repeat' (refine cO (fun h => ?_) (fun h => ?_) <;> simp only [h, h, go_sem, Nat.reduceAdd, Nat.reduceMul, Nat.reduceEqDiff, Nat.reduceBEq, Nat.reduceMod, Nat.reduceDiv, ↓reduceIte, reduceCtorEq])
  rw [← hz]
theorem Kj (l m : List ByteArray) (hl : l.length ≤ 1000000000000) (hF : 200000000000001 ≤ F) : G ext F (n + 1) 71 [vl (l.map gI), vl (m.map gI)] = some ([vb (decide (l = m))], [vl (l.map gI), vl (m.map gI)]) := by
  refine gM (cf := c71) rfl ?_
  simp only [c71, List.length_map, go_sem, Nat.reduceAdd, Nat.reduceMul, Nat.reduceEqDiff, Nat.reduceBEq, Nat.reduceMod, Nat.reduceDiv, ↓reduceIte, reduceCtorEq]
  repeat' (refine cO (fun h => ?_) (fun h => ?_) <;> simp only [h, List.length_map, go_sem, Nat.reduceAdd, Nat.reduceMul, Nat.reduceEqDiff, Nat.reduceBEq, Nat.reduceMod, Nat.reduceDiv, ↓reduceIte, reduceCtorEq])
  · have hlen : l.length = m.length := by simp at h; omega
    refine FR l.length (fun i => ⟨[(0, PV.c (CV.one (PL.f (FV.sl (l.map gI))))), (1, PV.c (CV.one (PL.f (FV.sl (m.map gI))))), (5, PV.c (CV.one (PL.f (FV.int .i64 i))))], []⟩) (fun i => l.take i = m.take i) (by omega) rfl (fun i hi hP => ?_) (fun hP => ?_)
    · obtain ⟨x, hx, hd, ht, h0⟩ := at_ hi
      obtain ⟨y, hy, _⟩ := at_ (l := m) (i := i) (by omega)
      have hn := nx hi (Nat.le_trans hl (by decide))
      simp only [List.length_map, List.getElem?_map, hd, hx, hy, ht, h0, gI, go_sem, Nat.reduceAdd, Nat.reduceMul, Nat.reduceEqDiff, Nat.reduceBEq, Nat.reduceMod, Nat.reduceDiv, ↓reduceIte, reduceCtorEq]
      repeat' (refine cO (fun h => ?_) (fun h => ?_) <;> simp only [h, List.length_map, List.getElem?_map, hd, hx, hy, ht, h0, hn, gI, go_sem, Nat.reduceAdd, Nat.reduceMul, Nat.reduceEqDiff, Nat.reduceBEq, Nat.reduceMod, Nat.reduceDiv, ↓reduceIte, reduceCtorEq])
      · rw [List.take_add_one, List.take_add_one, hP, hx, hy]
        simp at h
        rw [h]
      · have : l ≠ m := by rintro rfl; rw [hx] at hy; cases hy; simp at h
        simp [this]
    · have hd := @end_ _ l
      simp only [List.length_map, hd, go_sem, Nat.reduceAdd, Nat.reduceMul, Nat.reduceEqDiff, Nat.reduceBEq, Nat.reduceMod, Nat.reduceDiv, ↓reduceIte, reduceCtorEq]
      repeat' (refine cO (fun h => ?_) (fun h => ?_) <;> simp only [h, List.length_map, hd, go_sem, Nat.reduceAdd, Nat.reduceMul, Nat.reduceEqDiff, Nat.reduceBEq, Nat.reduceMod, Nat.reduceDiv, ↓reduceIte, reduceCtorEq])
      have : l = m := by rw [← List.take_length (l := l), hP, hlen, List.take_length]
      simp [this]
  · have : l ≠ m := by rintro rfl; simp at h
    simp [this]
end Go.Proofs.Ytdkkgecdhapfhaa.Ka
namespace Go.Proofs.Ytdkkgecdhapfhaa.Ka
open Go Ev
variable {ext : Env} {F n : Nat}
structure Qn where
  q : ByteArray
  t : Int
  c : Int
  deriving DecidableEq
structure It where
  q : ByteArray
  t : Int
  c : Int
  d : List ByteArray
  ttl : Int
  u : Int
  r : Int
  deriving DecidableEq
structure Op where
  o : Int
  now : Int
  q : ByteArray
  t : Int
  c : Int
  d : List ByteArray
  ttl : Int
  r : Int
def rQ (x : Qn) : List FV := [.str x.q, .int .i64 x.t, .int .i64 x.c]
def rI (x : It) : List FV := [.str x.q, .int .i64 x.t, .int .i64 x.c, .sl (x.d.map gI), .int .i64 x.ttl, .int .i64 x.u, .int .i64 x.r]
def rO (x : Op) : List FV := [.int .i64 x.o, .int .i64 x.now, .str x.q, .int .i64 x.t, .int .i64 x.c, .sl (x.d.map gI), .int .i64 x.ttl, .int .i64 x.r]
abbrev Nj (q : ByteArray) (t c : Int) (d : List ByteArray) (ttl u r : Int) : AV := .agg [.f (.str q), .f (.int .i64 t), .f (.int .i64 c), .f (.sl (d.map gI)), .f (.int .i64 ttl), .f (.int .i64 u), .f (.int .i64 r)]
def CZ (k : Nat) (l : List ByteArray) : Bool := l.all fun x => decide (x.size ≤ 2000) && decide (k ≤ 60)
theorem HV {k : Nat} {l : List ByteArray} {x : ByteArray} {i : Nat} (h : l[i]? = some x) : CZ k (l.take (i + 1)) = (CZ k (l.take i) && (decide (x.size ≤ 2000) && decide (k ≤ 60))) := by
  unfold CZ
  rw [List.take_add_one, h, List.all_append]
  simp
theorem FX {k : Nat} {l : List ByteArray} {x : ByteArray} {i : Nat} (h : l[i]? = some x) (hx : ¬ (x.size ≤ 2000 ∧ k ≤ 60)) : CZ k l = false := by
  unfold CZ
  refine Bool.eq_false_iff.mpr fun ha => hx ?_
  have := List.all_eq_true.mp ha x (List.mem_of_getElem? h)
  simpa using this
def oF (q : ByteArray) (d : List ByteArray) : Bool := CZ d.length d && decide (q.size ≤ 300)
theorem Kk (q : ByteArray) (t c : Int) (d : List ByteArray) (ttl : Int) (hl : d.length ≤ 200000000000000) (hF : 200000000000001 ≤ F) : G ext F (n + 1) 35 [yN q t c d ttl] = some ([vb (oF q d)], [yN q t c d ttl]) := by
  refine gM (cf := c35) rfl ?_
  simp only [c35, go_sem, Nat.reduceAdd, Nat.reduceMul, Nat.reduceEqDiff, Nat.reduceBEq, Nat.reduceMod, Nat.reduceDiv, ↓reduceIte, reduceCtorEq]
  refine FR d.length (fun i => ⟨[(1, PV.c (CV.one (PL.ptr 40000 0))), (3, PV.c (CV.one (PL.f (FV.int .i64 i))))], [(40000, .mK [.f (.str q), .f (.int .i64 t), .f (.int .i64 c), .f (.sl (d.map gI)), .f (.int .i64 ttl)])]⟩) (fun i => CZ d.length (d.take i) = true) (by omega) rfl (fun i hi hP => ?_) (fun hP => ?_)
  · obtain ⟨x, hx, hd, ht, h0⟩ := at_ hi
    have hn := nx hi (Nat.le_trans hl (by decide))
    simp only [List.length_map, List.getElem?_map, hd, hx, ht, h0, gI, go_sem, Nat.reduceAdd, Nat.reduceMul, Nat.reduceEqDiff, Nat.reduceBEq, Nat.reduceMod, Nat.reduceDiv, ↓reduceIte, reduceCtorEq]
    repeat' (refine cO (fun h => ?_) (fun h => ?_) <;> simp only [h, List.length_map, List.getElem?_map, hd, hx, ht, h0, hn, gI, go_sem, Nat.reduceAdd, Nat.reduceMul, Nat.reduceEqDiff, Nat.reduceBEq, Nat.reduceMod, Nat.reduceDiv, ↓reduceIte, reduceCtorEq])
    all_goals simp only [decide_eq_true_eq, decide_eq_false_iff_not] at *
    · simp [oF, FX hx (k := d.length) (by omega)]
    · simp [oF, FX hx (k := d.length) (by omega)]
    · rw [HV hx, hP]; simp; omega
  · have hd := @end_ _ d
    rw [List.take_length] at hP
    simp only [List.length_map, hd, go_sem, Nat.reduceAdd, Nat.reduceMul, Nat.reduceEqDiff, Nat.reduceBEq, Nat.reduceMod, Nat.reduceDiv, ↓reduceIte, reduceCtorEq]
    repeat' (refine cO (fun h => ?_) (fun h => ?_) <;> simp only [h, List.length_map, hd, go_sem, Nat.reduceAdd, Nat.reduceMul, Nat.reduceEqDiff, Nat.reduceBEq, Nat.reduceMod, Nat.reduceDiv, ↓reduceIte, reduceCtorEq])
    simp [oF, hP]
    try omega
def yO (l : List Op) : Bool := l.all fun x => oF x.q x.d
theorem H6 {l : List Op} {x : Op} {i : Nat} (h : l[i]? = some x) : yO (l.take (i + 1)) = (yO (l.take i) && oF x.q x.d) := by
  unfold yO
  rw [List.take_add_one, h, List.all_append]
  simp
theorem Nk {l : List Op} {x : Op} {i : Nat} (h : l[i]? = some x) (hx : oF x.q x.d = false) : yO l = false := by
  unfold yO
  refine Bool.eq_false_iff.mpr fun ha => ?_
  rw [List.all_eq_true.mp ha x (List.mem_of_getElem? h)] at hx
  cases hx
theorem EG (l : List Op) (m : Int) (hl : l.length ≤ 200000000000000) (hd : ∀ x ∈ l, x.d.length ≤ 200000000000000) (hF : 200000000000001 ≤ F) : G ext F (n + 2) 14 [vl (l.map rO), vi m] = some ([vb (yO l && decide ((l.length : Int) ≤ m))], [vl (l.map rO), vi m]) := by
  refine gM (cf := c14) rfl ?_
  simp only [c14, go_sem, Nat.reduceAdd, Nat.reduceMul, Nat.reduceEqDiff, Nat.reduceBEq, Nat.reduceMod, Nat.reduceDiv, ↓reduceIte, reduceCtorEq]
  refine FR l.length (fun i => ⟨[(0, PV.c (CV.one (PL.f (FV.sl (l.map rO))))), (1, PV.c (CV.one (PL.f (FV.int .i64 m)))), (5, PV.c (CV.one (PL.f (FV.int .i64 i))))], []⟩) (fun i => yO (l.take i) = true) (by omega) rfl (fun i hi hP => ?_) (fun hP => ?_)
  · obtain ⟨x, hx, hlt, ht, h0⟩ := at_ hi
    have hn := nx hi (Nat.le_trans hl (by decide))
    have hs := fun n => Kk (ext := ext) (F := F) (n := n) x.q x.t x.c x.d x.ttl (hd x (List.mem_of_getElem? hx)) hF
    simp only [List.length_map, List.getElem?_map, hlt, hx, ht, h0, rO, hs, go_sem, Nat.reduceAdd, Nat.reduceMul, Nat.reduceEqDiff, Nat.reduceBEq, Nat.reduceMod, Nat.reduceDiv, ↓reduceIte, reduceCtorEq]
    repeat' (refine cO (fun h => ?_) (fun h => ?_) <;> simp only [h, List.length_map, List.getElem?_map, hlt, hx, ht, h0, hn, rO, hs, go_sem, Nat.reduceAdd, Nat.reduceMul, Nat.reduceEqDiff, Nat.reduceBEq, Nat.reduceMod, Nat.reduceDiv, ↓reduceIte, reduceCtorEq])
    · rw [H6 hx, hP, h]; rfl
    · rw [Nk hx h]; rfl
  · have hd := @end_ _ l
    rw [List.take_length] at hP
    simp only [List.length_map, hd, go_sem, Nat.reduceAdd, Nat.reduceMul, Nat.reduceEqDiff, Nat.reduceBEq, Nat.reduceMod, Nat.reduceDiv, ↓reduceIte, reduceCtorEq]
    repeat' (refine cO (fun h => ?_) (fun h => ?_) <;> simp only [h, List.length_map, hd, go_sem, Nat.reduceAdd, Nat.reduceMul, Nat.reduceEqDiff, Nat.reduceBEq, Nat.reduceMod, Nat.reduceDiv, ↓reduceIte, reduceCtorEq])
    simp [hP]
def Kl (a : ByteArray) (t c : Int) (d : List ByteArray) (ttl : Int) (a' : ByteArray) (t' c' : Int) (d' : List ByteArray) (yP : Int) : Bool := decide (a = a' ∧ t = t' ∧ c = c' ∧ ttl = yP ∧ d = d')
theorem Nl (a : ByteArray) (t c : Int) (d : List ByteArray) (ttl : Int) (a' : ByteArray) (t' c' : Int) (d' : List ByteArray) (yP : Int) (hl : d.length ≤ 1000000000000) (hF : 200000000000001 ≤ F) : G ext F (n + 2) 32 [yN a t c d ttl, yN a' t' c' d' yP] = some ([vb (Kl a t c d ttl a' t' c' d' yP)], [yN a t c d ttl, yN a' t' c' d' yP]) := by
  refine gM (cf := c32) rfl ?_
  have ht := fun n => Kj (ext := ext) (F := F) (n := n) d d' hl hF
  simp only [c32, ht, go_sem, Nat.reduceAdd, Nat.reduceMul, Nat.reduceEqDiff, Nat.reduceBEq, Nat.reduceMod, Nat.reduceDiv, ↓reduceIte, reduceCtorEq]
  repeat' (refine cO (fun h => ?_) (fun h => ?_) <;> simp only [h, ht, go_sem, Nat.reduceAdd, Nat.reduceMul, Nat.reduceEqDiff, Nat.reduceBEq, Nat.reduceMod, Nat.reduceDiv, ↓reduceIte, reduceCtorEq])
  all_goals (simp [Kl] at *)
  all_goals (try simp_all)
theorem SX (a : ByteArray) (t c : Int) (d : List ByteArray) (ttl u r : Int) (a' : ByteArray) (t' c' : Int) (d' : List ByteArray) (yP u' r' : Int) (hl : d.length ≤ 1000000000000) (hF : 200000000000001 ≤ F) : G ext F (n + 3) 22 [Nj a t c d ttl u r, Nj a' t' c' d' yP u' r'] = some ([vb (decide ((⟨a, t, c, d, ttl, u, r⟩ : It) = ⟨a', t', c', d', yP, u', r'⟩))], [Nj a t c d ttl u r, Nj a' t' c' d' yP u' r']) := by
  refine gM (cf := BQ) rfl ?_
  have ht := fun n => Nl (ext := ext) (F := F) (n := n) a t c d ttl a' t' c' d' yP hl hF
  simp only [BQ, ht, go_sem, Nat.reduceAdd, Nat.reduceMul, Nat.reduceEqDiff, Nat.reduceBEq, Nat.reduceMod, Nat.reduceDiv, ↓reduceIte, reduceCtorEq]
  repeat' (refine cO (fun h => ?_) (fun h => ?_) <;> simp only [h, ht, go_sem, Nat.reduceAdd, Nat.reduceMul, Nat.reduceEqDiff, Nat.reduceBEq, Nat.reduceMod, Nat.reduceDiv, ↓reduceIte, reduceCtorEq])
  all_goals (simp [Kl] at *)
  all_goals (try simp_all)
  all_goals (intro ha hb hc hd hz; exact absurd hd (h ha hb hc hz))
theorem Nn (a : ByteArray) (t c : Int) (d : List ByteArray) (ttl u r : Int) : G ext F (n + 1) 23 [Nj a t c d ttl u r] = some ([Nj a t c d ttl u r], [Nj a t c d ttl u r]) := by
  refine gM (cf := c23) rfl ?_
  simp only [c23, go_sem, Nat.reduceAdd, Nat.reduceMul, Nat.reduceEqDiff, Nat.reduceBEq, Nat.reduceMod, Nat.reduceDiv, ↓reduceIte, reduceCtorEq]
end Go.Proofs.Ytdkkgecdhapfhaa.Ka
namespace Go.Proofs.Ytdkkgecdhapfhaa.Ka
open Go Ev
variable {ext : Env} {F n : Nat}
theorem uz {body : St → Option (Out × St)} {rs : St → St} {k : Out × St → Prop} {u : Tok k} {F : Nat} {σ : St} (N : Nat) (T : Nat → St) (P : Nat → Prop) (hF : N < F) (hs : rs σ = T 0) (h0 : P 0)
    (step : ∀ i, i < N → P i → W (fun p => match p.1 with
      | .jq => rs p.2 = T (i + 1) ∧ P (i + 1)
      | o => k (o, p.2)) ⟨⟩ (body (T i)))
    (last : P N → W (fun p => match p.1 with
      | .jq => False
      | o => k (o, p.2)) ⟨⟩ (body (T N))) : W k u (iter body rs F σ) := by
  refine AQ (fun m σ => ∃ i, i ≤ N ∧ m = N - i ∧ rs σ = T i ∧ P i) ?_ F N σ hF ⟨0, Nat.zero_le _, rfl, hs, h0⟩
  rintro m σ ⟨i, hi, rfl, hr, hP⟩
  rw [hr]
  by_cases hlt : i < N
  · refine uy (step i hlt hP) fun p hp => ?_
    obtain ⟨o, s⟩ := p
    cases o with
    | jq => exact ⟨N - (i + 1), by omega, i + 1, by omega, rfl, hp.1, hp.2⟩
    | ext j => exact hp
    | ret => exact hp
  · have : i = N := by omega
    subst this
    refine uy (last hP) fun p hp => ?_
    obtain ⟨o, s⟩ := p
    cases o with
    | jq => exact hp.elim
    | ext j => exact hp
    | ret => exact hp
def nr2 (s : Nat) (l : List (Nat × Nat)) (σ : St) : Option St → St
  | some t => jq ⟨put t.tm s (.c (.one (.own (dD s) 0))), t.ob⟩ l
  | none => jq σ l
def Xp (σ : St) (s sz : Nat) (l : List (Nat × Nat)) : Option PV → St
  | some (.c (.one .fG)) => if sz = 0 then jq σ l else nr2 s l σ (new σ (dD s) (.row sz []))
  | _ => jq σ l
@[go_sem] theorem Xq {σ : St} {s sz : Nat} {l : List (Nat × Nat)} : jq σ ((s, sz) :: l) = Xp σ s sz l (get σ.tm s) := by
  unfold Xp nr2
  rw [jq]
  split <;> first | rfl | (split <;> first | rfl | (split <;> simp_all))
@[go_sem] theorem aaQ {σ : St} {s sz key n : Nat} {l : List (Nat × Nat)} : Xp σ s sz l (some (.c (.one (.own key n)))) = jq σ l := rfl
@[go_sem] theorem aeW {σ : St} {s sz : Nat} {l : List (Nat × Nat)} {x : FV} : Xp σ s sz l (some (.c (.one (.f x)))) = jq σ l := rfl
@[go_sem] theorem aaR {σ : St} {s sz : Nat} {l : List (Nat × Nat)} : Xp σ s sz l (some (.c (.one .fG))) = if sz = 0 then jq σ l else nr2 s l σ (new σ (dD s) (.row sz [])) := rfl
@[go_sem] theorem Xr {σ τ : St} {s : Nat} {l : List (Nat × Nat)} : nr2 s l σ (some τ) = jq ⟨put τ.tm s (.c (.one (.own (dD s) 0))), τ.ob⟩ l := rfl
abbrev It.k (x : It) : Qn := ⟨x.q, x.t, x.c⟩
abbrev vst (room : Int) (l : List It) (ch : Int) : AV := .agg [.f (.int .i64 room), .f (.sl (l.map rI)), .f (.int .i64 ch)]
theorem all_succ {α : Type} {P : α → Prop} {l : List α} {i : Nat} {x : α} (h : ∀ y ∈ l.take i, P y) (hx : l[i]? = some x) (hp : P x) : ∀ y ∈ l.take (i + 1), P y := by
  intro y hy
  rw [List.take_add_one, hx] at hy
  rcases List.mem_append.mp hy with hy | hy
  · exact h y hy
  · simp at hy; subst hy; exact hp
theorem Km (l m : List Qn) (hl : l.length ≤ 1000000000000) (hF : 200000000000001 ≤ F) : G ext F (n + 1) 28 [vl (l.map rQ), vl (m.map rQ)] = some ([vb (decide (l = m))], [vl (l.map rQ), vl (m.map rQ)]) := by
  refine gM (cf := c28) rfl ?_
  simp only [c28, List.length_map, go_sem, Nat.reduceAdd, Nat.reduceMul, Nat.reduceEqDiff, Nat.reduceBEq, Nat.reduceMod, Nat.reduceDiv, ↓reduceIte, reduceCtorEq]
  repeat' (refine cO (fun h => ?_) (fun h => ?_) <;> simp only [h, List.length_map, go_sem, Nat.reduceAdd, Nat.reduceMul, Nat.reduceEqDiff, Nat.reduceBEq, Nat.reduceMod, Nat.reduceDiv, ↓reduceIte, reduceCtorEq])
  · have hlen : l.length = m.length := by simp at h; omega
    refine uz l.length (fun i => ⟨[(0, PV.c (CV.one (PL.f (FV.sl (l.map rQ))))), (1, PV.c (CV.one (PL.f (FV.sl (m.map rQ))))), (5, PV.c (CV.one (PL.f (FV.int .i64 i))))], []⟩) (fun i => l.take i = m.take i) (by omega) rfl rfl (fun i hi hP => ?_) (fun hP => ?_)
    · obtain ⟨x, hx, hd, ht, h0⟩ := at_ hi
      obtain ⟨y, hy, _⟩ := at_ (l := m) (i := i) (by omega)
      have hn := nx hi (Nat.le_trans hl (by decide))
      simp only [List.length_map, List.getElem?_map, hd, hx, hy, ht, h0, rQ, go_sem, Nat.reduceAdd, Nat.reduceMul, Nat.reduceEqDiff, Nat.reduceBEq, Nat.reduceMod, Nat.reduceDiv, ↓reduceIte, reduceCtorEq]
      repeat' (refine cO (fun h => ?_) (fun h => ?_) <;> simp only [h, List.length_map, List.getElem?_map, hd, hx, hy, ht, h0, hn, rQ, go_sem, Nat.reduceAdd, Nat.reduceMul, Nat.reduceEqDiff, Nat.reduceBEq, Nat.reduceMod, Nat.reduceDiv, ↓reduceIte, reduceCtorEq])
      · rw [List.take_add_one, List.take_add_one, hP, hx, hy]
        have : x = y := by cases x; cases y; simpa using h
        rw [this]
      · have : l ≠ m := by rintro rfl; rw [hx] at hy; cases hy; simp at h
        simp [this]
    · have hd := @end_ _ l
      simp only [List.length_map, hd, go_sem, Nat.reduceAdd, Nat.reduceMul, Nat.reduceEqDiff, Nat.reduceBEq, Nat.reduceMod, Nat.reduceDiv, ↓reduceIte, reduceCtorEq]
      repeat' (refine cO (fun h => ?_) (fun h => ?_) <;> simp only [h, List.length_map, hd, go_sem, Nat.reduceAdd, Nat.reduceMul, Nat.reduceEqDiff, Nat.reduceBEq, Nat.reduceMod, Nat.reduceDiv, ↓reduceIte, reduceCtorEq])
      have : l = m := by rw [← List.take_length (l := l), hP, hlen, List.take_length]
      simp [this]
  · have : l ≠ m := by rintro rfl; simp at h
    simp [this]
structure Se where
  q : ByteArray
  t : Int
  c : Int
  d : List ByteArray
  ttl : Int
  deriving DecidableEq
abbrev Se.k (x : Se) : Qn := ⟨x.q, x.t, x.c⟩
abbrev Se.v (x : Se) : AV := yN x.q x.t x.c x.d x.ttl
def rS (x : Se) : List FV := [.str x.q, .int .i64 x.t, .int .i64 x.c, .sl (x.d.map gI), .int .i64 x.ttl]
end Go.Proofs.Ytdkkgecdhapfhaa.Ka
namespace Go.Proofs.Ytdkkgecdhapfhaa.Ka
open Go Ev
variable {ext : Env} {F n : Nat}
structure Th where
  jB : ByteArray → Bool
  low : ByteArray → ByteArray
  vS : Int → ByteArray → Bool
  lw : Int → ByteArray → ByteArray
structure Th.Ok (θ : Th) (ext : Env) : Prop where
  nc : ∀ q, q.size ≤ 1000000 → ext 91 [vs q] = some ([vb (θ.jB q)], [vs q])
  nl : ∀ q, q.size ≤ 1000000 → ext 92 [vs q] = some ([vs (θ.low q)], [vs q])
  rc : ∀ q, q.size ≤ 1000000 → ext 100 [vs q] = some ([vb (θ.jB q)], [vs q])
  rl : ∀ q, q.size ≤ 1000000 → ext 101 [vs q] = some ([vs (θ.low q)], [vs q])
  dc : ∀ k q, q.size ≤ 1000000 → ext 94 [vi k, vs q] = some ([vb (θ.vS k q)], [vi k, vs q])
  dl : ∀ k q, q.size ≤ 1000000 → ext 95 [vi k, vs q] = some ([vs (θ.lw k q)], [vi k, vs q])
  ec : ∀ k q, q.size ≤ 1000000 → ext 83 [vi k, vs q] = some ([vb (θ.vS k q)], [vi k, vs q])
  el : ∀ k q, q.size ≤ 1000000 → ext 84 [vi k, vs q] = some ([vs (θ.lw k q)], [vi k, vs q])
variable {θ : Th}
theorem Xt (T : θ.Ok ext) (q : ByteArray) (h : q.size ≤ 1000000) : G ext F (n + 1) 91 [vs q] = some ([vb (θ.jB q)], [vs q]) := (congrFun (qN rfl) _).trans (T.nc q h)
theorem Xu (T : θ.Ok ext) (q : ByteArray) (h : q.size ≤ 1000000) : G ext F (n + 1) 92 [vs q] = some ([vs (θ.low q)], [vs q]) := (congrFun (qN rfl) _).trans (T.nl q h)
theorem Xv (T : θ.Ok ext) (k : Int) (q : ByteArray) (h : q.size ≤ 1000000) : G ext F (n + 1) 94 [vi k, vs q] = some ([vb (θ.vS k q)], [vi k, vs q]) := (congrFun (qN rfl) _).trans (T.dc k q h)
theorem Xw (T : θ.Ok ext) (k : Int) (q : ByteArray) (h : q.size ≤ 1000000) : G ext F (n + 1) 95 [vi k, vs q] = some ([vs (θ.lw k q)], [vi k, vs q]) := (congrFun (qN rfl) _).trans (T.dl k q h)
def Th.key (θ : Th) (q : ByteArray) (t c : Int) : Bool := decide (θ.jB q = true ∧ θ.low q = q ∧ (0 ≤ t ∧ t ≤ 65535) ∧ (0 ≤ c ∧ c ≤ 65535))
def Th.dat (θ : Th) (t : Int) (d : List ByteArray) : Bool := decide ((∀ x ∈ d, θ.vS t x = true ∧ θ.lw t x = x) ∧ d.Nodup)
def Th.set (θ : Th) (q : ByteArray) (t c : Int) (d : List ByteArray) (ttl : Int) : Bool := decide (θ.key q t c = true ∧ θ.dat t d = true ∧ (0 ≤ ttl ∧ ttl < 2147483648) ∧ d ≠ [])
theorem FY {l : List ByteArray} {s : ByteArray} : EF l s = true ↔ s ∈ l := by
  unfold EF
  rw [List.any_eq_true]
  simp
theorem Xx {l : List ByteArray} : ((l.map gI).all fun r => r.length == 1) = true := by
  rw [List.all_eq_true]
  intro r hr
  obtain ⟨x, -, rfl⟩ := List.mem_map.mp hr
  rfl
theorem Kn {t : Int} {d : List ByteArray} {i : Nat} {x : ByteArray} (hx : d[i]? = some x) (h : θ.dat t (d.take i) = true) (hc : θ.vS t x = true) (hw : θ.lw t x = x) (hi : EF (d.take i) x = false) : θ.dat t (d.take (i + 1)) = true := by
  unfold Th.dat at *
  have hi : ¬ x ∈ d.take i := fun h => by rw [FY.mpr h] at hi; cases hi
  rw [decide_eq_true_eq] at *
  refine ⟨all_succ h.1 hx ⟨hc, hw⟩, ?_⟩
  rw [List.take_add_one, hx, Option.toList_some]
  refine List.nodup_append.mpr ⟨h.2, List.pairwise_singleton _ _, fun a ha b hb => ?_⟩
  rw [List.mem_singleton] at hb; subst hb; rintro rfl; exact hi ha
theorem EH {t : Int} {d : List ByteArray} {i : Nat} {x : ByteArray} (hx : d[i]? = some x) (h : θ.vS t x = false ∨ θ.lw t x ≠ x ∨ EF (d.take i) x = true) : θ.dat t d = false := by
  unfold Th.dat
  rw [decide_eq_false_iff_not]
  rintro ⟨h1, h2⟩
  have hm := h1 x (List.mem_of_getElem? hx)
  rcases h with h | h | h
  · rw [h] at hm; simp at hm
  · exact h hm.2
  · rw [FY, List.mem_take_iff_getElem] at h
    obtain ⟨j, hj, he⟩ := h
    have h3 := List.getElem?_eq_some_iff.mp hx
    exact List.pairwise_iff_getElem.mp h2 j i (by omega) h3.1 (by omega) (by rw [he, h3.2])
theorem H7 (T : θ.Ok ext) (q : ByteArray) (t c : Int) (d : List ByteArray) (ttl : Int) (hl : d.length ≤ 1000000000000) (hF : 200000000000001 ≤ F) (hq : q.size ≤ 1000000) (hd : ∀ x ∈ d, x.size ≤ 1000000) : G ext F (n + 3) 73 [yN q t c d ttl] = some ([vb (θ.set q t c d ttl)], [yN q t c d ttl]) := by
  refine gM (cf := c73) rfl ?_
  have h1 := fun n => Xt (F := F) (n := n) T q hq
  have h2 := fun n => Xu (F := F) (n := n) T q hq
  simp only [c73, h1, h2, Qt, go_sem, Nat.reduceAdd, Nat.reduceMul, Nat.reduceEqDiff, Nat.reduceBEq, Nat.reduceMod, Nat.reduceDiv, ↓reduceIte, reduceCtorEq]
  repeat' (refine cO (fun h => ?_) (fun h => ?_) <;> simp only [h, h1, h2, Qt, go_sem, Nat.reduceAdd, Nat.reduceMul, Nat.reduceEqDiff, Nat.reduceBEq, Nat.reduceMod, Nat.reduceDiv, ↓reduceIte, reduceCtorEq])
  · refine uz d.length (fun i => ⟨[(1, PV.c (CV.one (PL.ptr 40000 0))), (3, PV.c (CV.one (PL.ptr 80000 0))), (39, PV.c (CV.one (PL.f (FV.sl (List.map gI d))))), (40, PV.c (CV.one (PL.f (FV.int IntKind.i64 (List.map gI d).length)))), (41, PV.c (CV.one (PL.f (FV.int .i64 i))))], [(40000, .mK [.f (.str q), .f (.int .i64 t), .f (.int .i64 c), .f (.sl (d.map gI)), .f (.int .i64 ttl)]), (80000, Ob.mK [PL.f (FV.str q), PL.f (FV.int IntKind.i64 t), PL.f (FV.int IntKind.i64 c)])]⟩) (fun i => θ.dat t (d.take i) = true) (by omega) rfl (by simp [Th.dat]) (fun i hi hP => ?_) (fun hP => ?_)
    · obtain ⟨x, hx, hlt, ht, h0⟩ := at_ hi
      have hn := nx hi (Nat.le_trans hl (by decide))
      have h1 := fun n => Xv (F := F) (n := n) T t x (hd x (List.mem_of_getElem? hx))
      have h2 := fun n => Xw (F := F) (n := n) T t x (hd x (List.mem_of_getElem? hx))
      have h3 := fun n => CY (ext := ext) (F := F) (n := n) (d.take i) x (by simp; omega) hF
      have hle : (i : Int) ≤ (d.length : Int) := by omega
      have hrw := @Xx d
      have hcut : (0 : Int) ≤ i ∧ (i : Int) ≤ d.length := by omega
      simp only [List.length_map, List.getElem?_map, hlt, hx, ht, h0, gI, h1, h2, h3, go_sem, Nat.reduceAdd, Nat.reduceMul, Nat.reduceEqDiff, Nat.reduceBEq, Nat.reduceMod, Nat.reduceDiv, ↓reduceIte, reduceCtorEq]
      repeat' (refine cO (fun h => ?_) (fun h => ?_) <;> simp only [h, List.length_map, List.getElem?_map, hlt, hx, ht, h0, hn, gI, h1, h2, h3, hle, hrw, ← List.map_take, List.drop_zero, Nat.sub_zero, hcut, go_sem, Nat.reduceAdd, Nat.reduceMul, Nat.reduceEqDiff, Nat.reduceBEq, Nat.reduceMod, Nat.reduceDiv, ↓reduceIte, reduceCtorEq])
      · simp [Th.set, EH hx (.inr (.inr h))]
      · exact Kn hx hP (by assumption) (of_decide_eq_true (by assumption)) h
      · simp [Th.set, EH hx (.inr (.inl (of_decide_eq_false h)))]
      · simp [Th.set, EH hx (.inl h)]
    · have hd := @end_ _ d
      rw [List.take_length] at hP
      simp only [List.length_map, hd, go_sem, Nat.reduceAdd, Nat.reduceMul, Nat.reduceEqDiff, Nat.reduceBEq, Nat.reduceMod, Nat.reduceDiv, ↓reduceIte, reduceCtorEq]
      repeat' (refine cO (fun h => ?_) (fun h => ?_) <;> simp only [h, List.length_map, hd, go_sem, Nat.reduceAdd, Nat.reduceMul, Nat.reduceEqDiff, Nat.reduceBEq, Nat.reduceMod, Nat.reduceDiv, ↓reduceIte, reduceCtorEq])
      all_goals (simp [Th.set, Th.key, hP]; simp_all)
      all_goals (cases d <;> simp <;> omega)
  all_goals (simp [Th.set, Th.key]; try simp_all)
  all_goals (try omega)
end Go.Proofs.Ytdkkgecdhapfhaa.Ka
set_option maxRecDepth 4000
namespace Go.Proofs.Ytdkkgecdhapfhaa.Ka
open Go Ev
variable {ext : Env} {F n : Nat} {θ : Th}
structure Sr where
  room : Int
  l : List It
  ch : Int
abbrev Sr.v (s : Sr) : AV := vst s.room s.l s.ch
abbrev It.v (x : It) : AV := Nj x.q x.t x.c x.d x.ttl x.u x.r
def Vl : It := ⟨⟨#[]⟩, 0, 0, [], 0, 0, 0⟩
def old (l : List It) (k : Qn) : Option It := l.find? fun x => decide (x.k = k)
def rid (l : List It) (k : Qn) : List It := l.eraseP fun x => decide (x.k = k)
end Go.Proofs.Ytdkkgecdhapfhaa.Ka
set_option maxRecDepth 4000
namespace Go.Proofs.Ytdkkgecdhapfhaa.Ka
open Go Ev
variable {ext : Env} {F n : Nat}
theorem Qu {α : Type} {body : St → Option (Out × St)} {rs : St → St} {k : Out × St → Prop} {u : Tok k} {F : Nat} {σ : St} (N : Nat) (T : α → St) (P : Nat → α → Prop) (hF : N < F) (x : α) (hs : rs σ = T x) (h0 : P 0 x)
    (step : ∀ i x, i < N → P i x → W (fun p => match p.1 with
      | .jq => ∃ y, rs p.2 = T y ∧ P (i + 1) y
      | o => k (o, p.2)) ⟨⟩ (body (T x)))
    (last : ∀ x, P N x → W (fun p => match p.1 with
      | .jq => False
      | o => k (o, p.2)) ⟨⟩ (body (T x))) : W k u (iter body rs F σ) := by
  refine AQ (fun m σ => ∃ i x, i ≤ N ∧ m = N - i ∧ rs σ = T x ∧ P i x) ?_ F N σ hF ⟨0, x, Nat.zero_le _, rfl, hs, h0⟩
  rintro m σ ⟨i, x, hi, rfl, hr, hP⟩
  rw [hr]
  by_cases hlt : i < N
  · refine uy (step i x hlt hP) fun p hp => ?_
    obtain ⟨o, s⟩ := p
    cases o with
    | jq =>
      obtain ⟨y, h1, h2⟩ := hp
      exact ⟨N - (i + 1), by omega, i + 1, y, by omega, rfl, h1, h2⟩
    | ext j => exact hp
    | ret => exact hp
  · have : i = N := by omega
    subst this
    refine uy (last x hP) fun p hp => ?_
    obtain ⟨o, s⟩ := p
    cases o with
    | jq => exact hp.elim
    | ext j => exact hp
    | ret => exact hp
abbrev Qn.f (k : Qn) : List FV := [.str k.q, .int .i64 k.t, .int .i64 k.c]
abbrev fnQ (k : Qn) : AV := .one (.fn 90 [k.f])
theorem Ko (x k : Qn) : G ext F (n + 1) 90 [vq x.q x.t x.c, .one (.fp k.f)] = some ([vb (decide (x = k))], [vq x.q x.t x.c, .one (.fp k.f)]) := by
  refine gM (cf := c90) rfl ?_
  simp only [c90, go_sem, Nat.reduceAdd, Nat.reduceMul, Nat.reduceEqDiff, Nat.reduceBEq, Nat.reduceMod, Nat.reduceDiv, ↓reduceIte, reduceCtorEq]
  cases x; cases k; simp
def Qv (l : List Qn) (k : Qn) : Int := match l.findIdx? fun x => decide (x = k) with | some i => i | none => -1
theorem SY {l : List Qn} {k : Qn} (h : ∀ x ∈ l, x ≠ k) : Qv l k = -1 := by
  have : l.findIdx? (fun x => decide (x = k)) = none := List.findIdx?_eq_none_iff.mpr fun x hx => by simpa using h x hx
  simp [Qv, this]
theorem S9 {l : List Qn} {k : Qn} {i : Nat} {x : Qn} (h : ∀ x ∈ l.take i, x ≠ k) (hx : l[i]? = some x) (hk : x = k) : Qv l k = i := by
  have hi := (List.getElem?_eq_some_iff.mp hx)
  have : l.findIdx? (fun x => decide (x = k)) = some i := by
    refine List.findIdx?_eq_some_iff_getElem.mpr ⟨hi.1, by simp [hi.2, hk], fun j hj => ?_⟩
    have := h (l[j]'(by have := hi.1; omega)) (by rw [List.mem_take_iff_getElem]; exact ⟨j, by have := hi.1; omega, rfl⟩)
    simpa using this
  simp [Qv, this]
theorem Ta (l : List Qn) (k : Qn) : (Qv l k = -1 ∧ ∀ x ∈ l, x ≠ k) ∨ ∃ (i : Nat), Qv l k = (i : Int) ∧ ∃ h : i < l.length, (∀ x ∈ l.take i, x ≠ k) ∧ l[i] = k := by
  have hp : Qv l k = match l.findIdx? fun x => decide (x = k) with | some i => (i : Int) | none => -1 := rfl
  cases h : l.findIdx? fun x => decide (x = k) with
  | none =>
    rw [h] at hp
    exact .inl ⟨hp, fun x hx => by simpa using List.findIdx?_eq_none_iff.mp h x hx⟩
  | some i =>
    rw [h] at hp
    obtain ⟨hi, hx, hb⟩ := List.findIdx?_eq_some_iff_getElem.mp h
    refine .inr ⟨i, hp, hi, fun x hx => ?_, by simpa using hx⟩
    obtain ⟨j, hj, rfl⟩ := List.mem_take_iff_getElem.mp hx
    have := hb j (by omega)
    simpa using this
theorem AU (l : List Qn) (k : Qn) (hl : l.length ≤ 1000000000000) (hF : 200000000000001 ≤ F) : G ext F (n + 2) 108 [vl (l.map rQ), fnQ k] = some ([vi (Qv l k)], [vl (l.map rQ), fnQ k]) := by
  refine gM (cf := Nc) rfl ?_
  simp only [Nc, go_sem, Nat.reduceAdd, Nat.reduceMul, Nat.reduceEqDiff, Nat.reduceBEq, Nat.reduceMod, Nat.reduceDiv, ↓reduceIte, reduceCtorEq]
  refine uz l.length (fun i => ⟨[(0, PV.c (CV.one (PL.f (FV.sl (l.map rQ))))), (1, PV.c (CV.one (PL.fn 90 [k.f]))), (7, PV.c (CV.one (PL.f (FV.int .i64 (l.map rQ).length)))), (8, PV.c (CV.one (PL.f (FV.int .i64 i))))], []⟩) (fun i => ∀ x ∈ l.take i, x ≠ k) (by omega) rfl (by simp) (fun i hi hP => ?_) (fun hP => ?_)
  · obtain ⟨x, hx, hd, ht, h0⟩ := at_ hi
    have hn := nx hi (Nat.le_trans hl (by decide))
    have hq := fun n => Ko (ext := ext) (F := F) (n := n) x k
    simp only [List.length_map, List.getElem?_map, hd, hx, ht, h0, rQ, hq, go_sem, Nat.reduceAdd, Nat.reduceMul, Nat.reduceEqDiff, Nat.reduceBEq, Nat.reduceMod, Nat.reduceDiv, ↓reduceIte, reduceCtorEq]
    repeat' (refine cO (fun h => ?_) (fun h => ?_) <;> simp only [h, List.length_map, List.getElem?_map, hd, hx, ht, h0, hn, rQ, hq, go_sem, Nat.reduceAdd, Nat.reduceMul, Nat.reduceEqDiff, Nat.reduceBEq, Nat.reduceMod, Nat.reduceDiv, ↓reduceIte, reduceCtorEq])
    · rw [S9 hP hx (by simpa using h)]
    · exact all_succ hP hx (by simpa using h)
  · have hd := @end_ _ l
    simp only [List.length_map, hd, go_sem, Nat.reduceAdd, Nat.reduceMul, Nat.reduceEqDiff, Nat.reduceBEq, Nat.reduceMod, Nat.reduceDiv, ↓reduceIte, reduceCtorEq]
    repeat' (refine cO (fun h => ?_) (fun h => ?_) <;> simp only [h, List.length_map, hd, go_sem, Nat.reduceAdd, Nat.reduceMul, Nat.reduceEqDiff, Nat.reduceBEq, Nat.reduceMod, Nat.reduceDiv, ↓reduceIte, reduceCtorEq])
    rw [List.take_length] at hP
    rw [SY hP]
theorem Np {l : List Qn} {k x : Qn} {i : Nat} (h : l[i]? = some x) : (l.take (i + 1)).filter (fun y => decide (y ≠ k)) = (l.take i).filter (fun y => decide (y ≠ k)) ++ if x = k then [] else [x] := by
  rw [List.take_add_one, List.filter_append, h]
  by_cases hx : x = k <;> simp [hx]
theorem yQ (l : List Qn) (k : Qn) (hl : l.length ≤ 1000000000000) (hF : 200000000000001 ≤ F) : G ext F (n + 3) 89 [.one (.own 3 (l.map rQ)), fnQ k] = some ([.one (.own 3 ((l.filter fun x => decide (x ≠ k)).map rQ))], [.one .any, fnQ k]) := by
  refine gM (cf := c89) rfl ?_
  have h1 := fun n => AU (ext := ext) (F := F) (n := n) l k hl hF
  simp only [c89, h1, go_sem, Nat.reduceAdd, Nat.reduceMul, Nat.reduceEqDiff, Nat.reduceBEq, Nat.reduceMod, Nat.reduceDiv, ↓reduceIte, reduceCtorEq]
  rcases Ta l k with ⟨hp, hno⟩ | ⟨i0, hp, hi0, hpre, hat⟩
  · rw [hp]
    simp only [show decide ((-1 : Int) = -1) = true from rfl, go_sem, Nat.reduceAdd, Nat.reduceMul, Nat.reduceEqDiff, Nat.reduceBEq, Nat.reduceMod, Nat.reduceDiv, ↓reduceIte, reduceCtorEq]
    rw [List.filter_eq_self.mpr (fun x hx => by simpa using hno x hx)]
  · rw [hp]
    have hne : decide ((i0 : Int) = -1) = false := by simp
    simp only [hne, nx hi0 (Nat.le_trans hl (by decide)), List.length_map, go_sem, Nat.reduceAdd, Nat.reduceMul, Nat.reduceEqDiff, Nat.reduceBEq, Nat.reduceMod, Nat.reduceDiv, ↓reduceIte, reduceCtorEq]
    refine Qu (l.length - (i0 + 1)) (fun x : List Qn × Nat × Nat => ⟨[(0, PV.c (CV.one (PL.own 20202 x.1.length))), (1, PV.c (CV.one (PL.fn 90 [k.f]))), (5, PV.c (CV.one (PL.f (FV.int IntKind.i64 x.2.1)))), (6, PV.c (CV.one (PL.f (FV.int IntKind.i64 x.2.2))))], [(20202, Ob.row 3 (x.1.map rQ))]⟩) (fun r x => x.2.2 = i0 + 1 + r ∧ x.2.1 < x.2.2 ∧ x.1.length = l.length ∧ x.1.take x.2.1 = (l.take x.2.2).filter (fun y => decide (y ≠ k)) ∧ x.1.drop x.2.2 = l.drop x.2.2) (by omega) (l, i0, i0 + 1) rfl ⟨rfl, Nat.lt_succ_self _, rfl, ?_, rfl⟩ (fun r x hr hP => ?_) (fun x hP => ?_)
    · rw [List.take_add_one, List.filter_append, List.filter_eq_self.mpr (fun x hx => by simpa using hpre x hx), List.getElem?_eq_getElem hi0]
      simp [hat]
    · obtain ⟨R, c, j⟩ := x
      obtain ⟨rfl, hc, hlen, htk, hdr⟩ := hP
      simp only at hc hlen htk hdr ⊢
      have hj : i0 + 1 + r < R.length := by omega
      obtain ⟨x, hx, hd, ht, h0⟩ := at_ hj
      have hn := nx hj (by omega)
      have hq := fun n => Ko (ext := ext) (F := F) (n := n) x k
      have hlt : ((i0 + 1 + r : Nat) : Int) < (R.length : Int) := by omega
      have hcR : c < R.length := by omega
      obtain ⟨y, hy, hcd, hct, hc0⟩ := at_ hcR
      have hcl : (c : Int) < (R.length : Int) := by omega
      have hcn := nx hcR (by omega)
      simp only [List.length_map, List.getElem?_map, hd, hx, ht, h0, rQ, hq, hlt, go_sem, Nat.reduceAdd, Nat.reduceMul, Nat.reduceEqDiff, Nat.reduceBEq, Nat.reduceMod, Nat.reduceDiv, ↓reduceIte, reduceCtorEq]
      repeat' (refine cO (fun h => ?_) (fun h => ?_) <;> simp only [h, List.length_map, List.getElem?_map, hd, hx, ht, h0, hn, rQ, hq, hlt, hy, hct, hc0, hcl, hcn, go_sem, Nat.reduceAdd, Nat.reduceMul, Nat.reduceEqDiff, Nat.reduceBEq, Nat.reduceMod, Nat.reduceDiv, ↓reduceIte, reduceCtorEq])
      all_goals
        have hxl : l[i0 + 1 + r]? = some x := by
          have := congrArg (fun z : List Qn => z[0]?) hdr
          simp only [List.getElem?_drop, Nat.add_zero, hx] at this
          exact this.symm
        have hdr' : List.drop (i0 + 1 + r + 1) R = List.drop (i0 + 1 + r + 1) l := by
          have := congrArg (List.drop 1) hdr
          simpa only [List.drop_drop] using this
        have hft := Np (k := k) hxl
      · simp only [decide_eq_true_eq] at h
        rw [if_pos h, List.append_nil] at hft
        exact ⟨(R, c, i0 + 1 + r + 1), rfl, rfl, by show c < i0 + 1 + r + 1; omega, hlen, by rw [hft]; exact htk, hdr'⟩
      · simp only [decide_eq_false_iff_not] at h
        rw [if_neg h] at hft
        refine ⟨(R.set c x, c + 1, i0 + 1 + r + 1), ?_, rfl, by show c + 1 < i0 + 1 + r + 1; omega, by simp [hlen], ?_, ?_⟩
        · simp [List.map_set, rQ]
        · show List.take (c + 1) (R.set c x) = _
          rw [hft, List.take_add_one, List.take_set, List.set_eq_of_length_le (by simp; omega), htk, List.getElem?_set_self hcR]
          rfl
        · show List.drop _ (R.set c x) = _
          rw [List.drop_set_of_lt (show c < i0 + 1 + r + 1 by omega)]
          exact hdr'
    · obtain ⟨R, c, j⟩ := x
      obtain ⟨rfl, hc, hlen, htk, hdr⟩ := hP
      simp only at hc hlen htk hdr ⊢
      have hj : i0 + 1 + (l.length - (i0 + 1)) = R.length := by omega
      rw [hj]
      rw [hj, List.take_of_length_le (l := l) (i := R.length) (by omega)] at htk
      have hd := @end_ _ R
      have hct : (c : Int).toNat = c := by simp
      have htt : List.take c (List.take c (List.map rQ R) ++ List.replicate (R.length - c) [FV.str ⟨#[]⟩, FV.int IntKind.i64 0, FV.int IntKind.i64 0]) = (l.filter fun y => decide (y ≠ k)).map rQ := by
        rw [List.take_append_of_le_length (by simp; omega), List.take_take, Nat.min_self, ← List.map_take, htk]
      simp only [List.length_map, hd, go_sem, Nat.reduceAdd, Nat.reduceMul, Nat.reduceEqDiff, Nat.reduceBEq, Nat.reduceMod, Nat.reduceDiv, ↓reduceIte, reduceCtorEq]
      repeat' (refine cO (fun h => ?_) (fun h => ?_) <;> simp only [h, List.length_map, hd, go_sem, Nat.reduceAdd, Nat.reduceMul, Nat.reduceEqDiff, Nat.reduceBEq, Nat.reduceMod, Nat.reduceDiv, ↓reduceIte, reduceCtorEq])
      rw [hct]
      exact ⟨by omega, by omega, ⟨by omega, by simp; omega⟩, by rw [htt]⟩
structure qO (ext : Env) : Prop where
  cq : ∀ l : List Qn, l.length ≤ 1000000 → ext 70 [vl (l.map rQ)] = some ([.one (.own 3 (l.map rQ))], [vl (l.map rQ)])
  cs : ∀ l : List ByteArray, l.length ≤ 1000000 → ext 88 [vl (l.map gI)] = some ([vl (l.map gI)], [vl (l.map gI)])
theorem FZ (C : qO ext) (l : List Qn) (h : l.length ≤ 1000000) : G ext F (n + 1) 70 [vl (l.map rQ)] = some ([.one (.own 3 (l.map rQ))], [vl (l.map rQ)]) := (congrFun (qN rfl) _).trans (C.cq l h)
theorem Xy (C : qO ext) (l : List ByteArray) (h : l.length ≤ 1000000) : G ext F (n + 1) 88 [vl (l.map gI)] = some ([vl (l.map gI)], [vl (l.map gI)]) := (congrFun (qN rfl) _).trans (C.cs l h)
def BR (l : List Qn) (k : Qn) : List Qn := l.filter fun x => decide (x ≠ k)
theorem AX {l : List Qn} {k : Qn} : (BR l k).length ≤ l.length := List.length_filter_le ..
theorem C8 (C : qO ext) (l : List Qn) (k : Qn) (hl : l.length ≤ 1000000) (hF : 200000000000001 ≤ F) : G ext F (n + 4) 69 [vl (l.map rQ), vq k.q k.t k.c] = some ([.one (.own 3 ((BR l k).map rQ))], [vl (l.map rQ), vq k.q k.t k.c]) := by
  refine gM (cf := c69) rfl ?_
  have h1 := fun n => FZ (F := F) (n := n) C l hl
  have h2 := fun n => yQ (ext := ext) (F := F) (n := n) l k (by omega) hF
  simp only [c69, h1, h2, go_sem, Nat.reduceAdd, Nat.reduceMul, Nat.reduceEqDiff, Nat.reduceBEq, Nat.reduceMod, Nat.reduceDiv, ↓reduceIte, reduceCtorEq]
  rfl
theorem C9 (C : qO ext) (l : List Qn) (k : Qn) (hl : l.length ≤ 1000000) (hF : 200000000000001 ≤ F) : G ext F (n + 5) 67 [vl (l.map rQ), vq k.q k.t k.c] = some ([vl ((BR l k ++ [k]).map rQ)], [vl (l.map rQ), vq k.q k.t k.c]) := by
  refine gM (cf := c67) rfl ?_
  have h1 := fun n => C8 (ext := ext) (F := F) (n := n) C l k hl hF
  have hl2 := @AX l k
  simp only [c67, h1, List.length_map, go_sem, Nat.reduceAdd, Nat.reduceMul, Nat.reduceEqDiff, Nat.reduceBEq, Nat.reduceMod, Nat.reduceDiv, ↓reduceIte, reduceCtorEq]
  have hsz : ((BR l k).length + 1) * 32 ≤ 140737488355328 := by omega
  simp [rQ, hsz]
theorem Xz (l : List Qn) : ((l.map rQ).all fun r => r.length == 3) = true := by
  rw [List.all_eq_true]
  intro r hr
  obtain ⟨x, -, rfl⟩ := List.mem_map.mp hr
  rfl
theorem Tc (C : qO ext) (l : List Qn) (most : Int) (hl : l.length ≤ 1000000) (hm : 0 ≤ most ∧ most ≤ 1000000000000) (hF : 200000000000001 ≤ F) : G ext F (n + 2) 66 [vl (l.map rQ), vi most] = some ([vl ((l.drop (l.length - most.toNat)).map rQ), vl ((l.take (l.length - most.toNat)).map rQ)], [vl (l.map rQ), vi most]) := by
  refine gM (cf := c66) rfl ?_
  have h1 := fun n => FZ (F := F) (n := n) C (l.drop (l.length - most.toNat)) (by simp; omega)
  have h2 := fun n => FZ (F := F) (n := n) C (l.take (l.length - most.toNat)) (by simp; omega)
  obtain ⟨a, ha⟩ : ∃ a, a = l.length - most.toNat := ⟨_, rfl⟩
  rw [← ha] at h1 h2 ⊢
  have hc : IntKind.i64.wrap ((l.length : Int) - if (if (l.length : Int) < most then (l.length : Int) else most) < 0 then 0 else if (l.length : Int) < most then (l.length : Int) else most) = (a : Int) := by
    rw [Hy (by split <;> split <;> omega) (by split <;> split <;> omega)]
    split <;> split <;> omega
  have hat : (a : Int).toNat = a := by simp
  have hc1 : (0 : Int) ≤ a ∧ (a : Int) ≤ (l.length : Int) := by omega
  have hk1 : List.take (l.length - a) (List.drop a (l.map rQ)) = (l.drop a).map rQ := by rw [List.take_of_length_le (by simp), List.map_drop]
  have hk2 : List.take a (l.map rQ) = (l.take a).map rQ := List.map_take.symm
  simp only [c66, List.length_map, hc, hat, hc1, hk1, hk2, h1, h2, Xz l, List.drop_zero, Nat.sub_zero, go_sem, Nat.reduceAdd, Nat.reduceMul, Nat.reduceEqDiff, Nat.reduceBEq, Nat.reduceMod, Nat.reduceDiv, ↓reduceIte, reduceCtorEq]
end Go.Proofs.Ytdkkgecdhapfhaa.Ka
set_option maxRecDepth 4000
namespace Go.Proofs.Ytdkkgecdhapfhaa.Ka
open Go Ev
variable {ext : Env} {F n : Nat} {θ : Th}
abbrev shQ : KS := .agg [.str, .int .i64, .int .i64]
abbrev kq (k : Qn) : KV := .agg [.str k.q, .int .i64 k.t, .int .i64 k.c]
def ent (x : It) : KV × FC := (kq x.k, .agg (rI x))
structure Sv where
  room : Int
  m : List It
  o : List Qn
  ch : Int
abbrev Sv.v (s : Sv) : AV := .one (.ptr [.f (.int .i64 s.room), .mp shQ (s.m.map ent), .f (.sl (s.o.map rQ)), .f (.int .i64 s.ch)])
def Td : Option Sv → AV
  | some s => s.v
  | none => .one .jo
theorem sD (s : Sv) : Td (some s) = s.v := rfl
theorem Da : Td none = .one .jo := rfl
theorem Te {a b : Qn} : kq a = kq b ↔ a = b := by
  constructor
  · intro h; simp only [kq, KV.agg.injEq, List.cons.injEq, SV.str.injEq, SV.int.injEq] at h
    cases a; cases b; simp_all
  · rintro rfl; rfl
theorem wZ (l : List It) (k : Qn) : Eb (l.map ent) (kq k) = l.findIdx? fun x => decide (x.k = k) := by
  unfold Eb
  rw [List.map_map, List.findIdx?_map]
  refine congrArg (fun p => List.findIdx? p l) (funext fun x => ?_)
  simp only [Function.comp, ent]
  by_cases h : x.k = k
  · simp [h]
  · have : ¬ kq x.k = kq k := fun e => h (Te.mp e)
    simp only [this, h, decide_false]
theorem xg (l : List It) (k : Qn) : BU (l.map ent) (kq k) = (old l k).map fun x => .agg (rI x) := by
  have hf : old l k = (l.findIdx? fun x => decide (x.k = k)).bind fun i => l[i]? := List.find?_eq_bind_findIdx?_getElem? ..
  unfold BU
  rw [wZ, hf]
  cases l.findIdx? fun x => decide (x.k = k) with
  | none => rfl
  | some i => simp only [Option.bind_some, List.getElem?_map]; cases l[i]? <;> rfl
theorem Db (l : List It) (k : Qn) : Ed (l.map ent) (kq k) = (rid l k).map ent := by
  unfold Ed rid
  rw [wZ, List.eraseP_eq_eraseIdx]
  cases l.findIdx? fun x => decide (x.k = k) with
  | none => rfl
  | some i => simp [List.eraseIdx_eq_take_drop_succ, List.map_take, List.map_drop]
def upd (l : List It) (x : It) : List It := match l.findIdx? fun y => decide (y.k = x.k) with
  | some i => l.set i x
  | none => l ++ [x]
theorem Kq (l : List It) (x : It) : Ec (l.map ent) (kq x.k) (.agg (rI x)) = (upd l x).map ent := by
  unfold Ec upd
  rw [wZ]
  cases l.findIdx? fun y => decide (y.k = x.k) with
  | none => simp [ent]
  | some i => simp [List.map_set, ent]
theorem AY (room : Int) : G ext F (n + 1) 16 [vi room] = some ([Td (if room < 1 ∨ 1000 < room then none else some ⟨room, [], [], 0⟩)], [vi room]) := by
  refine gM (cf := c16) rfl ?_
  simp only [c16, go_sem, Nat.reduceAdd, Nat.reduceMul, Nat.reduceEqDiff, Nat.reduceBEq, Nat.reduceMod, Nat.reduceDiv, ↓reduceIte, reduceCtorEq]
  repeat' (refine cO (fun h => ?_) (fun h => ?_) <;> simp only [h, go_sem, Nat.reduceAdd, Nat.reduceMul, Nat.reduceEqDiff, Nat.reduceBEq, Nat.reduceMod, Nat.reduceDiv, ↓reduceIte, reduceCtorEq])
  all_goals (simp only [decide_eq_true_eq, decide_eq_false_iff_not] at *)
  all_goals first | rw [if_pos (by omega)] | rw [if_neg (by omega)]
  all_goals rfl
theorem xk (o : Option Sv) : G ext F (n + 1) 31 [Td o] = some ([vi (match o with | some s => s.ch | none => 0)], [Td o]) := by
  refine gM (cf := c31) rfl ?_
  cases o with
  | none =>
    rw [Da]
    simp only [c31, go_sem, Nat.reduceAdd, Nat.reduceMul, Nat.reduceEqDiff, Nat.reduceBEq, Nat.reduceMod, Nat.reduceDiv, ↓reduceIte, reduceCtorEq]
  | some s =>
    rw [sD]
    simp only [c31, go_sem, Nat.reduceAdd, Nat.reduceMul, Nat.reduceEqDiff, Nat.reduceBEq, Nat.reduceMod, Nat.reduceDiv, ↓reduceIte, reduceCtorEq]
theorem Dc (C : qO ext) (o : Option Sv) (ho : ∀ s, o = some s → s.o.length ≤ 1000000) : G ext F (n + 2) 29 [Td o] = some ([vl ((match o with | some s => s.o | none => []).map rQ)], [Td o]) := by
  refine gM (cf := Hw) rfl ?_
  cases o with
  | none =>
    rw [Da]
    simp only [Hw, go_sem, Nat.reduceAdd, Nat.reduceMul, Nat.reduceEqDiff, Nat.reduceBEq, Nat.reduceMod, Nat.reduceDiv, ↓reduceIte, reduceCtorEq]
  | some s =>
    rw [sD]
    have h1 := fun n => FZ (F := F) (n := n) C s.o (ho s rfl)
    simp only [Hw, h1, go_sem, Nat.reduceAdd, Nat.reduceMul, Nat.reduceEqDiff, Nat.reduceBEq, Nat.reduceMod, Nat.reduceDiv, ↓reduceIte, reduceCtorEq]
theorem Df (C : qO ext) (x : It) (hx : x.d.length ≤ 1000000) : G ext F (n + 2) 65 [x.v] = some ([x.v], [x.v]) := by
  refine gM (cf := c65) rfl ?_
  have h1 := fun n => Xy (F := F) (n := n) C x.d hx
  simp only [c65, h1, go_sem, Nat.reduceAdd, Nat.reduceMul, Nat.reduceEqDiff, Nat.reduceBEq, Nat.reduceMod, Nat.reduceDiv, ↓reduceIte, reduceCtorEq]
def sF (s : Sv) (now : Int) (k : Qn) : It × Bool := match old s.m k with
  | some x => if jO now x.u then (x, true) else (Vl, false)
  | none => (Vl, false)
theorem sG (C : qO ext) (s : Sv) (now : Int) (k : Qn) (hd : ∀ x ∈ s.m, x.d.length ≤ 1000000) : G ext F (n + 3) 25 [s.v, vi now, vq k.q k.t k.c] = some ([(sF s now k).1.v, vb (sF s now k).2], [s.v, vi now, vq k.q k.t k.c]) := by
  refine gM (cf := L6) rfl ?_
  have hk := xg s.m k
  unfold sF
  cases ho : old s.m k with
  | none =>
    rw [ho] at hk
    simp only [L6, hk, Option.map_none, Option.isSome_none, go_sem, Nat.reduceAdd, Nat.reduceMul, Nat.reduceEqDiff, Nat.reduceBEq, Nat.reduceMod, Nat.reduceDiv, ↓reduceIte, reduceCtorEq]
    rfl
  | some x =>
    rw [ho] at hk
    have h1 := fun n => Df (F := F) (n := n) C x (hd x (List.mem_of_find?_eq_some ho))
    cases hv : jO now x.u
    all_goals
      simp only [L6, hk, Option.map_some, Option.isSome_some, rI, sw, hv, h1, go_sem, Nat.reduceAdd, Nat.reduceMul, Nat.reduceEqDiff, Nat.reduceBEq, Nat.reduceMod, Nat.reduceDiv, ↓reduceIte, reduceCtorEq]
    rfl
def H8 (s : Sv) (now : Int) (k : Qn) : Sv × It × Bool := match old s.m k with
  | some x => if jO now x.u then (⟨s.room, s.m, BR s.o k ++ [k], s.ch⟩, x, true) else (s, Vl, false)
  | none => (s, Vl, false)
theorem Tf (C : qO ext) (s : Sv) (now : Int) (k : Qn) (hd : ∀ x ∈ s.m, x.d.length ≤ 1000000) (ho : s.o.length ≤ 1000000) (hF : 200000000000001 ≤ F) : G ext F (n + 6) 21 [s.v, vi now, vq k.q k.t k.c] = some ([(H8 s now k).2.1.v, vb (H8 s now k).2.2], [(H8 s now k).1.v, vi now, vq k.q k.t k.c]) := by
  refine gM (cf := c21) rfl ?_
  have h1 := fun n => sG (ext := ext) (F := F) (n := n) C s now k hd
  have h2 := fun n => C9 (ext := ext) (F := F) (n := n) C s.o k ho hF
  unfold sF at h1
  unfold H8
  cases hold : old s.m k with
  | none =>
    simp only [hold] at h1
    simp only [c21, h1, h2, go_sem, Nat.reduceAdd, Nat.reduceMul, Nat.reduceEqDiff, Nat.reduceBEq, Nat.reduceMod, Nat.reduceDiv, ↓reduceIte, reduceCtorEq]
  | some x =>
    cases hv : jO now x.u
    all_goals simp only [hold, hv, if_true, if_false, Bool.false_eq_true] at h1
    all_goals
      simp only [c21, h1, h2, go_sem, Nat.reduceAdd, Nat.reduceMul, Nat.reduceEqDiff, Nat.reduceBEq, Nat.reduceMod, Nat.reduceDiv, ↓reduceIte, reduceCtorEq]
    all_goals simp [hv]
def xq (s : Sv) (k : Qn) : Sv × Bool := match old s.m k with
  | some _ => (⟨s.room, rid s.m k, BR s.o k, s.ch + 1⟩, true)
  | none => (s, false)
theorem F4 (C : qO ext) (s : Sv) (k : Qn) (hc : 0 ≤ s.ch ∧ s.ch ≤ 1000000000000) (ho : s.o.length ≤ 1000000) (hF : 200000000000001 ≤ F) : G ext F (n + 5) 27 [s.v, vq k.q k.t k.c] = some ([vb (xq s k).2], [(xq s k).1.v, vq k.q k.t k.c]) := by
  refine gM (cf := Xo) rfl ?_
  have hk := xg s.m k
  have hk2 := Db s.m k
  have h1 := fun n => C8 (ext := ext) (F := F) (n := n) C s.o k ho hF
  have hw : IntKind.i64.wrap (s.ch + 1) = s.ch + 1 := Hy (by omega) (by omega)
  unfold xq
  cases hold : old s.m k with
  | none =>
    rw [hold] at hk
    simp only [Xo, hk, Option.map_none, Option.isSome_none, go_sem, Nat.reduceAdd, Nat.reduceMul, Nat.reduceEqDiff, Nat.reduceBEq, Nat.reduceMod, Nat.reduceDiv, ↓reduceIte, reduceCtorEq]
  | some x =>
    rw [hold] at hk
    simp only [Xo, hk, hk2, Option.map_some, Option.isSome_some, rI, h1, hw, go_sem, Nat.reduceAdd, Nat.reduceMul, Nat.reduceEqDiff, Nat.reduceBEq, Nat.reduceMod, Nat.reduceDiv, ↓reduceIte, reduceCtorEq]
def vE (θ : Th) (s : Sv) (now : Int) (x : It) : Int :=
  if x.u < 0 ∨ θ.set x.q x.t x.c x.d x.ttl = false ∨ x.r < 1 ∨ 5 < x.r then 1
  else if jO now x.u = false then 14
  else match old s.m x.k with
    | some o => if FU o.r (jO now o.u) x.r = false then 10 else 0
    | none => 0
theorem Kr (now : Int) (x : It) : G ext F (n + 4) 64 [.one .jo, vi now, x.v] = some ([vi 1], [.one .jo, vi now, x.v]) := by
  refine gM (cf := c64) rfl ?_
  simp only [c64, go_sem, Nat.reduceAdd, Nat.reduceMul, Nat.reduceEqDiff, Nat.reduceBEq, Nat.reduceMod, Nat.reduceDiv, ↓reduceIte, reduceCtorEq]
theorem Tg (T : θ.Ok ext) (s : Sv) (now : Int) (x : It) (hF : 200000000000001 ≤ F) (hq : x.q.size ≤ 1000000) (hn : x.d.length ≤ 1000000) (hd : ∀ y ∈ x.d, y.size ≤ 1000000) : G ext F (n + 4) 64 [s.v, vi now, x.v] = some ([vi (vE θ s now x)], [s.v, vi now, x.v]) := by
  refine gM (cf := c64) rfl ?_
  have hk := xg s.m x.k
  have h1 := fun n => H7 (ext := ext) (F := F) (n := n) T x.q x.t x.c x.d x.ttl (by omega) hF hq hd
  unfold vE
  cases hold : old s.m x.k with
  | none =>
    rw [hold] at hk
    simp only [c64, h1, hk, sw, Option.map_none, Option.isSome_none, go_sem, Nat.reduceAdd, Nat.reduceMul, Nat.reduceEqDiff, Nat.reduceBEq, Nat.reduceMod, Nat.reduceDiv, ↓reduceIte, reduceCtorEq]
    repeat' (refine cO (fun h => ?_) (fun h => ?_) <;> simp only [h, h1, hk, sw, Option.map_none, Option.isSome_none, go_sem, Nat.reduceAdd, Nat.reduceMul, Nat.reduceEqDiff, Nat.reduceBEq, Nat.reduceMod, Nat.reduceDiv, ↓reduceIte, reduceCtorEq])
    all_goals clear h1 hk
    all_goals simp only [decide_eq_true_eq, decide_eq_false_iff_not] at *
    all_goals simp [*]
  | some o =>
    rw [hold] at hk
    simp only [c64, h1, hk, sw, FW, Option.map_some, Option.isSome_some, rI, go_sem, Nat.reduceAdd, Nat.reduceMul, Nat.reduceEqDiff, Nat.reduceBEq, Nat.reduceMod, Nat.reduceDiv, ↓reduceIte, reduceCtorEq]
    repeat' (refine cO (fun h => ?_) (fun h => ?_) <;> simp only [h, h1, hk, sw, FW, Option.map_some, Option.isSome_some, rI, go_sem, Nat.reduceAdd, Nat.reduceMul, Nat.reduceEqDiff, Nat.reduceBEq, Nat.reduceMod, Nat.reduceDiv, ↓reduceIte, reduceCtorEq])
    all_goals clear h1 hk
    all_goals simp only [decide_eq_true_eq, decide_eq_false_iff_not] at *
    all_goals simp [*]
end Go.Proofs.Ytdkkgecdhapfhaa.Ka
