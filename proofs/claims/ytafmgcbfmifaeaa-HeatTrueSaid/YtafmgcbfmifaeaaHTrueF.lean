/-
  Part 6 of the proof: a machine over named blocks, what each function computes, and what follows. No condition.
-/
import Derived.Test.YtafmgcbfmifaeaaHTrueE
set_option linter.unusedVariables false
set_option linter.unusedSimpArgs false
set_option linter.all false
set_option maxRecDepth 20000
set_option maxHeartbeats 8000000
namespace Go.Abs
open Go.Proofs
def F7.s0 : SC :=
 (.seq
 (.seq
 (.reg [mv 45 9 3 [],
 mv 46 7 23 [],
 ln 47 46 23 3 [46],
 b2 48 .lss 3 45 47 3 4 [45, 47]])
 (.cond (.tmp 48)
 .skip
 (.exit 0)))
 (.seq
 (.block 1
 (.seq
 (.reg [ld 52 32 5 [],
 mv 53 9 3 [],
 cf2 54 13 52 53 32 3 44 [52, 53],
 mv 51 54 44 [54],
 xt 55 51 0 39 [],
 xt 56 51 1 43 [51],
 oq 10 (.alloc 39) 0 [],
 ⟨none, .store 39 (.tmp 10) (.tmp 55), 0, none, [55]⟩,
 sg 11 56 43 [56]])
 (.seq
 (.seq
 (.dreg [mv 57 11 43 [],
 bn 58 .neq 43 57 0 43 4 [],
 mv 59 58 4 [],
 og 60 (.move (.tmp 7)) 23 59 false [],
 og 61 (.move (.tmp 9)) 3 59 false [],
 og 62 (.indexAddr 23 (.tmp 60) (.tmp 61)) 0 59 false [],
 og 63 (.load 3 (.tmp 62)) 3 59 false [],
 og 64 (.fieldAddr 39 (.tmp 10) 0) 0 59 false [],
 og 65 (.load 3 (.tmp 64)) 3 59 false [],
 og 66 (.binOp .lss 3 (.tmp 63) (.tmp 65) 3) 4 59 false [],
 oq 67 (.pick (.tmp 59) (.const (.bool true)) (.tmp 66)) 4 [],
 mv 68 67 4 [],
 og 69 (.move (.tmp 7)) 23 68 false [],
 og 70 (.move (.tmp 9)) 3 68 false [],
 og 71 (.indexAddr 23 (.tmp 69) (.tmp 70)) 0 68 false [],
 og 72 (.load 3 (.tmp 71)) 3 68 false [],
 og 73 (.fieldAddr 39 (.tmp 10) 1) 0 68 false [],
 og 74 (.load 3 (.tmp 73)) 3 68 false [],
 og 75 (.binOp .gtr 3 (.tmp 72) (.tmp 74) 3) 4 68 false [],
 oq 76 (.pick (.tmp 68) (.const (.bool true)) (.tmp 75)) 4 []] [[], [0], [0, 1], [0, 1, 2], [0, 1, 2], [0, 1, 2, 3, 4], [0, 1, 2, 3, 4, 5], [0, 1, 2], [0, 1, 2, 7], [0, 1, 2, 3, 4, 5, 6, 7, 8], [0, 1, 2, 3, 4, 5, 6, 7, 8, 9], [0, 1, 2, 3, 4, 5, 6, 7, 8, 9, 10], [0, 1, 2, 3, 4, 5, 6, 7, 8, 9, 10, 11], [0, 1, 2, 3, 4, 5, 6, 7, 8, 9, 10, 11], [0, 1, 2, 3, 4, 5, 6, 7, 8, 9, 10, 11, 12, 13], [0, 1, 2, 3, 4, 5, 6, 7, 8, 9, 10, 11, 12, 13, 14], [0, 1, 2, 3, 4, 5, 6, 7, 8, 9, 10, 11], [0, 1, 2, 3, 4, 5, 6, 7, 8, 9, 10, 11, 16], [0, 1, 2, 3, 4, 5, 6, 7, 8, 9, 10, 11, 12, 13, 14, 15, 16, 17], [0, 1, 2, 3, 4, 5, 6, 7, 8, 9, 10, 11, 12, 13, 14, 15, 16, 17, 18]] [11, 57, 58, 59, 60, 61, 62, 63, 64, 65, 66, 67, 68, 69, 70, 71, 72, 73, 74, 75])
 (.cond (.tmp 76)
 (.seq
 (.reg [sb 4 false 4 []])
 .ret)
 .skip))
 (.seq
 (.reg [ld 78 32 5 [],
 mv 79 9 3 [],
 oq 80 (.call ⟨.value (.func 30), #[.tmp 78, .tmp 79, .const (.bool false)], #[32, 3, 4]⟩) 75 [78, 79],
 mv 77 80 75 [80],
 xt 81 77 0 35 [],
 xt 82 77 1 43 [77],
 oq 12 (.alloc 35) 0 [],
 ⟨none, .store 35 (.tmp 12) (.tmp 81), 0, none, [81]⟩,
 sg 13 82 43 [82]])
 (.seq
 (.reg [ld 84 32 5 [],
 mv 85 9 3 [],
 oq 86 (.call ⟨.value (.func 30), #[.tmp 84, .tmp 85, .const (.bool true)], #[32, 3, 4]⟩) 75 [84, 85],
 mv 83 86 75 [86],
 xt 87 83 0 35 [],
 xt 88 83 1 43 [83],
 oq 14 (.alloc 35) 0 [],
 ⟨none, .store 35 (.tmp 14) (.tmp 87), 0, none, [87]⟩,
 sg 15 88 43 [88]])
 (.seq
 (.reg [fa 90 32 5 0 [],
 ld 91 29 90 [90],
 ld 92 35 12 [],
 cf2 93 25 91 92 29 35 53 [91, 92],
 mv 89 93 53 [93],
 xt 94 89 0 23 [],
 xt 95 89 1 43 [89],
 sg 16 94 23 [94],
 sg 17 95 43 [95]])
 (.seq
 (.reg [fa 97 32 5 0 [],
 ld 98 29 97 [97],
 ld 99 35 14 [],
 cf2 100 25 98 99 29 35 53 [98, 99],
 mv 96 100 53 [100],
 xt 101 96 0 23 [],
 xt 102 96 1 43 [96],
 sg 18 101 23 [101],
 sg 19 102 43 [102]])
 (.seq
 (.seq
 (.dreg [mv 103 13 43 [],
 bn 104 .neq 43 103 0 43 4 [],
 mv 105 104 4 [],
 og 106 (.move (.tmp 15)) 43 105 false [],
 og 107 (.binOp .neq 43 (.tmp 106) (.const (.int .i64 0)) 43) 4 105 false [],
 oq 108 (.pick (.tmp 105) (.const (.bool true)) (.tmp 107)) 4 [],
 mv 109 108 4 [],
 og 110 (.move (.tmp 17)) 43 109 false [],
 og 111 (.binOp .neq 43 (.tmp 110) (.const (.int .i64 0)) 43) 4 109 false [],
 oq 112 (.pick (.tmp 109) (.const (.bool true)) (.tmp 111)) 4 [],
 mv 113 112 4 [],
 og 114 (.move (.tmp 19)) 43 113 false [],
 og 115 (.binOp .neq 43 (.tmp 114) (.const (.int .i64 0)) 43) 4 113 false [],
 oq 116 (.pick (.tmp 113) (.const (.bool true)) (.tmp 115)) 4 [],
 mv 117 116 4 [],
 og 118 (.move (.tmp 16)) 23 117 false [],
 og 119 (.call ⟨.builtin .len, #[.tmp 118], #[23]⟩) 3 117 false [],
 og 120 (.move (.tmp 7)) 23 117 false [],
 og 121 (.call ⟨.builtin .len, #[.tmp 120], #[23]⟩) 3 117 false [],
 og 122 (.binOp .neq 3 (.tmp 119) (.tmp 121) 3) 4 117 false [],
 oq 123 (.pick (.tmp 117) (.const (.bool true)) (.tmp 122)) 4 [],
 mv 124 123 4 [],
 og 125 (.move (.tmp 18)) 23 124 false [],
 og 126 (.call ⟨.builtin .len, #[.tmp 125], #[23]⟩) 3 124 false [],
 og 127 (.move (.tmp 7)) 23 124 false [],
 og 128 (.call ⟨.builtin .len, #[.tmp 127], #[23]⟩) 3 124 false [],
 og 129 (.binOp .neq 3 (.tmp 126) (.tmp 128) 3) 4 124 false [],
 oq 130 (.pick (.tmp 124) (.const (.bool true)) (.tmp 129)) 4 [],
 mv 131 130 4 [],
 og 132 (.move (.tmp 16)) 23 131 false [],
 og 133 (.move (.tmp 9)) 3 131 false [],
 og 134 (.indexAddr 23 (.tmp 132) (.tmp 133)) 0 131 false [],
 og 135 (.load 3 (.tmp 134)) 3 131 false [],
 og 136 (.fieldAddr 39 (.tmp 10) 0) 0 131 false [],
 og 137 (.load 3 (.tmp 136)) 3 131 false [],
 og 138 (.binOp .neq 3 (.tmp 135) (.tmp 137) 3) 4 131 false [],
 oq 139 (.pick (.tmp 131) (.const (.bool true)) (.tmp 138)) 4 [],
 mv 140 139 4 [],
 og 141 (.move (.tmp 18)) 23 140 false [],
 og 142 (.move (.tmp 9)) 3 140 false [],
 og 143 (.indexAddr 23 (.tmp 141) (.tmp 142)) 0 140 false [],
 og 144 (.load 3 (.tmp 143)) 3 140 false [],
 og 145 (.fieldAddr 39 (.tmp 10) 1) 0 140 false [],
 og 146 (.load 3 (.tmp 145)) 3 140 false [],
 og 147 (.binOp .neq 3 (.tmp 144) (.tmp 146) 3) 4 140 false [],
 oq 148 (.pick (.tmp 140) (.const (.bool true)) (.tmp 147)) 4 [],
 mv 149 148 4 [],
 og 150 (.load 32 (.tmp 5)) 32 149 false [],
 og 151 (.load 35 (.tmp 12)) 35 149 false [],
 og 152 (.call ⟨.value (.func 29), #[.tmp 150, .tmp 151], #[32, 35]⟩) 43 149 false [],
 og 153 (.binOp .neq 43 (.tmp 152) (.const (.int .i64 0)) 43) 4 149 false [],
 oq 154 (.pick (.tmp 149) (.const (.bool true)) (.tmp 153)) 4 [],
 mv 155 154 4 [],
 og 156 (.load 32 (.tmp 5)) 32 155 false [],
 og 157 (.load 35 (.tmp 14)) 35 155 false [],
 og 158 (.call ⟨.value (.func 29), #[.tmp 156, .tmp 157], #[32, 35]⟩) 43 155 false [],
 og 159 (.binOp .neq 43 (.tmp 158) (.const (.int .i64 0)) 43) 4 155 false [],
 oq 160 (.pick (.tmp 155) (.const (.bool true)) (.tmp 159)) 4 []] [[], [0], [0, 1], [0, 1, 2], [0, 1, 2, 3], [0, 1, 2, 3, 4], [0, 1, 2, 3, 4, 5], [0, 1, 2, 3, 4, 5, 6], [0, 1, 2, 3, 4, 5, 6, 7], [0, 1, 2, 3, 4, 5, 6, 7, 8], [0, 1, 2, 3, 4, 5, 6, 7, 8, 9], [0, 1, 2, 3, 4, 5, 6, 7, 8, 9, 10], [0, 1, 2, 3, 4, 5, 6, 7, 8, 9, 10, 11], [0, 1, 2, 3, 4, 5, 6, 7, 8, 9, 10, 11, 12], [0, 1, 2, 3, 4, 5, 6, 7, 8, 9, 10, 11, 12, 13], [0, 1, 2, 3, 4, 5, 6, 7, 8, 9, 10, 11, 12, 13, 14], [0, 1, 2, 3, 4, 5, 6, 7, 8, 9, 10, 11, 12, 13, 14, 15], [0, 1, 2, 3, 4, 5, 6, 7, 8, 9, 10, 11, 12, 13, 14], [0, 1, 2, 3, 4, 5, 6, 7, 8, 9, 10, 11, 12, 13, 14, 17], [0, 1, 2, 3, 4, 5, 6, 7, 8, 9, 10, 11, 12, 13, 14, 15, 16, 17, 18], [0, 1, 2, 3, 4, 5, 6, 7, 8, 9, 10, 11, 12, 13, 14, 15, 16, 17, 18, 19], [0, 1, 2, 3, 4, 5, 6, 7, 8, 9, 10, 11, 12, 13, 14, 15, 16, 17, 18, 19, 20], [0, 1, 2, 3, 4, 5, 6, 7, 8, 9, 10, 11, 12, 13, 14, 15, 16, 17, 18, 19, 20, 21], [0, 1, 2, 3, 4, 5, 6, 7, 8, 9, 10, 11, 12, 13, 14, 15, 16, 17, 18, 19, 20, 21, 22], [0, 1, 2, 3, 4, 5, 6, 7, 8, 9, 10, 11, 12, 13, 14, 15, 16, 17, 18, 19, 20, 21], [0, 1, 2, 3, 4, 5, 6, 7, 8, 9, 10, 11, 12, 13, 14, 15, 16, 17, 18, 19, 20, 21, 24], [0, 1, 2, 3, 4, 5, 6, 7, 8, 9, 10, 11, 12, 13, 14, 15, 16, 17, 18, 19, 20, 21, 22, 23, 24, 25], [0, 1, 2, 3, 4, 5, 6, 7, 8, 9, 10, 11, 12, 13, 14, 15, 16, 17, 18, 19, 20, 21, 22, 23, 24, 25, 26], [0, 1, 2, 3, 4, 5, 6, 7, 8, 9, 10, 11, 12, 13, 14, 15, 16, 17, 18, 19, 20, 21, 22, 23, 24, 25, 26, 27], [0, 1, 2, 3, 4, 5, 6, 7, 8, 9, 10, 11, 12, 13, 14, 15, 16, 17, 18, 19, 20, 21, 22, 23, 24, 25, 26, 27, 28], [0, 1, 2, 3, 4, 5, 6, 7, 8, 9, 10, 11, 12, 13, 14, 15, 16, 17, 18, 19, 20, 21, 22, 23, 24, 25, 26, 27, 28], [0, 1, 2, 3, 4, 5, 6, 7, 8, 9, 10, 11, 12, 13, 14, 15, 16, 17, 18, 19, 20, 21, 22, 23, 24, 25, 26, 27, 28, 29, 30], [0, 1, 2, 3, 4, 5, 6, 7, 8, 9, 10, 11, 12, 13, 14, 15, 16, 17, 18, 19, 20, 21, 22, 23, 24, 25, 26, 27, 28, 29, 30, 31], [0, 1, 2, 3, 4, 5, 6, 7, 8, 9, 10, 11, 12, 13, 14, 15, 16, 17, 18, 19, 20, 21, 22, 23, 24, 25, 26, 27, 28], [0, 1, 2, 3, 4, 5, 6, 7, 8, 9, 10, 11, 12, 13, 14, 15, 16, 17, 18, 19, 20, 21, 22, 23, 24, 25, 26, 27, 28, 33], [0, 1, 2, 3, 4, 5, 6, 7, 8, 9, 10, 11, 12, 13, 14, 15, 16, 17, 18, 19, 20, 21, 22, 23, 24, 25, 26, 27, 28, 29, 30, 31, 32, 33, 34], [0, 1, 2, 3, 4, 5, 6, 7, 8, 9, 10, 11, 12, 13, 14, 15, 16, 17, 18, 19, 20, 21, 22, 23, 24, 25, 26, 27, 28, 29, 30, 31, 32, 33, 34, 35], [0, 1, 2, 3, 4, 5, 6, 7, 8, 9, 10, 11, 12, 13, 14, 15, 16, 17, 18, 19, 20, 21, 22, 23, 24, 25, 26, 27, 28, 29, 30, 31, 32, 33, 34, 35, 36], [0, 1, 2, 3, 4, 5, 6, 7, 8, 9, 10, 11, 12, 13, 14, 15, 16, 17, 18, 19, 20, 21, 22, 23, 24, 25, 26, 27, 28, 29, 30, 31, 32, 33, 34, 35, 36, 37], [0, 1, 2, 3, 4, 5, 6, 7, 8, 9, 10, 11, 12, 13, 14, 15, 16, 17, 18, 19, 20, 21, 22, 23, 24, 25, 26, 27, 28, 29, 30, 31, 32, 33, 34, 35, 36, 37], [0, 1, 2, 3, 4, 5, 6, 7, 8, 9, 10, 11, 12, 13, 14, 15, 16, 17, 18, 19, 20, 21, 22, 23, 24, 25, 26, 27, 28, 29, 30, 31, 32, 33, 34, 35, 36, 37, 38, 39], [0, 1, 2, 3, 4, 5, 6, 7, 8, 9, 10, 11, 12, 13, 14, 15, 16, 17, 18, 19, 20, 21, 22, 23, 24, 25, 26, 27, 28, 29, 30, 31, 32, 33, 34, 35, 36, 37, 38, 39, 40], [0, 1, 2, 3, 4, 5, 6, 7, 8, 9, 10, 11, 12, 13, 14, 15, 16, 17, 18, 19, 20, 21, 22, 23, 24, 25, 26, 27, 28, 29, 30, 31, 32, 33, 34, 35, 36, 37], [0, 1, 2, 3, 4, 5, 6, 7, 8, 9, 10, 11, 12, 13, 14, 15, 16, 17, 18, 19, 20, 21, 22, 23, 24, 25, 26, 27, 28, 29, 30, 31, 32, 33, 34, 35, 36, 37, 42], [0, 1, 2, 3, 4, 5, 6, 7, 8, 9, 10, 11, 12, 13, 14, 15, 16, 17, 18, 19, 20, 21, 22, 23, 24, 25, 26, 27, 28, 29, 30, 31, 32, 33, 34, 35, 36, 37, 38, 39, 40, 41, 42, 43], [0, 1, 2, 3, 4, 5, 6, 7, 8, 9, 10, 11, 12, 13, 14, 15, 16, 17, 18, 19, 20, 21, 22, 23, 24, 25, 26, 27, 28, 29, 30, 31, 32, 33, 34, 35, 36, 37, 38, 39, 40, 41, 42, 43, 44], [0, 1, 2, 3, 4, 5, 6, 7, 8, 9, 10, 11, 12, 13, 14, 15, 16, 17, 18, 19, 20, 21, 22, 23, 24, 25, 26, 27, 28, 29, 30, 31, 32, 33, 34, 35, 36, 37, 38, 39, 40, 41, 42, 43, 44, 45], [0, 1, 2, 3, 4, 5, 6, 7, 8, 9, 10, 11, 12, 13, 14, 15, 16, 17, 18, 19, 20, 21, 22, 23, 24, 25, 26, 27, 28, 29, 30, 31, 32, 33, 34, 35, 36, 37, 38, 39, 40, 41, 42, 43, 44, 45, 46], [0, 1, 2, 3, 4, 5, 6, 7, 8, 9, 10, 11, 12, 13, 14, 15, 16, 17, 18, 19, 20, 21, 22, 23, 24, 25, 26, 27, 28, 29, 30, 31, 32, 33, 34, 35, 36, 37, 38, 39, 40, 41, 42, 43, 44, 45, 46], [0, 1, 2, 3, 4, 5, 6, 7, 8, 9, 10, 11, 12, 13, 14, 15, 16, 17, 18, 19, 20, 21, 22, 23, 24, 25, 26, 27, 28, 29, 30, 31, 32, 33, 34, 35, 36, 37, 38, 39, 40, 41, 42, 43, 44, 45, 46, 47, 48], [0, 1, 2, 3, 4, 5, 6, 7, 8, 9, 10, 11, 12, 13, 14, 15, 16, 17, 18, 19, 20, 21, 22, 23, 24, 25, 26, 27, 28, 29, 30, 31, 32, 33, 34, 35, 36, 37, 38, 39, 40, 41, 42, 43, 44, 45, 46, 47, 48, 49], [0, 1, 2, 3, 4, 5, 6, 7, 8, 9, 10, 11, 12, 13, 14, 15, 16, 17, 18, 19, 20, 21, 22, 23, 24, 25, 26, 27, 28, 29, 30, 31, 32, 33, 34, 35, 36, 37, 38, 39, 40, 41, 42, 43, 44, 45, 46, 47, 48, 49, 50], [0, 1, 2, 3, 4, 5, 6, 7, 8, 9, 10, 11, 12, 13, 14, 15, 16, 17, 18, 19, 20, 21, 22, 23, 24, 25, 26, 27, 28, 29, 30, 31, 32, 33, 34, 35, 36, 37, 38, 39, 40, 41, 42, 43, 44, 45, 46, 47, 48, 49, 50, 51], [0, 1, 2, 3, 4, 5, 6, 7, 8, 9, 10, 11, 12, 13, 14, 15, 16, 17, 18, 19, 20, 21, 22, 23, 24, 25, 26, 27, 28, 29, 30, 31, 32, 33, 34, 35, 36, 37, 38, 39, 40, 41, 42, 43, 44, 45, 46, 47, 48, 49, 50, 51, 52], [0, 1, 2, 3, 4, 5, 6, 7, 8, 9, 10, 11, 12, 13, 14, 15, 16, 17, 18, 19, 20, 21, 22, 23, 24, 25, 26, 27, 28, 29, 30, 31, 32, 33, 34, 35, 36, 37, 38, 39, 40, 41, 42, 43, 44, 45, 46, 47, 48, 49, 50, 51, 52], [0, 1, 2, 3, 4, 5, 6, 7, 8, 9, 10, 11, 12, 13, 14, 15, 16, 17, 18, 19, 20, 21, 22, 23, 24, 25, 26, 27, 28, 29, 30, 31, 32, 33, 34, 35, 36, 37, 38, 39, 40, 41, 42, 43, 44, 45, 46, 47, 48, 49, 50, 51, 52, 53, 54], [0, 1, 2, 3, 4, 5, 6, 7, 8, 9, 10, 11, 12, 13, 14, 15, 16, 17, 18, 19, 20, 21, 22, 23, 24, 25, 26, 27, 28, 29, 30, 31, 32, 33, 34, 35, 36, 37, 38, 39, 40, 41, 42, 43, 44, 45, 46, 47, 48, 49, 50, 51, 52, 53, 54, 55], [0, 1, 2, 3, 4, 5, 6, 7, 8, 9, 10, 11, 12, 13, 14, 15, 16, 17, 18, 19, 20, 21, 22, 23, 24, 25, 26, 27, 28, 29, 30, 31, 32, 33, 34, 35, 36, 37, 38, 39, 40, 41, 42, 43, 44, 45, 46, 47, 48, 49, 50, 51, 52, 53, 54, 55, 56]] [12, 13, 14, 15, 16, 17, 18, 19, 103, 104, 105, 106, 107, 108, 109, 110, 111, 112, 113, 114, 115, 116, 117, 118, 119, 120, 121, 122, 123, 124, 125, 126, 127, 128, 129, 130, 131, 132, 133, 134, 135, 136, 137, 138, 139, 140, 141, 142, 143, 144, 145, 146, 147, 148, 149, 150, 151, 152, 153, 154, 155, 156, 157, 158, 159])
 (.cond (.tmp 160)
 (.seq
 (.reg [sb 4 false 4 []])
 .ret)
 .skip))
 (.seq
 (.dreg [fa 161 39 10 0 [],
 ld 162 3 161 [],
 mv 163 1 3 [],
 fa 164 39 10 1 [],
 ld 165 3 164 [],
 fa 166 39 10 0 [],
 ld 167 3 166 [],
 b2 168 .sub 3 165 167 3 3 [],
 bn 169 .add 3 168 1 3 3 [],
 cf2 170 11 163 169 3 3 3 [],
 b2 171 .add 3 162 170 3 3 [],
 sg 20 171 3 []] [[], [0], [], [], [3], [], [5], [3, 4, 5, 6], [3, 4, 5, 6, 7], [2, 3, 4, 5, 6, 7, 8], [0, 1, 2, 3, 4, 5, 6, 7, 8, 9], [0, 1, 2, 3, 4, 5, 6, 7, 8, 9, 10]] [10, 161, 162, 163, 164, 165, 166, 167, 168, 169, 170, 171])
 (.seq
 (.reg [ld 173 32 5 [],
 mv 174 9 3 [],
 mv 175 20 3 [],
 mv 176 20 3 [],
 oq 177 (.build 39 #[(0, .tmp 175), (1, .tmp 176)]) 39 [175, 176],
 oq 178 (.build 79 #[(0, .tmp 174), (1, .tmp 177)]) 79 [174, 177],
 oq 179 (.buildSlice 80 1 #[(0, .tmp 178)]) 80 [178],
 cf2 180 31 173 179 32 80 75 [173, 179],
 mv 172 180 75 [180],
 xt 181 172 0 35 [],
 xt 182 172 1 43 [172],
 oq 21 (.alloc 35) 0 [],
 ⟨none, .store 35 (.tmp 21) (.tmp 181), 0, none, [181]⟩,
 sg 22 182 43 [182]])
 (.seq
 (.reg [fa 184 32 5 0 [],
 ld 185 29 184 [184],
 ld 186 35 21 [],
 cf2 187 25 185 186 29 35 53 [185, 186],
 mv 183 187 53 [187],
 xt 188 183 0 23 [],
 xt 189 183 1 43 [183],
 sg 23 188 23 [188],
 sg 24 189 43 [189]])
 (.seq
 (.reg [mv 190 22 43 [22],
 bn 191 .neq 43 190 0 43 4 [190],
 mv 192 191 4 [191],
 og 193 (.move (.tmp 24)) 43 192 false [24],
 og 194 (.binOp .neq 43 (.tmp 193) (.const (.int .i64 0)) 43) 4 192 false [193],
 oq 195 (.pick (.tmp 192) (.const (.bool true)) (.tmp 194)) 4 [192, 194],
 mv 196 195 4 [195],
 og 197 (.move (.tmp 23)) 23 196 false [],
 og 198 (.call ⟨.builtin .len, #[.tmp 197], #[23]⟩) 3 196 false [197],
 og 199 (.move (.tmp 7)) 23 196 false [],
 og 200 (.call ⟨.builtin .len, #[.tmp 199], #[23]⟩) 3 196 false [199],
 og 201 (.binOp .neq 3 (.tmp 198) (.tmp 200) 3) 4 196 false [198, 200],
 oq 202 (.pick (.tmp 196) (.const (.bool true)) (.tmp 201)) 4 [196, 201],
 mv 203 202 4 [202],
 og 204 (.move (.tmp 23)) 23 203 false [23],
 og 205 (.move (.tmp 9)) 3 203 false [],
 og 206 (.indexAddr 23 (.tmp 204) (.tmp 205)) 0 203 false [204, 205],
 og 207 (.load 3 (.tmp 206)) 3 203 false [206],
 og 208 (.move (.tmp 20)) 3 203 false [20],
 og 209 (.binOp .neq 3 (.tmp 207) (.tmp 208) 3) 4 203 false [207, 208],
 oq 210 (.pick (.tmp 203) (.const (.bool true)) (.tmp 209)) 4 [203, 209],
 mv 211 210 4 [210],
 og 212 (.load 32 (.tmp 5)) 32 211 false [],
 og 213 (.load 35 (.tmp 21)) 35 211 false [21],
 og 214 (.call ⟨.value (.func 29), #[.tmp 212, .tmp 213], #[32, 35]⟩) 43 211 false [212, 213],
 og 215 (.binOp .neq 43 (.tmp 214) (.const (.int .i64 0)) 43) 4 211 false [214],
 oq 216 (.pick (.tmp 211) (.const (.bool true)) (.tmp 215)) 4 [211, 215]])
 (.cond (.tmp 216)
 (.seq
 (.reg [sb 4 false 4 []])
 .ret)
 .skip)))))))))))))
 (.reg [mv 49 9 3 [9],
 bn 50 .add 3 49 1 3 3 [49],
 sg 9 50 3 [50]])))
def F7.c : SC :=
 (.seq
 (.reg [oq 2 (.box 26 (.tmp 0)) 0 [0],
 sb 4 false 4 [4]])
 (.seq
 (.reg [ld 26 26 2 [2],
 cf1 27 10 26 26 36 [26],
 mv 25 27 36 [27],
 xt 28 25 0 32 [],
 xt 29 25 1 35 [25],
 oq 5 (.alloc 32) 0 [],
 oq 6 (.alloc 35) 0 [],
 ⟨none, .store 32 (.tmp 5) (.tmp 28), 0, none, [28]⟩,
 ⟨none, .store 35 (.tmp 6) (.tmp 29), 0, none, [29]⟩])
 (.seq
 (.reg [fa 31 32 5 0 [],
 ld 32 29 31 [31],
 ld 33 35 6 [],
 cf2 34 25 32 33 29 35 53 [32, 33],
 mv 30 34 53 [34],
 xt 35 30 0 23 [],
 xt 36 30 1 43 [30],
 sg 7 35 23 [35],
 sg 8 36 43 [36]])
 (.seq
 (.seq
 (.reg [mv 37 8 43 [8],
 bn 38 .neq 43 37 0 43 4 [37],
 mv 39 38 4 [38],
 og 40 (.load 32 (.tmp 5)) 32 39 false [],
 og 41 (.load 35 (.tmp 6)) 35 39 false [6],
 og 42 (.call ⟨.value (.func 29), #[.tmp 40, .tmp 41], #[32, 35]⟩) 43 39 false [40, 41],
 og 43 (.binOp .neq 43 (.tmp 42) (.const (.int .i64 0)) 43) 4 39 false [42],
 oq 44 (.pick (.tmp 39) (.const (.bool true)) (.tmp 43)) 4 [39, 43]])
 (.cond (.tmp 44)
 (.seq
 (.reg [sb 4 false 4 []])
 .ret)
 .skip))
 (.seq
 (.seq
 (.reg [sn 9 0 3 []])
 (.block 0
 (.loop F7.s0)))
 (.seq
 (.reg [oq 217 (.call ⟨.value (.func 14), #[], #[]⟩) 4 [],
 sg 4 217 4 [217]])
 .ret))))))
theorem F7.rs : Try.f7.results.toList = [.tmp 4] := rfl
def L04_HeatTrue.b0 (k : Nat) (n1 : Int) (x1 : Firing × Field) (x2 : (List Int) × Int) : Int → Option (Stp (Int) (Unit) (Bool)) := fun (i6 : Int) =>
 bif decide (i6 < (x2.1.length : Int)) then
  (heat_Bound k x1.1 i6).bind fun x8 =>
  bif decide (x8.2 = (0 : Int)) then
   (at? x2.1 i6).bind fun x10 =>
   bif (!decide (x10 < x8.1.Lo)) then
    bif decide (x8.1.Hi < x10) then
     some (.ret false)
    else
     (heat_Attain k x1.1 i6 false).bind fun x13 =>
     (heat_Attain k x1.1 i6 true).bind fun x14 =>
     (heat_Heats k x1.1.Kiln x13.1).bind fun x15 =>
     (heat_Heats k x1.1.Kiln x14.1).bind fun x16 =>
     bif decide (x13.2 = (0 : Int)) then
      bif decide (x14.2 = (0 : Int)) then
       bif decide (x15.2 = (0 : Int)) then
        bif decide (x16.2 = (0 : Int)) then
         bif decide ((x15.1.length : Int) = (x2.1.length : Int)) then
          bif decide ((x16.1.length : Int) = (x2.1.length : Int)) then
           (at? x15.1 i6).bind fun x23 =>
           bif decide (x23 = x8.1.Lo) then
            (at? x16.1 i6).bind fun x25 =>
            bif decide (x25 = x8.1.Hi) then
             (heat_CheckField k x1.1 x13.1).bind fun x27 =>
             bif decide (x27 = (0 : Int)) then
              (heat_CheckField k x1.1 x14.1).bind fun x29 =>
              bif (!decide (x29 = (0 : Int))) then
               some (.ret false)
              else
               (R01_Mod k n1 (w64 ((w64 (x8.1.Hi - x8.1.Lo)) + 1))).bind fun x31 =>
               (heat_Show k x1.1 [(⟨i6, (⟨w64 (x8.1.Lo + x31), w64 (x8.1.Lo + x31)⟩ : Range)⟩ : Want)]).bind fun x32 =>
               (heat_Heats k x1.1.Kiln x32.1).bind fun x33 =>
               bif decide (x32.2 = (0 : Int)) then
                bif decide (x33.2 = (0 : Int)) then
                 bif decide ((x33.1.length : Int) = (x2.1.length : Int)) then
                  (at? x33.1 i6).bind fun x37 =>
                  bif decide (x37 = w64 (x8.1.Lo + x31)) then
                   (heat_CheckField k x1.1 x32.1).bind fun x39 =>
                   bif (!decide (x39 = (0 : Int))) then
                    some (.ret false)
                   else
                    some (.next (w64 (i6 + 1)))
                  else
                   some (.ret false)
                 else
                  some (.ret false)
                else
                 some (.ret false)
               else
                some (.ret false)
             else
              some (.ret false)
            else
             some (.ret false)
           else
            some (.ret false)
          else
           some (.ret false)
         else
          some (.ret false)
        else
         some (.ret false)
       else
        some (.ret false)
      else
       some (.ret false)
     else
      some (.ret false)
   else
    some (.ret false)
  else
   some (.ret false)
 else
  some (.brk ())
noncomputable def L04_HeatTrue.h0 (n1 : Int) (x1 : Firing × Field) (x2 : (List Int) × Int) : Int → St := fun (i6 : Int) => ⟨[(1, .int .i64 n1), (5, .ptr 0 0 0), (7, .sl 1 (List.map eI x2.1)), (9, .int .i64 i6)], [(0, .box [.sl 1 (List.map (eL 2 Range.c) x1.1.Kiln.Falls), .sl 6 (List.map Reading.c x1.1.Readings)])], [], 1, Try.f7.ntmps⟩
noncomputable def L04_HeatTrue.x0 : Unit → St := fun (_ : Unit) => ⟨[], [], [], 1, Try.f7.ntmps⟩
def L04_HeatTrue (k : Nat) (r0 : R04_Raw) (n1 : Int) : Option (Bool) :=
 (R04_Made k r0).bind fun x1 =>
 (heat_Heats k x1.1.Kiln x1.2).bind fun x2 =>
 bif decide (x2.2 = (0 : Int)) then
  (heat_CheckField k x1.1 x1.2).bind fun x4 =>
  bif (!decide (x4 = (0 : Int))) then
   some false
  else
   (whl (L04_HeatTrue.b0 k n1 x1 x2) k 0).bind fun r41 => match r41 with
   | .next _ => none
   | .ret v_ => some v_
   | .brk _ =>
    (L04_sane k).bind fun x42 =>
    some x42
 else
  some false
theorem L04_HeatTrue_ok (k : Nat) (r0 : R04_Raw) (n1 : Int) (r : Bool) (h0 : L04_HeatTrue k r0 n1 = some r) : PCall Try.prog 7 [.agg (R04_Raw.c r0), .int .i64 n1] (fun y => y = .bool r) := by
 refine PB (fn := Try.f7) (sc := F7.c) ?_
 refine rS ?_
 simp only [L04_HeatTrue] at h0
 try simp only [F7.c, go_sem]
 obtain ⟨x1, yx1, h0⟩ := bs h0
 refine zc0 (R04_Made_ok k _ _ yx1) ?_ (by first | rfl | simp [AV.refsL, AV.refs, AV.scal, AV.leaf]) ?_
 try simp only [go_sem]
 try simp only [go_sem]
 obtain ⟨x2, yx2, h0⟩ := bs h0
 refine zc0 (heat_Heats_ok k _ _ _ yx2) ?_ (by first | rfl | simp [AV.refsL, AV.refs, AV.scal, AV.leaf]) ?_
 try simp only [go_sem]
 try simp only [go_sem]
 refine AKev_bif h0 ?_ ?_ <;> intro c3 h0
 try simp only [c3, go_sem]
 obtain ⟨x4, yx4, h0⟩ := bs h0
 refine zc0 (heat_CheckField_ok k _ _ _ yx4) ?_ (by first | rfl | simp [AV.refsL, AV.refs, AV.scal, AV.leaf]) ?_
 try simp only [c3, go_sem]
 try simp only [c3, go_sem]
 refine AKev_bif h0 ?_ ?_ <;> intro c5 h0
 have c5 := bnot_t c5
 try simp only [c5, c3, go_sem]
 obtain rfl := Option.some.inj h0
 refine AKev_ret rfl ?_
 try simp only [F7.rs, c3, c5, go_sem]
 have c5 := bnot_f c5
 try simp only [c5, c3, go_sem]
 obtain ⟨r41, yr41, h0⟩ := bs h0
 refine AKev_loopS yr41 (L04_HeatTrue.h0 n1 x1 x2) (L04_HeatTrue.x0) ?_ ?_ ?_
 refine Weak.go [1, 5, 7, 9] [112] rfl ?_
 try simp only [L04_HeatTrue.h0, c3, c5, go_sem]
 rintro i6 x_1 Bk1 Br1 h1 hnext1 hbrk1 hret1
 refine rS ?_
 simp only [L04_HeatTrue.b0] at h1
 try simp only [F7.s0, L04_HeatTrue.h0, c3, c5, go_sem]
 refine AKev_bif h1 ?_ ?_ <;> intro c7 h1
 try simp only [c7, c3, c5, go_sem]
 obtain ⟨x8, yx8, h1⟩ := bs h1
 refine zc0 (heat_Bound_ok k _ _ _ yx8) ?_ (by first | rfl | simp [AV.refsL, AV.refs, AV.scal, AV.leaf]) ?_
 try simp only [c3, c5, c7, go_sem]
 try simp only [c3, c5, c7, go_sem]
 refine AKev_region T_ok follows_ok 1000 ?_
 try simp only [c3, c5, c7, go_sem]
 refine DG_bif h1 ?_ ?_ <;> intro c9 h1
 try simp only [c9, c3, c5, c7, go_sem]
 obtain ⟨x10, yx10, h1⟩ := bs h1
 try simp only [aa yx10, c3, c5, c7, c9, go_sem]
 refine DG_bif h1 ?_ ?_ <;> intro c11 h1
 have c11 := bnot_t c11
 try simp only [c11, aa yx10, c3, c5, c7, c9, go_sem]
 refine DG_done ⟨calm_of (by simp only [skel, List.reverse_cons, List.reverse_nil, List.nil_append, List.cons_append, List.map_cons, List.map_nil, List.append_nil]; rfl) (by first | decide +kernel | rfl), run_sound T_ok 1000 _ _ ?_⟩
 try simp only [c3, c5, c7, c9, aa yx10, c11, go_sem]
 refine AKev_bif h1 ?_ ?_ <;> intro c12 h1
 try simp only [c12, c3, c5, c7, c9, aa yx10, c11, go_sem]
 obtain rfl := hret1 _ (Option.some.inj h1).symm
 simp only at h0
 obtain rfl := Option.some.inj h0
 refine AKev_ret rfl ?_
 try simp only [F7.rs, c3, c5, c7, c9, aa yx10, c11, c12, go_sem]
 try simp only [c12, c3, c5, c7, c9, aa yx10, c11, go_sem]
 obtain ⟨x13, yx13, h1⟩ := bs h1
 refine zc0 (heat_Attain_ok k _ _ _ _ yx13) ?_ (by first | rfl | simp [AV.refsL, AV.refs, AV.scal, AV.leaf]) ?_
 try simp only [c3, c5, c7, c9, aa yx10, c11, c12, go_sem]
 try simp only [c3, c5, c7, c9, aa yx10, c11, c12, go_sem]
 obtain ⟨x14, yx14, h1⟩ := bs h1
 refine zc0 (heat_Attain_ok k _ _ _ _ yx14) ?_ (by first | rfl | simp [AV.refsL, AV.refs, AV.scal, AV.leaf]) ?_
 try simp only [c3, c5, c7, c9, aa yx10, c11, c12, go_sem]
 try simp only [c3, c5, c7, c9, aa yx10, c11, c12, go_sem]
 obtain ⟨x15, yx15, h1⟩ := bs h1
 refine zc0 (heat_Heats_ok k _ _ _ yx15) ?_ (by first | rfl | simp [AV.refsL, AV.refs, AV.scal, AV.leaf]) ?_
 try simp only [c3, c5, c7, c9, aa yx10, c11, c12, go_sem]
 try simp only [c3, c5, c7, c9, aa yx10, c11, c12, go_sem]
 obtain ⟨x16, yx16, h1⟩ := bs h1
 refine zc0 (heat_Heats_ok k _ _ _ yx16) ?_ (by first | rfl | simp [AV.refsL, AV.refs, AV.scal, AV.leaf]) ?_
 try simp only [c3, c5, c7, c9, aa yx10, c11, c12, go_sem]
 try simp only [c3, c5, c7, c9, aa yx10, c11, c12, go_sem]
 refine AKev_region T_ok follows_ok 1000 ?_
 try simp only [c3, c5, c7, c9, aa yx10, c11, c12, go_sem]
 refine DG_bif h1 ?_ ?_ <;> intro c17 h1
 try simp only [c17, c3, c5, c7, c9, aa yx10, c11, c12, go_sem]
 refine DG_bif h1 ?_ ?_ <;> intro c18 h1
 try simp only [c18, c3, c5, c7, c9, aa yx10, c11, c12, c17, go_sem]
 refine DG_bif h1 ?_ ?_ <;> intro c19 h1
 try simp only [c19, c3, c5, c7, c9, aa yx10, c11, c12, c17, c18, go_sem]
 refine DG_bif h1 ?_ ?_ <;> intro c20 h1
 try simp only [c20, c3, c5, c7, c9, aa yx10, c11, c12, c17, c18, c19, go_sem]
 refine DG_bif h1 ?_ ?_ <;> intro c21 h1
 try simp only [c21, c3, c5, c7, c9, aa yx10, c11, c12, c17, c18, c19, c20, go_sem]
 refine DG_bif h1 ?_ ?_ <;> intro c22 h1
 try simp only [c22, c3, c5, c7, c9, aa yx10, c11, c12, c17, c18, c19, c20, c21, go_sem]
 obtain ⟨x23, yx23, h1⟩ := bs h1
 try simp only [aa yx23, c3, c5, c7, c9, aa yx10, c11, c12, c17, c18, c19, c20, c21, c22, go_sem]
 refine DG_bif h1 ?_ ?_ <;> intro c24 h1
 try simp only [c24, c3, c5, c7, c9, aa yx10, c11, c12, c17, c18, c19, c20, c21, c22, aa yx23, go_sem]
 obtain ⟨x25, yx25, h1⟩ := bs h1
 try simp only [aa yx25, c3, c5, c7, c9, aa yx10, c11, c12, c17, c18, c19, c20, c21, c22, aa yx23, c24, go_sem]
 refine DG_bif h1 ?_ ?_ <;> intro c26 h1
 try simp only [c26, c3, c5, c7, c9, aa yx10, c11, c12, c17, c18, c19, c20, c21, c22, aa yx23, c24, aa yx25, go_sem]
 obtain ⟨x27, yx27, h1⟩ := bs h1
 refine DG_call0 1000 (heat_CheckField_ok k _ _ _ yx27) ?_ (by first | rfl | simp [AV.refsL, AV.refs, AV.scal, AV.leaf]) ?_
 try simp only [c3, c5, c7, c9, aa yx10, c11, c12, c17, c18, c19, c20, c21, c22, aa yx23, c24, aa yx25, c26, go_sem]
 try simp only [c3, c5, c7, c9, aa yx10, c11, c12, c17, c18, c19, c20, c21, c22, aa yx23, c24, aa yx25, c26, go_sem]
 refine DG_bif h1 ?_ ?_ <;> intro c28 h1
 try simp only [c28, c3, c5, c7, c9, aa yx10, c11, c12, c17, c18, c19, c20, c21, c22, aa yx23, c24, aa yx25, c26, go_sem]
 obtain ⟨x29, yx29, h1⟩ := bs h1
 refine DG_call0 1000 (heat_CheckField_ok k _ _ _ yx29) ?_ (by first | rfl | simp [AV.refsL, AV.refs, AV.scal, AV.leaf]) ?_
 try simp only [c3, c5, c7, c9, aa yx10, c11, c12, c17, c18, c19, c20, c21, c22, aa yx23, c24, aa yx25, c26, c28, go_sem]
 try simp only [c3, c5, c7, c9, aa yx10, c11, c12, c17, c18, c19, c20, c21, c22, aa yx23, c24, aa yx25, c26, c28, go_sem]
 refine DG_done ⟨calm_of (by simp only [skel, List.reverse_cons, List.reverse_nil, List.nil_append, List.cons_append, List.map_cons, List.map_nil, List.append_nil]; rfl) (by first | decide +kernel | rfl), run_sound T_ok 1000 _ _ ?_⟩
 try simp only [c3, c5, c7, c9, aa yx10, c11, c12, c17, c18, c19, c20, c21, c22, aa yx23, c24, aa yx25, c26, c28, go_sem]
 refine AKev_bif h1 ?_ ?_ <;> intro c30 h1
 have c30 := bnot_t c30
 try simp only [c30, c3, c5, c7, c9, aa yx10, c11, c12, c17, c18, c19, c20, c21, c22, aa yx23, c24, aa yx25, c26, c28, go_sem]
 obtain rfl := hret1 _ (Option.some.inj h1).symm
 simp only at h0
 obtain rfl := Option.some.inj h0
 refine AKev_ret rfl ?_
 try simp only [F7.rs, c3, c5, c7, c9, aa yx10, c11, c12, c17, c18, c19, c20, c21, c22, aa yx23, c24, aa yx25, c26, c28, c30, go_sem]
 have c30 := bnot_f c30
 try simp only [c30, c3, c5, c7, c9, aa yx10, c11, c12, c17, c18, c19, c20, c21, c22, aa yx23, c24, aa yx25, c26, c28, go_sem]
 refine AKev_region T_ok follows_ok 1000 ?_
 try simp only [c3, c5, c7, c9, aa yx10, c11, c12, c17, c18, c19, c20, c21, c22, aa yx23, c24, aa yx25, c26, c28, c30, go_sem]
 obtain ⟨x31, yx31, h1⟩ := bs h1
 refine DG_call0 1000 (R01_Mod_ok k _ _ _ yx31) ?_ (by first | rfl | simp [AV.refsL, AV.refs, AV.scal, AV.leaf]) ?_
 try simp only [c3, c5, c7, c9, aa yx10, c11, c12, c17, c18, c19, c20, c21, c22, aa yx23, c24, aa yx25, c26, c28, c30, go_sem]
 try simp only [c3, c5, c7, c9, aa yx10, c11, c12, c17, c18, c19, c20, c21, c22, aa yx23, c24, aa yx25, c26, c28, c30, go_sem]
 refine DG_done ⟨calm_of (by simp only [skel, List.reverse_cons, List.reverse_nil, List.nil_append, List.cons_append, List.map_cons, List.map_nil, List.append_nil]; rfl) (by first | decide +kernel | rfl), run_sound T_ok 1000 _ _ ?_⟩
 try simp only [c3, c5, c7, c9, aa yx10, c11, c12, c17, c18, c19, c20, c21, c22, aa yx23, c24, aa yx25, c26, c28, c30, go_sem]
 obtain ⟨x32, yx32, h1⟩ := bs h1
 refine zcT [2321] (heat_Show_ok k _ _ _ yx32) ?_ ?_
 try simp only [c3, c5, c7, c9, aa yx10, c11, c12, c17, c18, c19, c20, c21, c22, aa yx23, c24, aa yx25, c26, c28, c30, go_sem]
 try simp only [c3, c5, c7, c9, aa yx10, c11, c12, c17, c18, c19, c20, c21, c22, aa yx23, c24, aa yx25, c26, c28, c30, go_sem]
 obtain ⟨x33, yx33, h1⟩ := bs h1
 refine zc0 (heat_Heats_ok k _ _ _ yx33) ?_ (by first | rfl | simp [AV.refsL, AV.refs, AV.scal, AV.leaf]) ?_
 try simp only [c3, c5, c7, c9, aa yx10, c11, c12, c17, c18, c19, c20, c21, c22, aa yx23, c24, aa yx25, c26, c28, c30, go_sem]
 try simp only [c3, c5, c7, c9, aa yx10, c11, c12, c17, c18, c19, c20, c21, c22, aa yx23, c24, aa yx25, c26, c28, c30, go_sem]
 refine AKev_bif h1 ?_ ?_ <;> intro c34 h1
 try simp only [c34, c3, c5, c7, c9, aa yx10, c11, c12, c17, c18, c19, c20, c21, c22, aa yx23, c24, aa yx25, c26, c28, c30, go_sem]
 refine AKev_bif h1 ?_ ?_ <;> intro c35 h1
 try simp only [c35, c3, c5, c7, c9, aa yx10, c11, c12, c17, c18, c19, c20, c21, c22, aa yx23, c24, aa yx25, c26, c28, c30, c34, go_sem]
 refine AKev_bif h1 ?_ ?_ <;> intro c36 h1
 try simp only [c36, c3, c5, c7, c9, aa yx10, c11, c12, c17, c18, c19, c20, c21, c22, aa yx23, c24, aa yx25, c26, c28, c30, c34, c35, go_sem]
 obtain ⟨x37, yx37, h1⟩ := bs h1
 try simp only [aa yx37, c3, c5, c7, c9, aa yx10, c11, c12, c17, c18, c19, c20, c21, c22, aa yx23, c24, aa yx25, c26, c28, c30, c34, c35, c36, go_sem]
 refine AKev_bif h1 ?_ ?_ <;> intro c38 h1
 try simp only [c38, c3, c5, c7, c9, aa yx10, c11, c12, c17, c18, c19, c20, c21, c22, aa yx23, c24, aa yx25, c26, c28, c30, c34, c35, c36, aa yx37, go_sem]
 obtain ⟨x39, yx39, h1⟩ := bs h1
 refine zc0 (heat_CheckField_ok k _ _ _ yx39) ?_ (by first | rfl | simp [AV.refsL, AV.refs, AV.scal, AV.leaf]) ?_
 try simp only [c3, c5, c7, c9, aa yx10, c11, c12, c17, c18, c19, c20, c21, c22, aa yx23, c24, aa yx25, c26, c28, c30, c34, c35, c36, aa yx37, c38, go_sem]
 try simp only [c3, c5, c7, c9, aa yx10, c11, c12, c17, c18, c19, c20, c21, c22, aa yx23, c24, aa yx25, c26, c28, c30, c34, c35, c36, aa yx37, c38, go_sem]
 refine AKev_bif h1 ?_ ?_ <;> intro c40 h1
 have c40 := bnot_t c40
 try simp only [c40, c3, c5, c7, c9, aa yx10, c11, c12, c17, c18, c19, c20, c21, c22, aa yx23, c24, aa yx25, c26, c28, c30, c34, c35, c36, aa yx37, c38, go_sem]
 obtain rfl := hret1 _ (Option.some.inj h1).symm
 simp only at h0
 obtain rfl := Option.some.inj h0
 refine AKev_ret rfl ?_
 try simp only [F7.rs, c3, c5, c7, c9, aa yx10, c11, c12, c17, c18, c19, c20, c21, c22, aa yx23, c24, aa yx25, c26, c28, c30, c34, c35, c36, aa yx37, c38, c40, go_sem]
 have c40 := bnot_f c40
 try simp only [c40, c3, c5, c7, c9, aa yx10, c11, c12, c17, c18, c19, c20, c21, c22, aa yx23, c24, aa yx25, c26, c28, c30, c34, c35, c36, aa yx37, c38, go_sem]
 refine AKev_backB (hnext1 _ _ (Option.some.inj h1).symm ?_)
 refine Weak.go [1, 5, 7, 9] [0] rfl ?_
 try simp only [L04_HeatTrue.h0, c3, c5, c7, c9, aa yx10, c11, c12, c17, c18, c19, c20, c21, c22, aa yx23, c24, aa yx25, c26, c28, c30, c34, c35, c36, aa yx37, c38, c40, go_sem]
 try simp only [c38, c3, c5, c7, c9, aa yx10, c11, c12, c17, c18, c19, c20, c21, c22, aa yx23, c24, aa yx25, c26, c28, c30, c34, c35, c36, aa yx37, go_sem]
 obtain rfl := hret1 _ (Option.some.inj h1).symm
 simp only at h0
 obtain rfl := Option.some.inj h0
 refine AKev_ret rfl ?_
 try simp only [F7.rs, c3, c5, c7, c9, aa yx10, c11, c12, c17, c18, c19, c20, c21, c22, aa yx23, c24, aa yx25, c26, c28, c30, c34, c35, c36, aa yx37, c38, go_sem]
 try simp only [c36, c3, c5, c7, c9, aa yx10, c11, c12, c17, c18, c19, c20, c21, c22, aa yx23, c24, aa yx25, c26, c28, c30, c34, c35, go_sem]
 obtain rfl := hret1 _ (Option.some.inj h1).symm
 simp only at h0
 obtain rfl := Option.some.inj h0
 refine AKev_ret rfl ?_
 try simp only [F7.rs, c3, c5, c7, c9, aa yx10, c11, c12, c17, c18, c19, c20, c21, c22, aa yx23, c24, aa yx25, c26, c28, c30, c34, c35, c36, go_sem]
 try simp only [c35, c3, c5, c7, c9, aa yx10, c11, c12, c17, c18, c19, c20, c21, c22, aa yx23, c24, aa yx25, c26, c28, c30, c34, go_sem]
 obtain rfl := hret1 _ (Option.some.inj h1).symm
 simp only at h0
 obtain rfl := Option.some.inj h0
 refine AKev_ret rfl ?_
 try simp only [F7.rs, c3, c5, c7, c9, aa yx10, c11, c12, c17, c18, c19, c20, c21, c22, aa yx23, c24, aa yx25, c26, c28, c30, c34, c35, go_sem]
 try simp only [c34, c3, c5, c7, c9, aa yx10, c11, c12, c17, c18, c19, c20, c21, c22, aa yx23, c24, aa yx25, c26, c28, c30, go_sem]
 obtain rfl := hret1 _ (Option.some.inj h1).symm
 simp only at h0
 obtain rfl := Option.some.inj h0
 refine AKev_ret rfl ?_
 try simp only [F7.rs, c3, c5, c7, c9, aa yx10, c11, c12, c17, c18, c19, c20, c21, c22, aa yx23, c24, aa yx25, c26, c28, c30, c34, go_sem]
 try simp only [c28, c3, c5, c7, c9, aa yx10, c11, c12, c17, c18, c19, c20, c21, c22, aa yx23, c24, aa yx25, c26, go_sem]
 refine DG_done ⟨calm_of (by simp only [skel, List.reverse_cons, List.reverse_nil, List.nil_append, List.cons_append, List.map_cons, List.map_nil, List.append_nil]; rfl) (by first | decide +kernel | rfl), run_sound T_ok 1000 _ _ ?_⟩
 try simp only [c3, c5, c7, c9, aa yx10, c11, c12, c17, c18, c19, c20, c21, c22, aa yx23, c24, aa yx25, c26, c28, go_sem]
 obtain rfl := hret1 _ (Option.some.inj h1).symm
 simp only at h0
 obtain rfl := Option.some.inj h0
 refine AKev_ret rfl ?_
 try simp only [F7.rs, c3, c5, c7, c9, aa yx10, c11, c12, c17, c18, c19, c20, c21, c22, aa yx23, c24, aa yx25, c26, c28, go_sem]
 try simp only [c26, c3, c5, c7, c9, aa yx10, c11, c12, c17, c18, c19, c20, c21, c22, aa yx23, c24, aa yx25, go_sem]
 refine DG_done ⟨calm_of (by simp only [skel, List.reverse_cons, List.reverse_nil, List.nil_append, List.cons_append, List.map_cons, List.map_nil, List.append_nil]; rfl) (by first | decide +kernel | rfl), run_sound T_ok 1000 _ _ ?_⟩
 try simp only [c3, c5, c7, c9, aa yx10, c11, c12, c17, c18, c19, c20, c21, c22, aa yx23, c24, aa yx25, c26, go_sem]
 obtain rfl := hret1 _ (Option.some.inj h1).symm
 simp only at h0
 obtain rfl := Option.some.inj h0
 refine AKev_ret rfl ?_
 try simp only [F7.rs, c3, c5, c7, c9, aa yx10, c11, c12, c17, c18, c19, c20, c21, c22, aa yx23, c24, aa yx25, c26, go_sem]
 try simp only [c24, c3, c5, c7, c9, aa yx10, c11, c12, c17, c18, c19, c20, c21, c22, aa yx23, go_sem]
 refine DG_done ⟨calm_of (by simp only [skel, List.reverse_cons, List.reverse_nil, List.nil_append, List.cons_append, List.map_cons, List.map_nil, List.append_nil]; rfl) (by first | decide +kernel | rfl), run_sound T_ok 1000 _ _ ?_⟩
 try simp only [c3, c5, c7, c9, aa yx10, c11, c12, c17, c18, c19, c20, c21, c22, aa yx23, c24, go_sem]
 obtain rfl := hret1 _ (Option.some.inj h1).symm
 simp only at h0
 obtain rfl := Option.some.inj h0
 refine AKev_ret rfl ?_
 try simp only [F7.rs, c3, c5, c7, c9, aa yx10, c11, c12, c17, c18, c19, c20, c21, c22, aa yx23, c24, go_sem]
 try simp only [c22, c3, c5, c7, c9, aa yx10, c11, c12, c17, c18, c19, c20, c21, go_sem]
 refine DG_done ⟨calm_of (by simp only [skel, List.reverse_cons, List.reverse_nil, List.nil_append, List.cons_append, List.map_cons, List.map_nil, List.append_nil]; rfl) (by first | decide +kernel | rfl), run_sound T_ok 1000 _ _ ?_⟩
 try simp only [c3, c5, c7, c9, aa yx10, c11, c12, c17, c18, c19, c20, c21, c22, go_sem]
 obtain rfl := hret1 _ (Option.some.inj h1).symm
 simp only at h0
 obtain rfl := Option.some.inj h0
 refine AKev_ret rfl ?_
 try simp only [F7.rs, c3, c5, c7, c9, aa yx10, c11, c12, c17, c18, c19, c20, c21, c22, go_sem]
 try simp only [c21, c3, c5, c7, c9, aa yx10, c11, c12, c17, c18, c19, c20, go_sem]
 refine DG_done ⟨calm_of (by simp only [skel, List.reverse_cons, List.reverse_nil, List.nil_append, List.cons_append, List.map_cons, List.map_nil, List.append_nil]; rfl) (by first | decide +kernel | rfl), run_sound T_ok 1000 _ _ ?_⟩
 try simp only [c3, c5, c7, c9, aa yx10, c11, c12, c17, c18, c19, c20, c21, go_sem]
 obtain rfl := hret1 _ (Option.some.inj h1).symm
 simp only at h0
 obtain rfl := Option.some.inj h0
 refine AKev_ret rfl ?_
 try simp only [F7.rs, c3, c5, c7, c9, aa yx10, c11, c12, c17, c18, c19, c20, c21, go_sem]
 try simp only [c20, c3, c5, c7, c9, aa yx10, c11, c12, c17, c18, c19, go_sem]
 refine DG_done ⟨calm_of (by simp only [skel, List.reverse_cons, List.reverse_nil, List.nil_append, List.cons_append, List.map_cons, List.map_nil, List.append_nil]; rfl) (by first | decide +kernel | rfl), run_sound T_ok 1000 _ _ ?_⟩
 try simp only [c3, c5, c7, c9, aa yx10, c11, c12, c17, c18, c19, c20, go_sem]
 obtain rfl := hret1 _ (Option.some.inj h1).symm
 simp only at h0
 obtain rfl := Option.some.inj h0
 refine AKev_ret rfl ?_
 try simp only [F7.rs, c3, c5, c7, c9, aa yx10, c11, c12, c17, c18, c19, c20, go_sem]
 try simp only [c19, c3, c5, c7, c9, aa yx10, c11, c12, c17, c18, go_sem]
 refine DG_done ⟨calm_of (by simp only [skel, List.reverse_cons, List.reverse_nil, List.nil_append, List.cons_append, List.map_cons, List.map_nil, List.append_nil]; rfl) (by first | decide +kernel | rfl), run_sound T_ok 1000 _ _ ?_⟩
 try simp only [c3, c5, c7, c9, aa yx10, c11, c12, c17, c18, c19, go_sem]
 obtain rfl := hret1 _ (Option.some.inj h1).symm
 simp only at h0
 obtain rfl := Option.some.inj h0
 refine AKev_ret rfl ?_
 try simp only [F7.rs, c3, c5, c7, c9, aa yx10, c11, c12, c17, c18, c19, go_sem]
 try simp only [c18, c3, c5, c7, c9, aa yx10, c11, c12, c17, go_sem]
 refine DG_done ⟨calm_of (by simp only [skel, List.reverse_cons, List.reverse_nil, List.nil_append, List.cons_append, List.map_cons, List.map_nil, List.append_nil]; rfl) (by first | decide +kernel | rfl), run_sound T_ok 1000 _ _ ?_⟩
 try simp only [c3, c5, c7, c9, aa yx10, c11, c12, c17, c18, go_sem]
 obtain rfl := hret1 _ (Option.some.inj h1).symm
 simp only at h0
 obtain rfl := Option.some.inj h0
 refine AKev_ret rfl ?_
 try simp only [F7.rs, c3, c5, c7, c9, aa yx10, c11, c12, c17, c18, go_sem]
 try simp only [c17, c3, c5, c7, c9, aa yx10, c11, c12, go_sem]
 refine DG_done ⟨calm_of (by simp only [skel, List.reverse_cons, List.reverse_nil, List.nil_append, List.cons_append, List.map_cons, List.map_nil, List.append_nil]; rfl) (by first | decide +kernel | rfl), run_sound T_ok 1000 _ _ ?_⟩
 try simp only [c3, c5, c7, c9, aa yx10, c11, c12, c17, go_sem]
 obtain rfl := hret1 _ (Option.some.inj h1).symm
 simp only at h0
 obtain rfl := Option.some.inj h0
 refine AKev_ret rfl ?_
 try simp only [F7.rs, c3, c5, c7, c9, aa yx10, c11, c12, c17, go_sem]
 have c11 := bnot_f c11
 try simp only [c11, c3, c5, c7, c9, aa yx10, go_sem]
 refine DG_done ⟨calm_of (by simp only [skel, List.reverse_cons, List.reverse_nil, List.nil_append, List.cons_append, List.map_cons, List.map_nil, List.append_nil]; rfl) (by first | decide +kernel | rfl), run_sound T_ok 1000 _ _ ?_⟩
 try simp only [c3, c5, c7, c9, aa yx10, c11, go_sem]
 obtain rfl := hret1 _ (Option.some.inj h1).symm
 simp only at h0
 obtain rfl := Option.some.inj h0
 refine AKev_ret rfl ?_
 try simp only [F7.rs, c3, c5, c7, c9, aa yx10, c11, go_sem]
 try simp only [c9, c3, c5, c7, go_sem]
 refine DG_done ⟨calm_of (by simp only [skel, List.reverse_cons, List.reverse_nil, List.nil_append, List.cons_append, List.map_cons, List.map_nil, List.append_nil]; rfl) (by first | decide +kernel | rfl), run_sound T_ok 1000 _ _ ?_⟩
 try simp only [c3, c5, c7, c9, go_sem]
 obtain rfl := hret1 _ (Option.some.inj h1).symm
 simp only at h0
 obtain rfl := Option.some.inj h0
 refine AKev_ret rfl ?_
 try simp only [F7.rs, c3, c5, c7, c9, go_sem]
 try simp only [c7, c3, c5, go_sem]
 refine AKev_backB (hbrk1 _ _ (Option.some.inj h1).symm ?_)
 refine Weak.go [] [] rfl ?_
 try simp only [L04_HeatTrue.x0, c3, c5, c7, go_sem]
 rintro _ hr_
 subst hr_
 simp only at h0
 refine rS ?_
 try simp only [L04_HeatTrue.x0, c3, c5, go_sem]
 obtain ⟨x42, yx42, h0⟩ := bs h0
 refine zc0 (L04_sane_ok k _ yx42) ?_ (by first | rfl | simp [AV.refsL, AV.refs, AV.scal, AV.leaf]) ?_
 try simp only [c3, c5, go_sem]
 try simp only [c3, c5, go_sem]
 obtain rfl := Option.some.inj h0
 refine AKev_ret rfl ?_
 try simp only [F7.rs, c3, c5, go_sem]
 try simp only [c3, go_sem]
 obtain rfl := Option.some.inj h0
 refine AKev_ret rfl ?_
 try simp only [F7.rs, c3, go_sem]
end Go.Abs
