/- The functions, as texts of the abstract machine. Conditions: none. -/
import Derived.Test.YtgckcnggblomgaaGreatDoorIrD1
namespace Go.Ab
set_option maxRecDepth 100000
def F99_4 : ICode := .seq (.region [
 o1 7 (.mv (y 0)),
 o1 8 (.len true (y 7)),
 o1 9 (.bin .gtr (y 8) (.const (.int .i64 0)))]) (.keep [0, 9] (.cond (y 9) .skip (.exit 0)))
def F99_7 : ICode := .region [
 o1 14 (.mv (y 0)),
 o1 15 (.sliceS (y 14) (some (.const (.int .i64 1))) none),
 o1 0 (.mv (y 15))]
def F99_15 : ICode := .seq (.region [
 o1 42 (.mv (y 0)),
 o1 43 (.len true (y 42)),
 o1 44 (.bin .gtr (y 43) (.const (.int .i64 32))),
 o1 45 (.mv (y 44)),
 ⟨(some 46), (some (45, true)), .mv (y 0)⟩,
 ⟨(some 47), (some (45, true)), .call .strict (.func 106) [y 46]⟩,
 ⟨(some 48), (some (45, true)), .mv (y 0)⟩,
 ⟨(some 49), (some (45, true)), .sliceS (y 48) (some (.const (.int .i64 8))) none⟩,
 ⟨(some 50), (some (45, true)), .call .strict (.func 106) [y 49]⟩,
 ⟨(some 51), (some (45, true)), .bin .or (y 47) (y 50)⟩,
 ⟨(some 52), (some (45, true)), .mv (y 0)⟩,
 ⟨(some 53), (some (45, true)), .sliceS (y 52) (some (.const (.int .i64 16))) none⟩,
 ⟨(some 54), (some (45, true)), .call .strict (.func 106) [y 53]⟩,
 ⟨(some 55), (some (45, true)), .mv (y 0)⟩,
 ⟨(some 56), (some (45, true)), .sliceS (y 55) (some (.const (.int .i64 24))) none⟩,
 ⟨(some 57), (some (45, true)), .call .strict (.func 106) [y 56]⟩,
 ⟨(some 58), (some (45, true)), .bin .or (y 54) (y 57)⟩,
 ⟨(some 59), (some (45, true)), .bin .or (y 51) (y 58)⟩,
 ⟨(some 60), (some (45, true)), .bin .and (y 59) (.const (.int .u64 9259542123273814144))⟩,
 ⟨(some 61), (some (45, true)), .bin .eql (y 60) (.const (.int .u64 0))⟩,
 o1 62 (.pick (y 45) (y 61) (.const (.bool false)))]) (.keep [0, 62] (.cond (y 62) .skip (.exit 2)))
def F99_18 : ICode := .keep [0] (.block 3 (.region [
 o1 63 (.mv (y 0)),
 o1 64 (.sliceS (y 63) (some (.const (.int .i64 32))) none),
 o1 0 (.mv (y 64))]))
def F99_19 : ICode := .seq F99_15 F99_18
def F99_34 : ICode := .keep [0] (.seq (.seq (.region [
 o1 16 (.mv (y 0)),
 o1 17 (.len true (y 16)),
 o1 18 (.bin .gtr (y 17) (.const (.int .i64 8))),
 o1 19 (.mv (y 18)),
 ⟨(some 20), (some (19, true)), .mv (y 0)⟩,
 ⟨(some 21), (some (19, true)), .call .pure (.func 106) [y 20]⟩,
 ⟨(some 22), (some (19, true)), .bin .and (y 21) (.const (.int .u64 9259542123273814144))⟩,
 ⟨(some 23), (some (19, true)), .bin .eql (y 22) (.const (.int .u64 0))⟩,
 o1 24 (.pick (y 19) (y 23) (.const (.bool false)))]) (.keep [0, 24] (.cond (y 24) (.seq (.region [
 o1 25 (.mv (y 0)),
 o1 26 (.sliceS (y 25) (some (.const (.int .i64 8))) none),
 o1 0 (.mv (y 26))]) (.keep [0] (.seq (.region [
 o1 27 (.mv (y 0)),
 o1 28 (.len true (y 27)),
 o1 29 (.bin .gtr (y 28) (.const (.int .i64 16))),
 o1 30 (.mv (y 29)),
 ⟨(some 31), (some (30, true)), .mv (y 0)⟩,
 ⟨(some 32), (some (30, true)), .call .strict (.func 106) [y 31]⟩,
 ⟨(some 33), (some (30, true)), .mv (y 0)⟩,
 ⟨(some 34), (some (30, true)), .sliceS (y 33) (some (.const (.int .i64 8))) none⟩,
 ⟨(some 35), (some (30, true)), .call .strict (.func 106) [y 34]⟩,
 ⟨(some 36), (some (30, true)), .bin .or (y 32) (y 35)⟩,
 ⟨(some 37), (some (30, true)), .bin .and (y 36) (.const (.int .u64 9259542123273814144))⟩,
 ⟨(some 38), (some (30, true)), .bin .eql (y 37) (.const (.int .u64 0))⟩,
 o1 39 (.pick (y 30) (y 38) (.const (.bool false)))]) (.keep [0, 39] (.cond (y 39) (.seq (.region [
 o1 40 (.mv (y 0)),
 o1 41 (.sliceS (y 40) (some (.const (.int .i64 16))) none),
 o1 0 (.mv (y 41))]) (.keep [0] (.block 2 (.loop [0] F99_19)))) .skip))))) .skip))) (.keep [0] (.exit 1)))
def F99_35 : ICode := .seq F99_7 F99_34
def F99_97 : ICode := .block 1 (.seq (.region [
 o1 10 (.mv (y 0)),
 o1 11 (.idxS (y 10) (.const (.int .i64 0))),
 o1 3 (.mv (y 11))]) (.keep [0, 3] (.seq (.seq (.region [
 o1 12 (.mv (y 3)),
 o1 13 (.bin .lss (y 12) (.const (.int .u8 128)))]) (.keep [0, 3, 13] (.cond (y 13) F99_35 .skip))) (.keep [0, 3] (.seq (.region [
 o1 65 (.mv (y 3)),
 o1 66 (.idxA 1 (some 256) (.glob 0) (y 65)),
 o1 67 (.load none (y 66)),
 o1 4 (.mv (y 67))]) (.keep [0, 4] (.seq (.region [
 o1 68 (.mv (y 4)),
 o1 69 (.bin .and (y 68) (.const (.int .u8 7))),
 o1 70 (.conv (.int .i64) (y 69)),
 o1 5 (.mv (y 70))]) (.keep [0, 4, 5] (.seq (.region [
 o1 71 (.mv (y 4)),
 o1 72 (.bin .shr (y 71) (.const (.int .u64 4))),
 o1 73 (.idxA 2 (some 16) (.glob 1) (y 72)),
 o1 74 (.load (some 2) (y 73)),
 o1 6 (.new [.int .u8 0, .int .u8 0]),
 o0 (.store 2 (y 6) (y 74))]) (.keep [0, 5, 6] (.seq (.region [
 o1 75 (.mv (y 5))]) (.keep [0, 6, 75] (.block 4 (.seq (.region [
 o1 77 (.bin .eql (y 75) (.const (.int .i64 2))),
 o1 76 (.mv (y 77))]) (.keep [0, 6, 75, 76] (.cond (y 76) (.seq (.seq (.region [
 o1 78 (.mv (y 0)),
 o1 79 (.len true (y 78)),
 o1 80 (.bin .lss (y 79) (.const (.int .i64 2))),
 o1 81 (.mv (y 80)),
 ⟨(some 82), (some (81, false)), .mv (y 0)⟩,
 ⟨(some 83), (some (81, false)), .idxS (y 82) (.const (.int .i64 1))⟩,
 ⟨(some 84), (some (81, false)), .fieldA 0 (y 6)⟩,
 ⟨(some 85), (some (81, false)), .load none (y 84)⟩,
 ⟨(some 86), (some (81, false)), .bin .lss (y 83) (y 85)⟩,
 o1 87 (.pick (y 81) (.const (.bool true)) (y 86)),
 o1 88 (.mv (y 87)),
 ⟨(some 89), (some (88, false)), .fieldA 1 (y 6)⟩,
 ⟨(some 90), (some (88, false)), .load none (y 89)⟩,
 ⟨(some 91), (some (88, false)), .mv (y 0)⟩,
 ⟨(some 92), (some (88, false)), .idxS (y 91) (.const (.int .i64 1))⟩,
 ⟨(some 93), (some (88, false)), .bin .lss (y 90) (y 92)⟩,
 o1 94 (.pick (y 88) (.const (.bool true)) (y 93))]) (.keep [0, 94] (.cond (y 94) (.seq (.region [
 o1 2 (.mv (.const (.bool false)))]) .ret) .skip))) (.keep [0] (.region [
 o1 95 (.mv (y 0)),
 o1 96 (.sliceS (y 95) (some (.const (.int .i64 2))) none),
 o1 0 (.mv (y 96))]))) (.seq (.region [
 o1 98 (.bin .eql (y 75) (.const (.int .i64 3))),
 o1 97 (.mv (y 98))]) (.keep [0, 6, 75, 97] (.cond (y 97) (.seq (.seq (.region [
 o1 99 (.mv (y 0)),
 o1 100 (.len true (y 99)),
 o1 101 (.bin .lss (y 100) (.const (.int .i64 3))),
 o1 102 (.mv (y 101)),
 ⟨(some 103), (some (102, false)), .mv (y 0)⟩,
 ⟨(some 104), (some (102, false)), .idxS (y 103) (.const (.int .i64 1))⟩,
 ⟨(some 105), (some (102, false)), .fieldA 0 (y 6)⟩,
 ⟨(some 106), (some (102, false)), .load none (y 105)⟩,
 ⟨(some 107), (some (102, false)), .bin .lss (y 104) (y 106)⟩,
 o1 108 (.pick (y 102) (.const (.bool true)) (y 107)),
 o1 109 (.mv (y 108)),
 ⟨(some 110), (some (109, false)), .fieldA 1 (y 6)⟩,
 ⟨(some 111), (some (109, false)), .load none (y 110)⟩,
 ⟨(some 112), (some (109, false)), .mv (y 0)⟩,
 ⟨(some 113), (some (109, false)), .idxS (y 112) (.const (.int .i64 1))⟩,
 ⟨(some 114), (some (109, false)), .bin .lss (y 111) (y 113)⟩,
 o1 115 (.pick (y 109) (.const (.bool true)) (y 114)),
 o1 116 (.mv (y 115)),
 ⟨(some 117), (some (116, false)), .mv (y 0)⟩,
 ⟨(some 118), (some (116, false)), .idxS (y 117) (.const (.int .i64 2))⟩,
 ⟨(some 119), (some (116, false)), .bin .lss (y 118) (.const (.int .u8 128))⟩,
 o1 120 (.pick (y 116) (.const (.bool true)) (y 119)),
 o1 121 (.mv (y 120)),
 ⟨(some 122), (some (121, false)), .mv (y 0)⟩,
 ⟨(some 123), (some (121, false)), .idxS (y 122) (.const (.int .i64 2))⟩,
 ⟨(some 124), (some (121, false)), .bin .lss (.const (.int .u8 191)) (y 123)⟩,
 o1 125 (.pick (y 121) (.const (.bool true)) (y 124))]) (.keep [0, 125] (.cond (y 125) (.seq (.region [
 o1 2 (.mv (.const (.bool false)))]) .ret) .skip))) (.keep [0] (.region [
 o1 126 (.mv (y 0)),
 o1 127 (.sliceS (y 126) (some (.const (.int .i64 3))) none),
 o1 0 (.mv (y 127))]))) (.seq (.region [
 o1 129 (.bin .eql (y 75) (.const (.int .i64 4))),
 o1 128 (.mv (y 129))]) (.keep [0, 6, 128] (.cond (y 128) (.seq (.seq (.region [
 o1 130 (.mv (y 0)),
 o1 131 (.len true (y 130)),
 o1 132 (.bin .lss (y 131) (.const (.int .i64 4))),
 o1 133 (.mv (y 132)),
 ⟨(some 134), (some (133, false)), .mv (y 0)⟩,
 ⟨(some 135), (some (133, false)), .idxS (y 134) (.const (.int .i64 1))⟩,
 ⟨(some 136), (some (133, false)), .fieldA 0 (y 6)⟩,
 ⟨(some 137), (some (133, false)), .load none (y 136)⟩,
 ⟨(some 138), (some (133, false)), .bin .lss (y 135) (y 137)⟩,
 o1 139 (.pick (y 133) (.const (.bool true)) (y 138)),
 o1 140 (.mv (y 139)),
 ⟨(some 141), (some (140, false)), .fieldA 1 (y 6)⟩,
 ⟨(some 142), (some (140, false)), .load none (y 141)⟩,
 ⟨(some 143), (some (140, false)), .mv (y 0)⟩,
 ⟨(some 144), (some (140, false)), .idxS (y 143) (.const (.int .i64 1))⟩,
 ⟨(some 145), (some (140, false)), .bin .lss (y 142) (y 144)⟩,
 o1 146 (.pick (y 140) (.const (.bool true)) (y 145)),
 o1 147 (.mv (y 146)),
 ⟨(some 148), (some (147, false)), .mv (y 0)⟩,
 ⟨(some 149), (some (147, false)), .idxS (y 148) (.const (.int .i64 2))⟩,
 ⟨(some 150), (some (147, false)), .bin .lss (y 149) (.const (.int .u8 128))⟩,
 o1 151 (.pick (y 147) (.const (.bool true)) (y 150)),
 o1 152 (.mv (y 151)),
 ⟨(some 153), (some (152, false)), .mv (y 0)⟩,
 ⟨(some 154), (some (152, false)), .idxS (y 153) (.const (.int .i64 2))⟩,
 ⟨(some 155), (some (152, false)), .bin .lss (.const (.int .u8 191)) (y 154)⟩,
 o1 156 (.pick (y 152) (.const (.bool true)) (y 155)),
 o1 157 (.mv (y 156)),
 ⟨(some 158), (some (157, false)), .mv (y 0)⟩,
 ⟨(some 159), (some (157, false)), .idxS (y 158) (.const (.int .i64 3))⟩,
 ⟨(some 160), (some (157, false)), .bin .lss (y 159) (.const (.int .u8 128))⟩,
 o1 161 (.pick (y 157) (.const (.bool true)) (y 160)),
 o1 162 (.mv (y 161)),
 ⟨(some 163), (some (162, false)), .mv (y 0)⟩,
 ⟨(some 164), (some (162, false)), .idxS (y 163) (.const (.int .i64 3))⟩,
 ⟨(some 165), (some (162, false)), .bin .lss (.const (.int .u8 191)) (y 164)⟩,
 o1 166 (.pick (y 162) (.const (.bool true)) (y 165))]) (.keep [0, 166] (.cond (y 166) (.seq (.region [
 o1 2 (.mv (.const (.bool false)))]) .ret) .skip))) (.keep [0] (.region [
 o1 167 (.mv (y 0)),
 o1 168 (.sliceS (y 167) (some (.const (.int .i64 4))) none),
 o1 0 (.mv (y 168))]))) (.seq (.region [
 o1 2 (.mv (.const (.bool false)))]) .ret)))))))))))))))))))))))
def F99_98 : ICode := .keep [0] F99_97
def F99_99 : ICode := .seq F99_4 F99_98
/-- unicode/utf8.ValidString -/
def F99 : IFunc := ⟨(.seq (.region [
 o1 2 (.mv (.const (.bool false)))]) (.keep [0] (.seq (.block 0 (.loop [0] F99_99)) (.keep [] (.seq (.region [
 o1 2 (.mv (.const (.bool true)))]) .ret))))), [.tmp 2]⟩
def F100_2 : ICode := .region [
 o1 9 (.bin .lss (y 8) (y 7))]
def F100_19 : ICode := .keep [0, 1, 7, 8, 9] (.seq (.cond (y 9) .skip (.exit 0)) (.keep [0, 1, 7, 8] (.seq (.block 1 (.seq (.region [
 o1 10 (.mv (y 8)),
 o1 5 (.mv (y 10))]) (.keep [0, 1, 5, 7, 8] (.seq (.region [
 o1 11 (.mv (y 1)),
 o1 12 (.mv (y 0)),
 o1 13 (.mv (y 5)),
 o1 14 (.idxA 5 none (y 12) (y 13)),
 o1 15 (.load (some 5) (y 14)),
 o1 16 (.call .pure (y 11) [y 15])]) (.keep [0, 1, 5, 7, 8, 16] (.cond (y 16) (.seq (.region [
 o1 17 (.mv (y 5)),
 o1 4 (.mv (y 17))]) .ret) .skip)))))) (.keep [0, 1, 7, 8] (.region [
 o1 18 (.bin .add (y 8) (.const (.int .i64 1))),
 o1 8 (.mv (y 18))])))))
def F100_20 : ICode := .seq F100_2 F100_19
/-- slices.IndexFunc[[]introit/api.Value,introit/api.Value] -/
def F100 : IFunc := ⟨(.seq (.region [
 o1 4 (.mv (.const (.int .i64 0)))]) (.keep [0, 1] (.seq (.seq (.region [
 o1 6 (.mv (y 0)),
 o1 7 (.len false (y 6)),
 o1 8 (.mv (.const (.int .i64 0)))]) (.keep [0, 1, 7, 8] (.block 0 (.loop [0, 1, 7, 8] F100_20)))) (.keep [] (.seq (.region [
 o1 4 (.mv (.const (.int .i64 (-1))))]) .ret))))), [.tmp 4]⟩
def F101_35 : ICode := .seq (.region [
 o1 57 (.mv (y 8)),
 o1 58 (.mv (y 9)),
 o1 59 (.bin .lss (y 57) (y 58))]) (.keep [0, 1, 5, 6, 7, 8, 9, 10, 59] (.cond (y 59) .skip (.exit 1)))
def F101_103 : ICode := .keep [0, 1, 5, 6, 7, 8, 9, 10] (.block 2 (.seq (.seq (.region [
 o1 60 (.mv (y 0)),
 o1 61 (.mv (y 8)),
 o1 62 (.idxS (y 60) (y 61)),
 o1 63 (.mv (y 6)),
 o1 64 (.bin .neq (y 62) (y 63))]) (.keep [0, 1, 5, 6, 7, 8, 9, 10, 64] (.cond (y 64) (.seq (.region [
 o1 65 (.mv (y 0)),
 o1 66 (.mv (y 8)),
 o1 67 (.bin .add (y 66) (.const (.int .i64 1))),
 o1 68 (.mv (y 9)),
 o1 69 (.sliceS (y 65) (some (y 67)) (some (y 68))),
 o1 70 (.mv (y 6)),
 o1 71 (.call .pure (.func 107) [y 69, y 70]),
 o1 11 (.mv (y 71))]) (.keep [0, 1, 5, 6, 7, 8, 9, 10, 11] (.seq (.seq (.region [
 o1 72 (.mv (y 11)),
 o1 73 (.bin .lss (y 72) (.const (.int .i64 0)))]) (.keep [0, 1, 5, 6, 7, 8, 9, 10, 11, 73] (.cond (y 73) (.seq (.region [
 o1 4 (.mv (.const (.int .i64 (-1))))]) .ret) .skip))) (.keep [0, 1, 5, 6, 7, 8, 9, 10, 11] (.region [
 o1 74 (.mv (y 8)),
 o1 75 (.mv (y 11)),
 o1 76 (.bin .add (y 75) (.const (.int .i64 1))),
 o1 77 (.bin .add (y 74) (y 76)),
 o1 8 (.mv (y 77))]))))) .skip))) (.keep [0, 1, 5, 6, 7, 8, 9, 10] (.seq (.seq (.region [
 o1 78 (.mv (y 0)),
 o1 79 (.mv (y 8)),
 o1 80 (.bin .add (y 79) (.const (.int .i64 1))),
 o1 81 (.idxS (y 78) (y 80)),
 o1 82 (.mv (y 7)),
 o1 83 (.bin .eql (y 81) (y 82)),
 o1 84 (.mv (y 83)),
 ⟨(some 85), (some (84, true)), .mv (y 0)⟩,
 ⟨(some 86), (some (84, true)), .mv (y 8)⟩,
 ⟨(some 87), (some (84, true)), .mv (y 8)⟩,
 ⟨(some 88), (some (84, true)), .mv (y 5)⟩,
 ⟨(some 89), (some (84, true)), .bin .add (y 87) (y 88)⟩,
 ⟨(some 90), (some (84, true)), .sliceS (y 85) (some (y 86)) (some (y 89))⟩,
 ⟨(some 91), (some (84, true)), .mv (y 1)⟩,
 ⟨(some 92), (some (84, true)), .bin .eql (y 90) (y 91)⟩,
 o1 93 (.pick (y 84) (y 92) (.const (.bool false)))]) (.keep [0, 1, 5, 6, 7, 8, 9, 10, 93] (.cond (y 93) (.seq (.region [
 o1 94 (.mv (y 8)),
 o1 4 (.mv (y 94))]) .ret) .skip))) (.keep [0, 1, 5, 6, 7, 8, 9, 10] (.seq (.region [
 o1 95 (.mv (y 8)),
 o1 96 (.bin .add (y 95) (.const (.int .i64 1))),
 o1 8 (.mv (y 96))]) (.keep [0, 1, 5, 6, 7, 8, 9, 10] (.seq (.region [
 o1 97 (.mv (y 10)),
 o1 98 (.bin .add (y 97) (.const (.int .i64 1))),
 o1 10 (.mv (y 98))]) (.keep [0, 1, 5, 6, 7, 8, 9, 10] (.seq (.region [
 o1 99 (.mv (y 5)),
 o1 100 (.load none (.glob 2)),
 o1 101 (.bin .leq (y 99) (y 100)),
 o1 102 (.mv (y 101)),
 ⟨(some 103), (some (102, true)), .mv (y 10)⟩,
 ⟨(some 104), (some (102, true)), .mv (y 8)⟩,
 ⟨(some 105), (some (102, true)), .call .pure (.func 109) [y 104]⟩,
 ⟨(some 106), (some (102, true)), .bin .gtr (y 103) (y 105)⟩,
 o1 107 (.pick (y 102) (y 106) (.const (.bool false)))]) (.keep [0, 1, 5, 6, 7, 8, 9, 10, 107] (.cond (y 107) (.seq (.region [
 o1 108 (.mv (y 0)),
 o1 109 (.mv (y 8)),
 o1 110 (.sliceS (y 108) (some (y 109)) none),
 o1 111 (.mv (y 1)),
 o1 112 (.call .pure (.func 108) [y 110, y 111]),
 o1 12 (.mv (y 112))]) (.keep [8, 12] (.seq (.seq (.region [
 o1 113 (.mv (y 12)),
 o1 114 (.bin .geq (y 113) (.const (.int .i64 0)))]) (.keep [8, 12, 114] (.cond (y 114) (.seq (.region [
 o1 115 (.mv (y 12)),
 o1 116 (.mv (y 8)),
 o1 117 (.bin .add (y 115) (y 116)),
 o1 4 (.mv (y 117))]) .ret) .skip))) (.keep [] (.seq (.region [
 o1 4 (.mv (.const (.int .i64 (-1))))]) .ret))))) (.seq (.region [
 o1 118 (.mv (y 5)),
 o1 119 (.load none (.glob 2)),
 o1 120 (.bin .gtr (y 118) (y 119)),
 o1 121 (.mv (y 120)),
 ⟨(some 122), (some (121, true)), .mv (y 10)⟩,
 ⟨(some 123), (some (121, true)), .mv (y 8)⟩,
 ⟨(some 124), (some (121, true)), .bin .shr (y 123) (.const (.int .u64 4))⟩,
 ⟨(some 125), (some (121, true)), .bin .add (.const (.int .i64 4)) (y 124)⟩,
 ⟨(some 126), (some (121, true)), .bin .geq (y 122) (y 125)⟩,
 o1 127 (.pick (y 121) (y 126) (.const (.bool false))),
 o1 128 (.mv (y 127)),
 ⟨(some 129), (some (128, true)), .mv (y 8)⟩,
 ⟨(some 130), (some (128, true)), .mv (y 9)⟩,
 ⟨(some 131), (some (128, true)), .bin .lss (y 129) (y 130)⟩,
 o1 132 (.pick (y 128) (y 131) (.const (.bool false)))]) (.keep [0, 1, 5, 6, 7, 8, 9, 10, 132] (.cond (y 132) (.seq (.region [
 o1 133 (.mv (y 0)),
 o1 134 (.mv (y 8)),
 o1 135 (.sliceS (y 133) (some (y 134)) none),
 o1 136 (.mv (y 1)),
 o1 137 (.call .pure (.func 110) [y 135, y 136]),
 o1 13 (.mv (y 137))]) (.keep [8, 13] (.seq (.seq (.region [
 o1 138 (.mv (y 13)),
 o1 139 (.bin .lss (y 138) (.const (.int .i64 0)))]) (.keep [8, 13, 139] (.cond (y 139) (.seq (.region [
 o1 4 (.mv (.const (.int .i64 (-1))))]) .ret) .skip))) (.keep [8, 13] (.seq (.region [
 o1 140 (.mv (y 8)),
 o1 141 (.mv (y 13)),
 o1 142 (.bin .add (y 140) (y 141)),
 o1 4 (.mv (y 142))]) .ret))))) .skip)))))))))))))))
def F101_104 : ICode := .seq F101_35 F101_103
/-- internal/stringslite.Index -/
def F101 : IFunc := ⟨(.seq (.region [
 o1 4 (.mv (.const (.int .i64 0)))]) (.keep [0, 1] (.seq (.region [
 o1 14 (.mv (y 1)),
 o1 15 (.len true (y 14)),
 o1 5 (.mv (y 15))]) (.keep [0, 1, 5] (.seq (.block 0 (.seq (.region [
 o1 17 (.mv (y 5)),
 o1 18 (.bin .eql (y 17) (.const (.int .i64 0))),
 o1 19 (.mv (y 18)),
 ⟨(some 20), (some (19, false)), .mv (y 1)⟩,
 ⟨(some 21), (some (19, false)), .mv (y 0)⟩,
 ⟨(some 22), (some (19, false)), .bin .eql (y 20) (y 21)⟩,
 o1 23 (.pick (y 19) (.const (.bool true)) (y 22)),
 o1 16 (.mv (y 23))]) (.keep [0, 1, 5, 16] (.cond (y 16) (.seq (.region [
 o1 4 (.mv (.const (.int .i64 0)))]) .ret) (.seq (.region [
 o1 25 (.mv (y 5)),
 o1 26 (.bin .eql (y 25) (.const (.int .i64 1))),
 o1 24 (.mv (y 26))]) (.keep [0, 1, 5, 24] (.cond (y 24) (.seq (.region [
 o1 27 (.mv (y 0)),
 o1 28 (.mv (y 1)),
 o1 29 (.idxS (y 28) (.const (.int .i64 0))),
 o1 30 (.call .pure (.func 107) [y 27, y 29]),
 o1 4 (.mv (y 30))]) .ret) (.seq (.region [
 o1 32 (.mv (y 5)),
 o1 33 (.mv (y 0)),
 o1 34 (.len true (y 33)),
 o1 35 (.bin .geq (y 32) (y 34)),
 o1 31 (.mv (y 35))]) (.keep [0, 1, 5, 31] (.cond (y 31) (.seq (.region [
 o1 4 (.mv (.const (.int .i64 (-1))))]) .ret) (.seq (.region [
 o1 37 (.mv (y 5)),
 o1 38 (.load none (.glob 2)),
 o1 39 (.bin .leq (y 37) (y 38)),
 o1 40 (.mv (y 39)),
 ⟨(some 41), (some (40, true)), .mv (y 0)⟩,
 ⟨(some 42), (some (40, true)), .len true (y 41)⟩,
 ⟨(some 43), (some (40, true)), .bin .leq (y 42) (.const (.int .i64 64))⟩,
 o1 44 (.pick (y 40) (y 43) (.const (.bool false))),
 o1 36 (.mv (y 44))]) (.keep [0, 1, 5, 36] (.cond (y 36) (.seq (.region [
 o1 45 (.mv (y 0)),
 o1 46 (.mv (y 1)),
 o1 47 (.call .pure (.func 108) [y 45, y 46]),
 o1 4 (.mv (y 47))]) .ret) .skip))))))))))))) (.keep [0, 1, 5] (.seq (.region [
 o1 48 (.mv (y 1)),
 o1 49 (.idxS (y 48) (.const (.int .i64 0))),
 o1 6 (.mv (y 49))]) (.keep [0, 1, 5, 6] (.seq (.region [
 o1 50 (.mv (y 1)),
 o1 51 (.idxS (y 50) (.const (.int .i64 1))),
 o1 7 (.mv (y 51))]) (.keep [0, 1, 5, 6, 7] (.seq (.region [
 o1 8 (.mv (.const (.int .i64 0)))]) (.keep [0, 1, 5, 6, 7, 8] (.seq (.region [
 o1 52 (.mv (y 0)),
 o1 53 (.len true (y 52)),
 o1 54 (.mv (y 5)),
 o1 55 (.bin .sub (y 53) (y 54)),
 o1 56 (.bin .add (y 55) (.const (.int .i64 1))),
 o1 9 (.mv (y 56))]) (.keep [0, 1, 5, 6, 7, 8, 9] (.seq (.region [
 o1 10 (.mv (.const (.int .i64 0)))]) (.keep [0, 1, 5, 6, 7, 8, 9, 10] (.seq (.block 1 (.loop [0, 1, 5, 6, 7, 8, 9, 10] F101_104)) (.keep [] (.seq (.region [
 o1 4 (.mv (.const (.int .i64 (-1))))]) .ret))))))))))))))))))), [.tmp 4]⟩
/-- strings.IndexByte -/
def F102 : IFunc := ⟨(.seq (.region [
 o1 4 (.mv (.const (.int .i64 0)))]) (.keep [0, 1] (.seq (.region [
 o1 5 (.mv (y 0)),
 o1 6 (.mv (y 1)),
 o1 7 (.call .pure (.func 107) [y 5, y 6]),
 o1 4 (.mv (y 7))]) .ret))), [.tmp 4]⟩
/-- unicode/utf8.word[string] -/
def F106 : IFunc := ⟨(.seq (.region [
 o1 2 (.mv (.const (.int .u64 0)))]) (.keep [0] (.seq (.cond (.const (.bool false)) (.seq (.region [
 o1 3 (.mv (y 0)),
 o1 4 (.idxS (y 3) (.const (.int .i64 0))),
 o1 5 (.conv (.int .u64) (y 4)),
 o1 6 (.mv (y 0)),
 o1 7 (.idxS (y 6) (.const (.int .i64 1))),
 o1 8 (.conv (.int .u64) (y 7)),
 o1 9 (.bin .shl (y 8) (.const (.int .u64 8))),
 o1 10 (.bin .or (y 5) (y 9)),
 o1 11 (.mv (y 0)),
 o1 12 (.idxS (y 11) (.const (.int .i64 2))),
 o1 13 (.conv (.int .u64) (y 12)),
 o1 14 (.bin .shl (y 13) (.const (.int .u64 16))),
 o1 15 (.bin .or (y 10) (y 14)),
 o1 16 (.mv (y 0)),
 o1 17 (.idxS (y 16) (.const (.int .i64 3))),
 o1 18 (.conv (.int .u64) (y 17)),
 o1 19 (.bin .shl (y 18) (.const (.int .u64 24))),
 o1 20 (.bin .or (y 15) (y 19)),
 o1 2 (.mv (y 20))]) .ret) .skip) (.keep [0] (.seq (.region [
 o1 21 (.mv (y 0)),
 o1 22 (.idxS (y 21) (.const (.int .i64 0))),
 o1 23 (.conv (.int .u64) (y 22)),
 o1 24 (.mv (y 0)),
 o1 25 (.idxS (y 24) (.const (.int .i64 1))),
 o1 26 (.conv (.int .u64) (y 25)),
 o1 27 (.bin .shl (y 26) (.const (.int .u64 8))),
 o1 28 (.bin .or (y 23) (y 27)),
 o1 29 (.mv (y 0)),
 o1 30 (.idxS (y 29) (.const (.int .i64 2))),
 o1 31 (.conv (.int .u64) (y 30)),
 o1 32 (.bin .shl (y 31) (.const (.int .u64 16))),
 o1 33 (.bin .or (y 28) (y 32)),
 o1 34 (.mv (y 0)),
 o1 35 (.idxS (y 34) (.const (.int .i64 3))),
 o1 36 (.conv (.int .u64) (y 35)),
 o1 37 (.bin .shl (y 36) (.const (.int .u64 24))),
 o1 38 (.bin .or (y 33) (y 37)),
 o1 39 (.mv (y 0)),
 o1 40 (.idxS (y 39) (.const (.int .i64 4))),
 o1 41 (.conv (.int .u64) (y 40)),
 o1 42 (.bin .shl (y 41) (.const (.int .u64 32))),
 o1 43 (.bin .or (y 38) (y 42)),
 o1 44 (.mv (y 0)),
 o1 45 (.idxS (y 44) (.const (.int .i64 5))),
 o1 46 (.conv (.int .u64) (y 45)),
 o1 47 (.bin .shl (y 46) (.const (.int .u64 40))),
 o1 48 (.bin .or (y 43) (y 47)),
 o1 49 (.mv (y 0)),
 o1 50 (.idxS (y 49) (.const (.int .i64 6))),
 o1 51 (.conv (.int .u64) (y 50)),
 o1 52 (.bin .shl (y 51) (.const (.int .u64 48))),
 o1 53 (.bin .or (y 48) (y 52)),
 o1 54 (.mv (y 0)),
 o1 55 (.idxS (y 54) (.const (.int .i64 7))),
 o1 56 (.conv (.int .u64) (y 55)),
 o1 57 (.bin .shl (y 56) (.const (.int .u64 56))),
 o1 58 (.bin .or (y 53) (y 57)),
 o1 2 (.mv (y 58))]) .ret))))), [.tmp 2]⟩
/-- internal/stringslite.IndexByte -/
def F107 : IFunc := ⟨(.seq (.region [
 o1 4 (.mv (.const (.int .i64 0)))]) (.keep [0, 1] (.seq (.region [
 o1 5 (.mv (y 0)),
 o1 6 (.mv (y 1)),
 o1 7 (.ext .idxByte [y 5, y 6]),
 o1 4 (.mv (y 7))]) .ret))), [.tmp 4]⟩
/-- internal/bytealg.Cutover -/
def F109 : IFunc := ⟨(.seq (.region [
 o1 2 (.mv (.const (.int .i64 0)))]) (.keep [0] (.seq (.region [
 o1 3 (.mv (y 0)),
 o1 4 (.bin .add (y 3) (.const (.int .i64 16))),
 o1 5 (.bin .quo (y 4) (.const (.int .i64 8))),
 o1 2 (.mv (y 5))]) .ret))), [.tmp 2]⟩
/-- internal/bytealg.IndexRabinKarp[string] -/
def F110 : IFunc := ⟨(.seq (.region [
 o1 4 (.mv (.const (.int .i64 0)))]) (.keep [0, 1] (.seq (.region [
 o1 12 (.mv (y 1)),
 o1 13 (.call .pure (.func 112) [y 12]),
 o1 11 (.mv (y 13)),
 o1 14 (.extract (y 11) 0),
 o1 15 (.extract (y 11) 1),
 o1 5 (.mv (y 14)),
 o1 6 (.mv (y 15))]) (.keep [0, 1, 5, 6] (.seq (.region [
 o1 16 (.mv (y 1)),
 o1 17 (.len true (y 16)),
 o1 7 (.mv (y 17))]) (.keep [0, 1, 5, 6, 7] (.seq (.region [
 o1 8 (.mv (.const (.int .u32 0)))]) (.keep [0, 1, 5, 6, 7, 8] (.seq (.seq (.region [
 o1 9 (.mv (.const (.int .i64 0)))]) (.keep [0, 1, 5, 6, 7, 8, 9] (.block 0 (.loop [0, 1, 5, 6, 7, 8, 9] (.seq (.seq (.region [
 o1 18 (.mv (y 9)),
 o1 19 (.mv (y 7)),
 o1 20 (.bin .lss (y 18) (y 19))]) (.keep [0, 1, 5, 6, 7, 8, 9, 20] (.cond (y 20) .skip (.exit 0)))) (.keep [0, 1, 5, 6, 7, 8, 9] (.seq (.block 1 (.region [
 o1 23 (.mv (y 8)),
 o1 24 (.bin .mul (y 23) (.const (.int .u32 16777619))),
 o1 25 (.mv (y 0)),
 o1 26 (.mv (y 9)),
 o1 27 (.idxS (y 25) (y 26)),
 o1 28 (.conv (.int .u32) (y 27)),
 o1 29 (.bin .add (y 24) (y 28)),
 o1 8 (.mv (y 29))])) (.keep [0, 1, 5, 6, 7, 8, 9] (.region [
 o1 21 (.mv (y 9)),
 o1 22 (.bin .add (y 21) (.const (.int .i64 1))),
 o1 9 (.mv (y 22))]))))))))) (.keep [0, 1, 5, 6, 7, 8] (.seq (.seq (.region [
 o1 30 (.mv (y 8)),
 o1 31 (.mv (y 5)),
 o1 32 (.bin .eql (y 30) (y 31)),
 o1 33 (.mv (y 32)),
 ⟨(some 34), (some (33, true)), .mv (y 0)⟩,
 ⟨(some 35), (some (33, true)), .mv (y 7)⟩,
 ⟨(some 36), (some (33, true)), .sliceS (y 34) none (some (y 35))⟩,
 ⟨(some 37), (some (33, true)), .mv (y 1)⟩,
 ⟨(some 38), (some (33, true)), .bin .eql (y 36) (y 37)⟩,
 o1 39 (.pick (y 33) (y 38) (.const (.bool false)))]) (.keep [0, 1, 5, 6, 7, 8, 39] (.cond (y 39) (.seq (.region [
 o1 4 (.mv (.const (.int .i64 0)))]) .ret) .skip))) (.keep [0, 1, 5, 6, 7, 8] (.seq (.seq (.region [
 o1 40 (.mv (y 7)),
 o1 10 (.mv (y 40))]) (.keep [0, 1, 5, 6, 7, 8, 10] (.block 2 (.loop [0, 1, 5, 6, 7, 8, 10] (.seq (.seq (.region [
 o1 41 (.mv (y 10)),
 o1 42 (.mv (y 0)),
 o1 43 (.len true (y 42)),
 o1 44 (.bin .lss (y 41) (y 43))]) (.keep [0, 1, 5, 6, 7, 8, 10, 44] (.cond (y 44) .skip (.exit 2)))) (.keep [0, 1, 5, 6, 7, 8, 10] (.block 3 (.seq (.region [
 o1 45 (.mv (y 8)),
 o1 46 (.bin .mul (y 45) (.const (.int .u32 16777619))),
 o1 8 (.mv (y 46))]) (.keep [0, 1, 5, 6, 7, 8, 10] (.seq (.region [
 o1 47 (.mv (y 8)),
 o1 48 (.mv (y 0)),
 o1 49 (.mv (y 10)),
 o1 50 (.idxS (y 48) (y 49)),
 o1 51 (.conv (.int .u32) (y 50)),
 o1 52 (.bin .add (y 47) (y 51)),
 o1 8 (.mv (y 52))]) (.keep [0, 1, 5, 6, 7, 8, 10] (.seq (.region [
 o1 53 (.mv (y 8)),
 o1 54 (.mv (y 6)),
 o1 55 (.mv (y 0)),
 o1 56 (.mv (y 10)),
 o1 57 (.mv (y 7)),
 o1 58 (.bin .sub (y 56) (y 57)),
 o1 59 (.idxS (y 55) (y 58)),
 o1 60 (.conv (.int .u32) (y 59)),
 o1 61 (.bin .mul (y 54) (y 60)),
 o1 62 (.bin .sub (y 53) (y 61)),
 o1 8 (.mv (y 62))]) (.keep [0, 1, 5, 6, 7, 8, 10] (.seq (.region [
 o1 63 (.mv (y 10)),
 o1 64 (.bin .add (y 63) (.const (.int .i64 1))),
 o1 10 (.mv (y 64))]) (.keep [0, 1, 5, 6, 7, 8, 10] (.seq (.region [
 o1 65 (.mv (y 8)),
 o1 66 (.mv (y 5)),
 o1 67 (.bin .eql (y 65) (y 66)),
 o1 68 (.mv (y 67)),
 ⟨(some 69), (some (68, true)), .mv (y 0)⟩,
 ⟨(some 70), (some (68, true)), .mv (y 10)⟩,
 ⟨(some 71), (some (68, true)), .mv (y 7)⟩,
 ⟨(some 72), (some (68, true)), .bin .sub (y 70) (y 71)⟩,
 ⟨(some 73), (some (68, true)), .mv (y 10)⟩,
 ⟨(some 74), (some (68, true)), .sliceS (y 69) (some (y 72)) (some (y 73))⟩,
 ⟨(some 75), (some (68, true)), .mv (y 1)⟩,
 ⟨(some 76), (some (68, true)), .bin .eql (y 74) (y 75)⟩,
 o1 77 (.pick (y 68) (y 76) (.const (.bool false)))]) (.keep [0, 1, 5, 6, 7, 8, 10, 77] (.cond (y 77) (.seq (.region [
 o1 78 (.mv (y 10)),
 o1 79 (.mv (y 7)),
 o1 80 (.bin .sub (y 78) (y 79)),
 o1 4 (.mv (y 80))]) .ret) .skip)))))))))))))))))) (.keep [] (.seq (.region [
 o1 4 (.mv (.const (.int .i64 (-1))))]) .ret))))))))))))))), [.tmp 4]⟩
/-- internal/bytealg.hashStr[string] -/
def F112 : IFunc := ⟨(.seq (.region [
 o1 2 (.mv (.const (.int .u32 0))),
 o1 3 (.mv (.const (.int .u32 0)))]) (.keep [0] (.seq (.region [
 o1 4 (.mv (.const (.int .u32 0)))]) (.keep [0, 4] (.seq (.seq (.region [
 o1 5 (.mv (.const (.int .i64 0)))]) (.keep [0, 4, 5] (.block 0 (.loop [0, 4, 5] (.seq (.seq (.region [
 o1 9 (.mv (y 5)),
 o1 10 (.mv (y 0)),
 o1 11 (.len true (y 10)),
 o1 12 (.bin .lss (y 9) (y 11))]) (.keep [0, 4, 5, 12] (.cond (y 12) .skip (.exit 0)))) (.keep [0, 4, 5] (.seq (.block 1 (.region [
 o1 15 (.mv (y 4)),
 o1 16 (.bin .mul (y 15) (.const (.int .u32 16777619))),
 o1 17 (.mv (y 0)),
 o1 18 (.mv (y 5)),
 o1 19 (.idxS (y 17) (y 18)),
 o1 20 (.conv (.int .u32) (y 19)),
 o1 21 (.bin .add (y 16) (y 20)),
 o1 4 (.mv (y 21))])) (.keep [0, 4, 5] (.region [
 o1 13 (.mv (y 5)),
 o1 14 (.bin .add (y 13) (.const (.int .i64 1))),
 o1 5 (.mv (y 14))]))))))))) (.keep [0, 4] (.seq (.region [
 o1 6 (.mv (.const (.int .u32 1))),
 o1 7 (.mv (.const (.int .u32 16777619)))]) (.keep [0, 4, 6, 7] (.seq (.seq (.region [
 o1 22 (.mv (y 0)),
 o1 23 (.len true (y 22)),
 o1 8 (.mv (y 23))]) (.keep [4, 6, 7, 8] (.block 2 (.loop [4, 6, 7, 8] (.seq (.seq (.region [
 o1 24 (.mv (y 8)),
 o1 25 (.bin .gtr (y 24) (.const (.int .i64 0)))]) (.keep [4, 6, 7, 8, 25] (.cond (y 25) .skip (.exit 2)))) (.keep [4, 6, 7, 8] (.seq (.block 3 (.seq (.seq (.region [
 o1 28 (.mv (y 8)),
 o1 29 (.bin .and (y 28) (.const (.int .i64 1))),
 o1 30 (.bin .neq (y 29) (.const (.int .i64 0)))]) (.keep [4, 6, 7, 8, 30] (.cond (y 30) (.region [
 o1 31 (.mv (y 6)),
 o1 32 (.mv (y 7)),
 o1 33 (.bin .mul (y 31) (y 32)),
 o1 6 (.mv (y 33))]) .skip))) (.keep [4, 6, 7, 8] (.region [
 o1 34 (.mv (y 7)),
 o1 35 (.mv (y 7)),
 o1 36 (.bin .mul (y 34) (y 35)),
 o1 7 (.mv (y 36))])))) (.keep [4, 6, 7, 8] (.region [
 o1 26 (.mv (y 8)),
 o1 27 (.bin .shr (y 26) (.const (.int .u64 1))),
 o1 8 (.mv (y 27))]))))))))) (.keep [4, 6] (.seq (.region [
 o1 37 (.mv (y 4)),
 o1 38 (.mv (y 6)),
 o1 2 (.mv (y 37)),
 o1 3 (.mv (y 38))]) .ret))))))))))), [.tmp 2, .tmp 3]⟩
def F123_7 : ICode := .region [
 o1 21 (.mv (y 0)),
 o1 22 (.call .pure (.func 2) [y 21, (.const (.int .i64 30))]),
 o1 23 (.un .not (y 22)),
 o1 24 (.mv (y 23)),
 ⟨(some 25), (some (24, false)), .mv (y 1)⟩,
 ⟨(some 26), (some (24, false)), .len false (y 25)⟩,
 ⟨(some 27), (some (24, false)), .bin .lss (y 26) (.const (.int .i64 1))⟩,
 o1 28 (.pick (y 24) (.const (.bool true)) (y 27)),
 o1 29 (.mv (y 28)),
 ⟨(some 30), (some (29, false)), .mv (y 1)⟩,
 ⟨(some 31), (some (29, false)), .len false (y 30)⟩,
 ⟨(some 32), (some (29, false)), .bin .gtr (y 31) (.const (.int .i64 20))⟩,
 o1 33 (.pick (y 29) (.const (.bool true)) (y 32)),
 o1 34 (.mv (y 33)),
 ⟨(some 35), (some (34, false)), .mv (y 3)⟩,
 ⟨(some 36), (some (34, false)), .call .pure (.func 18) [y 35]⟩,
 ⟨(some 37), (some (34, false)), .call .pure (.func 25) [y 36]⟩,
 ⟨(some 38), (some (34, false)), .un .not (y 37)⟩,
 o1 39 (.pick (y 34) (.const (.bool true)) (y 38)),
 o1 40 (.mv (y 39)),
 ⟨(some 41), (some (40, false)), .mv (y 3)⟩,
 ⟨(some 42), (some (40, false)), .len true (y 41)⟩,
 ⟨(some 43), (some (40, false)), .bin .gtr (y 42) (.const (.int .i64 50))⟩,
 o1 44 (.pick (y 40) (.const (.bool true)) (y 43)),
 o1 45 (.mv (y 44)),
 ⟨(some 46), (some (45, false)), .mv (y 2)⟩,
 ⟨(some 47), (some (45, false)), .len true (y 46)⟩,
 ⟨(some 48), (some (45, false)), .bin .gtr (y 47) (.const (.int .i64 200))⟩,
 o1 49 (.pick (y 45) (.const (.bool true)) (y 48)),
 o1 50 (.mv (y 49)),
 ⟨(some 51), (some (50, false)), .mv (y 2)⟩,
 ⟨(some 52), (some (50, false)), .call .pure (.func 18) [y 51]⟩,
 ⟨(some 53), (some (50, false)), .call .pure (.func 25) [y 52]⟩,
 ⟨(some 54), (some (50, false)), .un .not (y 53)⟩,
 o1 55 (.pick (y 50) (.const (.bool true)) (y 54))]
def F123_10 : ICode := .cond (y 55) (.seq (.region [
 o1 10 (.mv (.const (.bool true)))]) .ret) .skip
def F123_11 : ICode := .keep [0, 1, 2, 3, 4, 55] F123_10
def F123_12 : ICode := .seq F123_7 F123_11
def F123_17 : ICode := .seq (.region [
 o1 56 (.mv (y 11)),
 o1 57 (.mv (y 1)),
 o1 58 (.len false (y 57)),
 o1 59 (.bin .lss (y 56) (y 58))]) (.keep [0, 1, 2, 3, 4, 11, 59] (.cond (y 59) .skip (.exit 0)))
def F123_22 : ICode := .seq (.region [
 o1 62 (.mv (y 12)),
 o1 63 (.mv (y 11)),
 o1 64 (.bin .lss (y 62) (y 63))]) (.keep [0, 1, 2, 3, 4, 11, 12, 64] (.cond (y 64) .skip (.exit 2)))
def F123_33 : ICode := .keep [0, 1, 2, 3, 4, 11, 12] (.seq (.block 3 (.seq (.region [
 o1 67 (.mv (y 1)),
 o1 68 (.mv (y 11)),
 o1 69 (.idxA 1 none (y 67) (y 68)),
 o1 70 (.load none (y 69)),
 o1 71 (.mv (y 1)),
 o1 72 (.mv (y 12)),
 o1 73 (.idxA 1 none (y 71) (y 72)),
 o1 74 (.load none (y 73)),
 o1 75 (.bin .eql (y 70) (y 74))]) (.keep [0, 1, 2, 3, 4, 11, 12, 75] (.cond (y 75) (.seq (.region [
 o1 10 (.mv (.const (.bool true)))]) .ret) .skip)))) (.keep [0, 1, 2, 3, 4, 11, 12] (.region [
 o1 65 (.mv (y 12)),
 o1 66 (.bin .add (y 65) (.const (.int .i64 1))),
 o1 12 (.mv (y 66))])))
def F123_34 : ICode := .seq F123_22 F123_33
def F123_51 : ICode := .keep [0, 1, 2, 3, 4, 11] (.seq (.block 1 (.seq (.seq (.region [
 o1 12 (.mv (.const (.int .i64 0)))]) (.keep [0, 1, 2, 3, 4, 11, 12] (.block 2 (.loop [0, 1, 2, 3, 4, 11, 12] F123_34)))) (.keep [0, 1, 2, 3, 4, 11] (.seq (.region [
 o1 76 (.mv (y 1)),
 o1 77 (.mv (y 11)),
 o1 78 (.idxA 1 none (y 76) (y 77)),
 o1 79 (.load none (y 78)),
 o1 80 (.call .pure (.func 124) [y 79]),
 o1 81 (.un .not (y 80))]) (.keep [0, 1, 2, 3, 4, 11, 81] (.cond (y 81) (.seq (.region [
 o1 10 (.mv (.const (.bool true)))]) .ret) .skip)))))) (.keep [0, 1, 2, 3, 4, 11] (.region [
 o1 60 (.mv (y 11)),
 o1 61 (.bin .add (y 60) (.const (.int .i64 1))),
 o1 11 (.mv (y 61))])))
def F123_52 : ICode := .seq F123_17 F123_51
def F123_63 : ICode := .region [
 o1 87 (.mv (y 0)),
 o1 88 (.mv (y 1)),
 o1 89 (.mv (y 2)),
 o1 90 (.mv (y 2)),
 o1 91 (.mv (y 3)),
 o1 92 (.mv (y 13)),
 o1 93 (.call .pure (.func 116) [y 87, y 88, (.const (.str [33, 114, 58, 97, 46, 111, 114, 103])), y 89, y 90, y 91, y 92]),
 o1 14 (.new [.int .i64 0, .int .i64 0, .str [], .nils, .nils, .str [], .str [], .str [], .str [], .str [], .bool false, .int .i64 0, .int .i64 0, .nils, .nils, .int .i64 0, .int .i64 0, .str [], .nils, .nils]),
 o0 (.store 20 (y 14) (y 93))]
def F123_68 : ICode := .seq (.region [
 o1 94 (.mv (y 15)),
 o1 95 (.fieldA 14 (y 14)),
 o1 96 (.load none (y 95)),
 o1 97 (.len false (y 96)),
 o1 98 (.bin .lss (y 94) (y 97))]) (.keep [2, 3, 14, 15, 98] (.cond (y 98) .skip (.exit 4)))
def F123_73 : ICode := .seq (.region [
 o1 101 (.mv (y 16)),
 o1 102 (.mv (y 15)),
 o1 103 (.bin .lss (y 101) (y 102))]) (.keep [2, 3, 14, 15, 16, 103] (.cond (y 103) .skip (.exit 6)))
def F123_84 : ICode := .keep [2, 3, 14, 15, 16] (.seq (.block 7 (.seq (.region [
 o1 106 (.fieldA 14 (y 14)),
 o1 107 (.load none (y 106)),
 o1 108 (.mv (y 15)),
 o1 109 (.idxA 1 none (y 107) (y 108)),
 o1 110 (.load none (y 109)),
 o1 111 (.fieldA 14 (y 14)),
 o1 112 (.load none (y 111)),
 o1 113 (.mv (y 16)),
 o1 114 (.idxA 1 none (y 112) (y 113)),
 o1 115 (.load none (y 114)),
 o1 116 (.bin .eql (y 110) (y 115))]) (.keep [2, 3, 14, 15, 16, 116] (.cond (y 116) (.seq (.region [
 o1 10 (.mv (.const (.bool true)))]) .ret) .skip)))) (.keep [2, 3, 14, 15, 16] (.region [
 o1 104 (.mv (y 16)),
 o1 105 (.bin .add (y 104) (.const (.int .i64 1))),
 o1 16 (.mv (y 105))])))
def F123_85 : ICode := .seq F123_73 F123_84
def F123_102 : ICode := .keep [2, 3, 14, 15] (.seq (.block 5 (.seq (.seq (.region [
 o1 16 (.mv (.const (.int .i64 0)))]) (.keep [2, 3, 14, 15, 16] (.block 6 (.loop [2, 3, 14, 15, 16] F123_85)))) (.keep [2, 3, 14, 15] (.seq (.region [
 o1 117 (.fieldA 14 (y 14)),
 o1 118 (.load none (y 117)),
 o1 119 (.mv (y 15)),
 o1 120 (.idxA 1 none (y 118) (y 119)),
 o1 121 (.load none (y 120)),
 o1 122 (.call .pure (.func 124) [y 121]),
 o1 123 (.un .not (y 122))]) (.keep [2, 3, 14, 15, 123] (.cond (y 123) (.seq (.region [
 o1 10 (.mv (.const (.bool true)))]) .ret) .skip)))))) (.keep [2, 3, 14, 15] (.region [
 o1 99 (.mv (y 15)),
 o1 100 (.bin .add (y 99) (.const (.int .i64 1))),
 o1 15 (.mv (y 100))])))
def F123_103 : ICode := .seq F123_68 F123_102
def F123_120 : ICode := .seq (.region [
 o1 125 (.load (some 20) (y 14)),
 o1 126 (.call .pure (.func 118) [y 125]),
 o1 127 (.mv (y 2)),
 o1 128 (.mv (y 3)),
 o1 129 (.call .pure (.func 121) [y 126, (.const (.str [33, 114, 58, 97, 46, 111, 114, 103])), y 127, y 128, (.const (.str [97, 46, 111, 114, 103]))]),
 o1 124 (.mv (y 129)),
 o1 130 (.extract (y 124) 0),
 o1 131 (.extract (y 124) 1),
 o1 17 (.new [.int .i64 0, .int .i64 0, .str [], .nils, .nils, .str [], .str [], .str [], .str [], .str [], .bool false, .int .i64 0, .int .i64 0, .nils, .nils, .int .i64 0, .int .i64 0, .str [], .nils, .nils]),
 o0 (.store 20 (y 17) (y 130)),
 o1 18 (.mv (y 131))]) (.keep [14, 17, 18] (.seq (.seq (.region [
 o1 132 (.fieldA 14 (y 14)),
 o1 133 (.load none (y 132)),
 o1 134 (.len false (y 133)),
 o1 135 (.bin .eql (y 134) (.const (.int .i64 0)))]) (.keep [14, 17, 18, 135] (.cond (y 135) (.seq (.region [
 o1 136 (.mv (y 18)),
 o1 137 (.bin .eql (y 136) (.const (.int .i64 19))),
 o1 10 (.mv (y 137))]) .ret) .skip))) (.keep [14, 17, 18] (.seq (.region [
 o1 138 (.mv (y 18)),
 o1 139 (.bin .eql (y 138) (.const (.int .i64 0))),
 o1 140 (.mv (y 139)),
 ⟨(some 141), (some (140, true)), .load (some 20) (y 17)⟩,
 ⟨(some 142), (some (140, true)), .load (some 20) (y 14)⟩,
 ⟨(some 143), (some (140, true)), .call .pure (.func 11) [y 141, y 142]⟩,
 o1 144 (.pick (y 140) (y 143) (.const (.bool false))),
 o1 10 (.mv (y 144))]) .ret))))
def F123_121 : ICode := .keep [2, 3, 14] F123_120
def F123_123 : ICode := .keep [2, 3, 14] (.seq (.seq (.region [
 o1 15 (.mv (.const (.int .i64 0)))]) (.keep [2, 3, 14, 15] (.block 4 (.loop [2, 3, 14, 15] F123_103)))) F123_121)
def F123_124 : ICode := .seq F123_63 F123_123
def F123_130 : ICode := .seq (.seq (.region [
 o1 11 (.mv (.const (.int .i64 0)))]) (.keep [0, 1, 2, 3, 4, 11] (.block 0 (.loop [0, 1, 2, 3, 4, 11] F123_52)))) (.keep [0, 1, 2, 3, 4] (.seq (.region [
 o1 13 (.mv (.const (.str [])))]) (.keep [0, 1, 2, 3, 4, 13] (.seq (.seq (.region [
 o1 82 (.mv (y 4)),
 o1 83 (.mv (y 82)),
 ⟨(some 84), (some (83, true)), .mv (y 3)⟩,
 ⟨(some 85), (some (83, true)), .bin .eql (y 84) (.const (.str [106, 111, 105, 110]))⟩,
 o1 86 (.pick (y 83) (y 85) (.const (.bool false)))]) (.keep [0, 1, 2, 3, 13, 86] (.cond (y 86) (.region [
 o1 13 (.mv (.const (.str [64, 117, 58, 97, 46, 111, 114, 103])))]) .skip))) (.keep [0, 1, 2, 3, 13] F123_124)))))
def F123_131 : ICode := .keep [0, 1, 2, 3, 4] F123_130
/-- introit/introitlaw27.TmplBack -/
def F123 : IFunc := ⟨(.seq (.region [
 o1 10 (.mv (.const (.bool false)))]) (.keep [0, 1, 2, 3, 4] (.seq (.seq (.region [
 o1 19 (.call .pure (.func 115) []),
 o1 20 (.un .not (y 19))]) (.keep [0, 1, 2, 3, 4, 20] (.cond (y 20) (.seq (.region [
 o1 10 (.mv (.const (.bool false)))]) .ret) .skip))) (.keep [0, 1, 2, 3, 4] (.seq F123_12 F123_131))))), [.tmp 10]⟩
/-- introit/introitlaw27.awake -/
def F115 : IFunc := ⟨(.seq (.region [
 o1 0 (.mv (.const (.bool false)))]) (.keep [] (.seq (.region [
 o1 5 (.build [.int .i64 0, .int .i64 0, .str [], .nils, .nils, .str [], .str [], .str [], .str [], .str [], .bool false, .int .i64 0, .int .i64 0, .nils, .nils, .int .i64 0, .int .i64 0, .str [], .nils, .nils] [(5, 1, (.const (.str [36, 65, 65, 65, 65, 65, 65, 65, 65, 65, 65, 65, 65, 65, 65, 65, 65, 65, 65, 65, 65, 65, 65, 65, 65, 65, 65, 65, 65, 65, 65, 65, 65, 65, 65, 65, 65, 65, 65, 65, 65, 65, 65, 65]))), (7, 1, (.const (.str [109, 46, 114, 111, 111, 109, 46, 99, 114, 101, 97, 116, 101]))), (10, 1, (.const (.bool true))), (12, 1, (.const (.int .i64 3)))]),
 o1 6 (.buildSl false 20 1 [.int .i64 0, .int .i64 0, .str [], .nils, .nils, .str [], .str [], .str [], .str [], .str [], .bool false, .int .i64 0, .int .i64 0, .nils, .nils, .int .i64 0, .int .i64 0, .str [], .nils, .nils] [(0, (y 5))]),
 o1 1 (.mv (y 6))]) (.keep [1] (.seq (.region [
 o1 7 (.mv (y 1)),
 o1 8 (.mv (y 1)),
 o1 9 (.idxA 20 none (y 8) (.const (.int .i64 0))),
 o1 10 (.fieldA 5 (y 9)),
 o1 11 (.load none (y 10)),
 o1 12 (.buildSl false 1 1 [.str []] [(0, (y 11))]),
 o1 13 (.call .pure (.func 116) [y 7, y 12, (.const (.str [33, 114, 58, 97, 46, 111, 114, 103])), (.const (.str [64, 98, 111, 98, 58, 98, 46, 111, 114, 103])), (.const (.str [64, 98, 111, 98, 58, 98, 46, 111, 114, 103])), (.const (.str [106, 111, 105, 110])), (.const (.str []))]),
 o1 2 (.new [.int .i64 0, .int .i64 0, .str [], .nils, .nils, .str [], .str [], .str [], .str [], .str [], .bool false, .int .i64 0, .int .i64 0, .nils, .nils, .int .i64 0, .int .i64 0, .str [], .nils, .nils]),
 o0 (.store 20 (y 2) (y 13))]) (.keep [2] (.seq (.region [
 o1 15 (.load (some 20) (y 2)),
 o1 16 (.call .pure (.func 118) [y 15]),
 o1 17 (.call .pure (.func 121) [y 16, (.const (.str [33, 114, 58, 97, 46, 111, 114, 103])), (.const (.str [64, 98, 111, 98, 58, 98, 46, 111, 114, 103])), (.const (.str [106, 111, 105, 110])), (.const (.str [97, 46, 111, 114, 103]))]),
 o1 14 (.mv (y 17)),
 o1 18 (.extract (y 14) 0),
 o1 19 (.extract (y 14) 1),
 o1 3 (.new [.int .i64 0, .int .i64 0, .str [], .nils, .nils, .str [], .str [], .str [], .str [], .str [], .bool false, .int .i64 0, .int .i64 0, .nils, .nils, .int .i64 0, .int .i64 0, .str [], .nils, .nils]),
 o0 (.store 20 (y 3) (y 18)),
 o1 4 (.mv (y 19))]) (.keep [2, 3, 4] (.seq (.region [
 o1 20 (.fieldA 12 (y 2)),
 o1 21 (.load none (y 20)),
 o1 22 (.bin .eql (y 21) (.const (.int .i64 4))),
 o1 23 (.mv (y 22)),
 ⟨(some 24), (some (23, true)), .fieldA 14 (y 2)⟩,
 ⟨(some 25), (some (23, true)), .load none (y 24)⟩,
 ⟨(some 26), (some (23, true)), .len false (y 25)⟩,
 ⟨(some 27), (some (23, true)), .bin .eql (y 26) (.const (.int .i64 1))⟩,
 o1 28 (.pick (y 23) (y 27) (.const (.bool false))),
 o1 29 (.mv (y 28)),
 ⟨(some 30), (some (29, true)), .mv (y 4)⟩,
 ⟨(some 31), (some (29, true)), .bin .eql (y 30) (.const (.int .i64 0))⟩,
 o1 32 (.pick (y 29) (y 31) (.const (.bool false))),
 o1 33 (.mv (y 32)),
 ⟨(some 34), (some (33, true)), .load (some 20) (y 3)⟩,
 ⟨(some 35), (some (33, true)), .load (some 20) (y 2)⟩,
 ⟨(some 36), (some (33, true)), .call .pure (.func 11) [y 34, y 35]⟩,
 o1 37 (.pick (y 33) (y 36) (.const (.bool false))),
 o1 0 (.mv (y 37))]) .ret))))))))), [.tmp 0]⟩
/-- introit/tmpl.Draft -/
def F116 : IFunc := ⟨(.seq (.region [
 o1 14 (.new [.int .i64 0, .int .i64 0, .str [], .nils, .nils, .str [], .str [], .str [], .str [], .str [], .bool false, .int .i64 0, .int .i64 0, .nils, .nils, .int .i64 0, .int .i64 0, .str [], .nils, .nils])]) (.keep [0, 1, 2, 3, 4, 5, 6, 14] (.seq (.region [
 o1 16 (.mv (y 2)),
 o1 17 (.mv (y 3)),
 o1 18 (.mv (y 4)),
 o1 19 (.mv (y 0)),
 o1 20 (.call .pure (.func 125) [y 19]),
 o1 21 (.mv (y 1)),
 o1 22 (.call .splitS (.func 66) [y 21]),
 o1 23 (.mv (y 5)),
 o1 24 (.mv (y 6)),
 o1 25 (.call .pure (.func 126) [y 23, y 24]),
 o1 26 (.build [.int .i64 0, .int .i64 0, .str [], .nils, .nils, .str [], .str [], .str [], .str [], .str [], .bool false, .int .i64 0, .int .i64 0, .nils, .nils, .int .i64 0, .int .i64 0, .str [], .nils, .nils] [(6, 1, (y 16)), (7, 1, (.const (.str [109, 46, 114, 111, 111, 109, 46, 109, 101, 109, 98, 101, 114]))), (8, 1, (y 17)), (9, 1, (y 18)), (10, 1, (.const (.bool true))), (12, 1, (y 20)), (13, 1, (y 22)), (15, 5, (y 25))]),
 o1 15 (.new [.int .i64 0, .int .i64 0, .str [], .nils, .nils, .str [], .str [], .str [], .str [], .str [], .bool false, .int .i64 0, .int .i64 0, .nils, .nils, .int .i64 0, .int .i64 0, .str [], .nils, .nils]),
 o0 (.store 20 (y 15) (y 26))]) (.keep [0, 14, 15] (.seq (.region [
 o1 27 (.mv (y 0)),
 o1 28 (.load (some 20) (y 15)),
 o1 29 (.call .pure (.func 8) [y 27, y 28]),
 o1 30 (.fieldA 14 (y 15)),
 o0 (.store 1 (y 30) (y 29))]) (.keep [14, 15] (.seq (.region [
 o1 31 (.load (some 20) (y 15)),
 o0 (.store 20 (y 14) (y 31))]) .ret))))))), [.cell 14 (some 20)]⟩
/-- introit/tmpl.Reply -/
def F118 : IFunc := ⟨(.seq (.region [
 o1 1 (.boxV (y 0)),
 o1 2 (.new [.int .i64 0, .int .i64 0, .str [], .nils, .nils])]) (.keep [1, 2] (.seq (.region [
 o1 3 (.loadV (some 20) (y 1)),
 o1 4 (.call .pure (.func 130) [y 3]),
 o1 5 (.buildSl false 1 1 [.str []] [(0, (.const (.str [111, 114, 105, 103, 105, 110, 95, 115, 101, 114, 118, 101, 114, 95, 116, 115])))]),
 o1 6 (.call .pure (.func 131) [y 4, y 5]),
 o1 7 (.build [.str [], .int .i64 0, .int .i64 0, .str [], .nils, .nils] [(0, 1, (.const (.str [101, 118, 101, 110, 116]))), (1, 5, (y 6))]),
 o1 8 (.call .pure (.func 18) [(.const (.str [49, 48]))]),
 o1 9 (.build [.str [], .int .i64 0, .int .i64 0, .str [], .nils, .nils] [(0, 1, (.const (.str [114, 111, 111, 109, 95, 118, 101, 114, 115, 105, 111, 110]))), (1, 5, (y 8))]),
 o1 10 (.buildSl false 6 2 [.str [], .int .i64 0, .int .i64 0, .str [], .nils, .nils] [(0, (y 7)), (1, (y 9))]),
 o1 11 (.call .pure (.func 20) [y 10]),
 o0 (.store 5 (y 2) (y 11))]) .ret))), [.cell 2 (some 5)]⟩
def F121_23 : ICode := .region [
 o1 81 (.mv (y 15)),
 o1 82 (.un .not (y 81)),
 o1 83 (.mv (y 82)),
 ⟨(some 84), (some (83, false)), .mv (y 17)⟩,
 ⟨(some 85), (some (83, false)), .un .not (y 84)⟩,
 o1 86 (.pick (y 83) (.const (.bool true)) (y 85)),
 o1 87 (.mv (y 86)),
 ⟨(some 88), (some (87, false)), .mv (y 19)⟩,
 ⟨(some 89), (some (87, false)), .un .not (y 88)⟩,
 o1 90 (.pick (y 87) (.const (.bool true)) (y 89)),
 o1 91 (.mv (y 90)),
 ⟨(some 92), (some (91, false)), .mv (y 21)⟩,
 ⟨(some 93), (some (91, false)), .un .not (y 92)⟩,
 o1 94 (.pick (y 91) (.const (.bool true)) (y 93)),
 o1 95 (.mv (y 94)),
 ⟨(some 96), (some (95, false)), .mv (y 23)⟩,
 ⟨(some 97), (some (95, false)), .un .not (y 96)⟩,
 o1 98 (.pick (y 95) (.const (.bool true)) (y 97)),
 o1 99 (.mv (y 98)),
 ⟨(some 100), (some (99, false)), .mv (y 25)⟩,
 ⟨(some 101), (some (99, false)), .un .not (y 100)⟩,
 o1 102 (.pick (y 99) (.const (.bool true)) (y 101)),
 o1 103 (.mv (y 102)),
 ⟨(some 104), (some (103, false)), .mv (y 24)⟩,
 ⟨(some 105), (some (103, false)), .bin .lss (y 104) (.const (.int .i64 0))⟩,
 o1 106 (.pick (y 103) (.const (.bool true)) (y 105)),
 o1 107 (.mv (y 106)),
 ⟨(some 108), (some (107, false)), .mv (y 26)⟩,
 ⟨(some 109), (some (107, false)), .call .pure (y 108) [(.const (.str [116, 121, 112, 101])), (.const (.str [109, 46, 114, 111, 111, 109, 46, 109, 101, 109, 98, 101, 114]))]⟩,
 ⟨(some 110), (some (107, false)), .un .not (y 109)⟩,
 o1 111 (.pick (y 107) (.const (.bool true)) (y 110)),
 o1 112 (.mv (y 111)),
 ⟨(some 113), (some (112, false)), .mv (y 26)⟩,
 ⟨(some 114), (some (112, false)), .mv (y 1)⟩,
 ⟨(some 115), (some (112, false)), .call .pure (y 113) [(.const (.str [114, 111, 111, 109, 95, 105, 100])), y 114]⟩,
 ⟨(some 116), (some (112, false)), .un .not (y 115)⟩,
 o1 117 (.pick (y 112) (.const (.bool true)) (y 116)),
 o1 118 (.mv (y 117)),
 ⟨(some 119), (some (118, false)), .mv (y 26)⟩,
 ⟨(some 120), (some (118, false)), .mv (y 2)⟩,
 ⟨(some 121), (some (118, false)), .call .pure (y 119) [(.const (.str [115, 101, 110, 100, 101, 114])), y 120]⟩,
 ⟨(some 122), (some (118, false)), .un .not (y 121)⟩,
 o1 123 (.pick (y 118) (.const (.bool true)) (y 122)),
 o1 124 (.mv (y 123)),
 ⟨(some 125), (some (124, false)), .mv (y 26)⟩,
 ⟨(some 126), (some (124, false)), .mv (y 2)⟩,
 ⟨(some 127), (some (124, false)), .call .pure (y 125) [(.const (.str [115, 116, 97, 116, 101, 95, 107, 101, 121])), y 126]⟩,
 ⟨(some 128), (some (124, false)), .un .not (y 127)⟩,
 o1 129 (.pick (y 124) (.const (.bool true)) (y 128)),
 o1 130 (.mv (y 129)),
 ⟨(some 131), (some (130, false)), .load (some 5) (y 16)⟩,
 ⟨(some 132), (some (130, false)), .mv (y 3)⟩,
 ⟨(some 133), (some (130, false)), .call .pure (.func 134) [y 131, (.const (.str [109, 101, 109, 98, 101, 114, 115, 104, 105, 112])), y 132]⟩,
 ⟨(some 134), (some (130, false)), .un .not (y 133)⟩,
 o1 135 (.pick (y 130) (.const (.bool true)) (y 134))]
def F121_26 : ICode := .cond (y 135) (.seq (.region [
 o1 136 (.build [.int .i64 0, .int .i64 0, .str [], .nils, .nils, .str [], .str [], .str [], .str [], .str [], .bool false, .int .i64 0, .int .i64 0, .nils, .nils, .int .i64 0, .int .i64 0, .str [], .nils, .nils] []),
 o0 (.store 20 (y 10) (y 136)),
 o1 11 (.mv (.const (.int .i64 19)))]) .ret) .skip
def F121_28 : ICode := .seq F121_23 (.keep [1, 2, 3, 10, 18, 20, 22, 24, 135] F121_26)
def F121_31 : ICode := .keep [1, 2, 3, 10, 18, 20, 22, 24] (.seq (.region [
 o1 137 (.mv (y 1)),
 o1 138 (.mv (y 2)),
 o1 139 (.mv (y 2)),
 o1 140 (.mv (y 24)),
 o1 141 (.mv (y 20)),
 o1 142 (.mv (y 22)),
 o1 143 (.mv (y 3)),
 o1 144 (.mv (y 18)),
 o1 145 (.call .pure (.func 126) [y 143, y 144]),
 o1 146 (.build [.int .i64 0, .int .i64 0, .str [], .nils, .nils, .str [], .str [], .str [], .str [], .str [], .bool false, .int .i64 0, .int .i64 0, .nils, .nils, .int .i64 0, .int .i64 0, .str [], .nils, .nils] [(6, 1, (y 137)), (7, 1, (.const (.str [109, 46, 114, 111, 111, 109, 46, 109, 101, 109, 98, 101, 114]))), (8, 1, (y 138)), (9, 1, (y 139)), (10, 1, (.const (.bool true))), (12, 1, (y 140)), (13, 1, (y 141)), (14, 1, (y 142)), (15, 5, (y 145))]),
 o0 (.store 20 (y 10) (y 146)),
 o1 11 (.mv (.const (.int .i64 0)))]) .ret)
def F121_32 : ICode := .seq F121_28 F121_31
/-- introit/tmpl.Take -/
def F121 : IFunc := ⟨(.seq (.region [
 o1 5 (.boxV (y 0)),
 o1 10 (.new [.int .i64 0, .int .i64 0, .str [], .nils, .nils, .str [], .str [], .str [], .str [], .str [], .bool false, .int .i64 0, .int .i64 0, .nils, .nils, .int .i64 0, .int .i64 0, .str [], .nils, .nils]),
 o1 11 (.mv (.const (.int .i64 0)))]) (.keep [1, 2, 3, 4, 5, 10] (.seq (.region [
 o1 27 (.loadV (some 5) (y 5)),
 o1 28 (.build [.int .i64 0, .int .i64 0, .str [], .nils, .nils] [(0, 5, (y 27))]),
 o1 12 (.new [.int .i64 0, .int .i64 0, .str [], .nils, .nils]),
 o0 (.store 5 (y 12) (y 28))]) (.keep [1, 2, 3, 4, 5, 10, 12] (.seq (.region [
 o1 29 (.load (some 5) (y 12)),
 o1 30 (.mkfn 134 [y 29] []),
 o1 13 (.mv (y 30))]) (.keep [1, 2, 3, 4, 5, 10, 12, 13] (.seq (.block 0 (.seq (.region [
 o1 32 (.loadV (some 5) (y 5)),
 o1 33 (.call .pure (.func 25) [y 32]),
 o1 34 (.un .not (y 33)),
 o1 35 (.mv (y 34)),
 ⟨(some 36), (some (35, false)), .fieldA 0 (y 5)⟩,
 ⟨(some 37), (some (35, false)), .loadV none (y 36)⟩,
 ⟨(some 38), (some (35, false)), .bin .neq (y 37) (.const (.int .i64 5))⟩,
 o1 39 (.pick (y 35) (.const (.bool true)) (y 38)),
 o1 31 (.mv (y 39))]) (.keep [1, 2, 3, 4, 10, 12, 13, 31] (.cond (y 31) (.seq (.region [
 o1 40 (.build [.int .i64 0, .int .i64 0, .str [], .nils, .nils, .str [], .str [], .str [], .str [], .str [], .bool false, .int .i64 0, .int .i64 0, .nils, .nils, .int .i64 0, .int .i64 0, .str [], .nils, .nils] []),
 o0 (.store 20 (y 10) (y 40)),
 o1 11 (.mv (.const (.int .i64 1)))]) .ret) (.seq (.region [
 o1 42 (.mv (y 13)),
 o1 43 (.call .pure (y 42) [(.const (.str [114, 111, 111, 109, 95, 118, 101, 114, 115, 105, 111, 110])), (.const (.str [49, 48]))]),
 o1 44 (.un .not (y 43)),
 o1 41 (.mv (y 44))]) (.keep [1, 2, 3, 4, 10, 12, 41] (.cond (y 41) (.seq (.region [
 o1 45 (.build [.int .i64 0, .int .i64 0, .str [], .nils, .nils, .str [], .str [], .str [], .str [], .str [], .bool false, .int .i64 0, .int .i64 0, .nils, .nils, .int .i64 0, .int .i64 0, .str [], .nils, .nils] []),
 o0 (.store 20 (y 10) (y 45)),
 o1 11 (.mv (.const (.int .i64 15)))]) .ret) .skip))))))) (.keep [1, 2, 3, 4, 10, 12] (.seq (.region [
 o1 47 (.load (some 5) (y 12)),
 o1 48 (.call .pure (.func 135) [y 47, (.const (.str [101, 118, 101, 110, 116]))]),
 o1 46 (.mv (y 48)),
 o1 49 (.extract (y 46) 0),
 o1 50 (.extract (y 46) 1),
 o1 14 (.new [.int .i64 0, .int .i64 0, .str [], .nils, .nils]),
 o0 (.store 5 (y 14) (y 49)),
 o1 15 (.mv (y 50))]) (.keep [1, 2, 3, 4, 10, 14, 15] (.seq (.region [
 o1 52 (.load (some 5) (y 14)),
 o1 53 (.call .pure (.func 135) [y 52, (.const (.str [99, 111, 110, 116, 101, 110, 116]))]),
 o1 51 (.mv (y 53)),
 o1 54 (.extract (y 51) 0),
 o1 55 (.extract (y 51) 1),
 o1 16 (.new [.int .i64 0, .int .i64 0, .str [], .nils, .nils]),
 o0 (.store 5 (y 16) (y 54)),
 o1 17 (.mv (y 55))]) (.keep [1, 2, 3, 4, 10, 14, 15, 16, 17] (.seq (.region [
 o1 57 (.load (some 5) (y 16)),
 o1 58 (.mv (y 3)),
 o1 59 (.mv (y 4)),
 o1 60 (.call .pure (.func 136) [y 57, y 58, y 59]),
 o1 56 (.mv (y 60)),
 o1 61 (.extract (y 56) 0),
 o1 62 (.extract (y 56) 1),
 o1 18 (.mv (y 61)),
 o1 19 (.mv (y 62))]) (.keep [1, 2, 3, 10, 14, 15, 16, 17, 18, 19] (.seq (.region [
 o1 64 (.load (some 5) (y 14)),
 o1 65 (.call .pure (.func 137) [y 64, (.const (.str [112, 114, 101, 118, 95, 101, 118, 101, 110, 116, 115])), (.const (.int .i64 20))]),
 o1 63 (.mv (y 65)),
 o1 66 (.extract (y 63) 0),
 o1 67 (.extract (y 63) 1),
 o1 20 (.mv (y 66)),
 o1 21 (.mv (y 67))]) (.keep [1, 2, 3, 10, 14, 15, 16, 17, 18, 19, 20, 21] (.seq (.region [
 o1 69 (.load (some 5) (y 14)),
 o1 70 (.call .pure (.func 137) [y 69, (.const (.str [97, 117, 116, 104, 95, 101, 118, 101, 110, 116, 115])), (.const (.int .i64 10))]),
 o1 68 (.mv (y 70)),
 o1 71 (.extract (y 68) 0),
 o1 72 (.extract (y 68) 1),
 o1 22 (.mv (y 71)),
 o1 23 (.mv (y 72))]) (.keep [1, 2, 3, 10, 14, 15, 16, 17, 18, 19, 20, 21, 22, 23] (.seq (.region [
 o1 74 (.fieldA 0 (y 14)),
 o1 75 (.load (some 5) (y 74)),
 o1 76 (.call .pure (.func 138) [y 75, (.const (.str [100, 101, 112, 116, 104]))]),
 o1 73 (.mv (y 76)),
 o1 77 (.extract (y 73) 0),
 o1 78 (.extract (y 73) 1),
 o1 24 (.mv (y 77)),
 o1 25 (.mv (y 78))]) (.keep [1, 2, 3, 10, 14, 15, 16, 17, 18, 19, 20, 21, 22, 23, 24, 25] (.seq (.region [
 o1 79 (.load (some 5) (y 14)),
 o1 80 (.mkfn 134 [y 79] []),
 o1 26 (.mv (y 80))]) (.keep [1, 2, 3, 10, 15, 16, 17, 18, 19, 20, 21, 22, 23, 24, 25, 26] F121_32)))))))))))))))))))))), [.cell 10 (some 20), .tmp 11]⟩
/-- introit/introitref1.EventID -/
def F124 : IFunc := ⟨(.seq (.region [
 o1 2 (.mv (.const (.bool false)))]) (.keep [0] (.seq (.seq (.region [
 o1 5 (.mv (y 0)),
 o1 6 (.len true (y 5)),
 o1 7 (.bin .neq (y 6) (.const (.int .i64 44))),
 o1 8 (.mv (y 7)),
 ⟨(some 9), (some (8, false)), .mv (y 0)⟩,
 ⟨(some 10), (some (8, false)), .idxS (y 9) (.const (.int .i64 0))⟩,
 ⟨(some 11), (some (8, false)), .bin .neq (y 10) (.const (.int .u8 36))⟩,
 o1 12 (.pick (y 8) (.const (.bool true)) (y 11))]) (.keep [0, 12] (.cond (y 12) (.seq (.region [
 o1 2 (.mv (.const (.bool false)))]) .ret) .skip))) (.keep [0] (.seq (.region [
 o1 14 (.mv (y 0)),
 o1 15 (.sliceS (y 14) (some (.const (.int .i64 1))) none),
 o1 16 (.call .pure (.func 141) [y 15, (.const (.bool true))]),
 o1 13 (.mv (y 16)),
 o1 17 (.extract (y 13) 0),
 o1 18 (.extract (y 13) 1),
 o1 3 (.mv (y 17)),
 o1 4 (.mv (y 18))]) (.keep [3, 4] (.seq (.region [
 o1 19 (.mv (y 4)),
 o1 20 (.bin .eql (y 19) (.const (.int .i64 0))),
 o1 21 (.mv (y 20)),
 ⟨(some 22), (some (21, true)), .mv (y 3)⟩,
 ⟨(some 23), (some (21, true)), .len false (y 22)⟩,
 ⟨(some 24), (some (21, true)), .bin .eql (y 23) (.const (.int .i64 32))⟩,
 o1 25 (.pick (y 21) (y 24) (.const (.bool false))),
 o1 2 (.mv (y 25))]) .ret))))))), [.tmp 2]⟩
def F125_3 : ICode := .region [
 o1 9 (.bin .lss (y 8) (y 7))]
def F125_15 : ICode := .keep [3, 6, 7, 8, 9] (.seq (.cond (y 9) .skip (.exit 0)) (.keep [3, 6, 7, 8] (.seq (.block 1 (.seq (.region [
 o1 10 (.idxA 20 none (y 6) (y 8)),
 o1 11 (.load (some 20) (y 10)),
 o1 5 (.new [.int .i64 0, .int .i64 0, .str [], .nils, .nils, .str [], .str [], .str [], .str [], .str [], .bool false, .int .i64 0, .int .i64 0, .nils, .nils, .int .i64 0, .int .i64 0, .str [], .nils, .nils]),
 o0 (.store 20 (y 5) (y 11))]) (.keep [3, 5, 6, 7, 8] (.region [
 o1 12 (.mv (y 3)),
 o1 13 (.fieldA 12 (y 5)),
 o1 14 (.load none (y 13)),
 o1 15 (.max2 false (y 12) (y 14)),
 o1 3 (.mv (y 15))])))) (.keep [3, 6, 7, 8] (.region [
 o1 16 (.bin .add (y 8) (.const (.int .i64 1))),
 o1 8 (.mv (y 16))])))))
def F125_16 : ICode := .seq F125_3 F125_15
/-- introit/tmpl.Deeper -/
def F125 : IFunc := ⟨(.seq (.region [
 o1 2 (.mv (.const (.int .i64 0)))]) (.keep [0] (.seq (.region [
 o1 3 (.mv (.const (.int .i64 0)))]) (.keep [0, 3] (.seq (.seq (.region [
 o1 6 (.mv (y 0)),
 o1 7 (.len false (y 6)),
 o1 8 (.mv (.const (.int .i64 0)))]) (.keep [3, 6, 7, 8] (.block 0 (.loop [3, 6, 7, 8] F125_16)))) (.keep [3] (.seq (.seq (.region [
 o1 17 (.mv (y 3)),
 o1 18 (.bin .geq (y 17) (.const (.int .i64 9007199254740991)))]) (.keep [3, 18] (.cond (y 18) (.seq (.region [
 o1 2 (.mv (.const (.int .i64 9007199254740991)))]) .ret) .skip))) (.keep [3] (.seq (.region [
 o1 19 (.mv (y 3)),
 o1 20 (.bin .add (y 19) (.const (.int .i64 1))),
 o1 2 (.mv (y 20))]) .ret))))))))), [.tmp 2]⟩
/-- introit/tmpl.content -/
def F126 : IFunc := ⟨(.seq (.region [
 o1 4 (.new [.int .i64 0, .int .i64 0, .str [], .nils, .nils])]) (.keep [0, 1, 4] (.seq (.region [
 o1 6 (.mv (y 0)),
 o1 7 (.call .pure (.func 18) [y 6]),
 o1 8 (.build [.str [], .int .i64 0, .int .i64 0, .str [], .nils, .nils] [(0, 1, (.const (.str [109, 101, 109, 98, 101, 114, 115, 104, 105, 112]))), (1, 5, (y 7))]),
 o1 9 (.buildSl false 6 1 [.str [], .int .i64 0, .int .i64 0, .str [], .nils, .nils] [(0, (y 8))]),
 o1 10 (.call .pure (.func 20) [y 9]),
 o1 5 (.new [.int .i64 0, .int .i64 0, .str [], .nils, .nils]),
 o0 (.store 5 (y 5) (y 10))]) (.keep [1, 4, 5] (.seq (.seq (.region [
 o1 11 (.mv (y 1)),
 o1 12 (.bin .neq (y 11) (.const (.str [])))]) (.keep [1, 4, 5, 12] (.cond (y 12) (.region [
 o1 13 (.load (some 5) (y 5)),
 o1 14 (.mv (y 1)),
 o1 15 (.call .strict (.func 18) [y 14]),
 o1 16 (.call .strict (.func 142) [y 13, (.const (.str [106, 111, 105, 110, 95, 97, 117, 116, 104, 111, 114, 105, 115, 101, 100, 95, 118, 105, 97, 95, 117, 115, 101, 114, 115, 95, 115, 101, 114, 118, 101, 114])), y 15]),
 o0 (.store 5 (y 5) (y 16))]) .skip))) (.keep [4, 5] (.seq (.region [
 o1 17 (.load (some 5) (y 5)),
 o0 (.store 5 (y 4) (y 17))]) .ret))))))), [.cell 4 (some 5)]⟩
/-- introit/value.Drop -/
def F131 : IFunc := ⟨(.seq (.region [
 o1 2 (.boxV (y 0)),
 o1 3 (.boxV (y 1)),
 o1 4 (.new [.int .i64 0, .int .i64 0, .str [], .nils, .nils])]) (.keep [2, 3, 4] (.seq (.region [
 o1 5 (.loadV (some 5) (y 2)),
 o1 6 (.mkfn 144 [] [y 3]),
 o1 7 (.call .pure (.func 145) [y 5, y 6]),
 o0 (.store 5 (y 4) (y 7))]) .ret))), [.cell 4 (some 5)]⟩
/-- introit/event.Make -/
def F130 : IFunc := ⟨(.seq (.region [
 o1 1 (.boxV (y 0)),
 o1 2 (.new [.int .i64 0, .int .i64 0, .str [], .nils, .nils])]) (.keep [1, 2] (.seq (.region [
 o1 4 (.fieldA 7 (y 1)),
 o1 5 (.loadV none (y 4)),
 o1 6 (.call .strict (.func 18) [y 5]),
 o1 7 (.build [.str [], .int .i64 0, .int .i64 0, .str [], .nils, .nils] [(0, 1, (.const (.str [116, 121, 112, 101]))), (1, 5, (y 6))]),
 o1 8 (.fieldA 6 (y 1)),
 o1 9 (.loadV none (y 8)),
 o1 10 (.call .strict (.func 18) [y 9]),
 o1 11 (.build [.str [], .int .i64 0, .int .i64 0, .str [], .nils, .nils] [(0, 1, (.const (.str [114, 111, 111, 109, 95, 105, 100]))), (1, 5, (y 10))]),
 o1 12 (.fieldA 8 (y 1)),
 o1 13 (.loadV none (y 12)),
 o1 14 (.call .strict (.func 18) [y 13]),
 o1 15 (.build [.str [], .int .i64 0, .int .i64 0, .str [], .nils, .nils] [(0, 1, (.const (.str [115, 101, 110, 100, 101, 114]))), (1, 5, (y 14))]),
 o1 16 (.fieldA 11 (y 1)),
 o1 17 (.loadV none (y 16)),
 o1 18 (.call .strict (.func 19) [y 17]),
 o1 19 (.build [.str [], .int .i64 0, .int .i64 0, .str [], .nils, .nils] [(0, 1, (.const (.str [111, 114, 105, 103, 105, 110, 95, 115, 101, 114, 118, 101, 114, 95, 116, 115]))), (1, 5, (y 18))]),
 o1 20 (.fieldA 12 (y 1)),
 o1 21 (.loadV none (y 20)),
 o1 22 (.call .strict (.func 19) [y 21]),
 o1 23 (.build [.str [], .int .i64 0, .int .i64 0, .str [], .nils, .nils] [(0, 1, (.const (.str [100, 101, 112, 116, 104]))), (1, 5, (y 22))]),
 o1 24 (.fieldA 13 (y 1)),
 o1 25 (.loadV none (y 24)),
 o1 26 (.call .strict (.func 146) [y 25]),
 o1 27 (.build [.str [], .int .i64 0, .int .i64 0, .str [], .nils, .nils] [(0, 1, (.const (.str [112, 114, 101, 118, 95, 101, 118, 101, 110, 116, 115]))), (1, 5, (y 26))]),
 o1 28 (.fieldA 14 (y 1)),
 o1 29 (.loadV none (y 28)),
 o1 30 (.call .strict (.func 146) [y 29]),
 o1 31 (.build [.str [], .int .i64 0, .int .i64 0, .str [], .nils, .nils] [(0, 1, (.const (.str [97, 117, 116, 104, 95, 101, 118, 101, 110, 116, 115]))), (1, 5, (y 30))]),
 o1 32 (.fieldA 15 (y 1)),
 o1 33 (.loadV (some 5) (y 32)),
 o1 34 (.build [.str [], .int .i64 0, .int .i64 0, .str [], .nils, .nils] [(0, 1, (.const (.str [99, 111, 110, 116, 101, 110, 116]))), (1, 5, (y 33))]),
 o1 35 (.buildSl false 6 8 [.str [], .int .i64 0, .int .i64 0, .str [], .nils, .nils] [(0, (y 7)), (1, (y 11)), (2, (y 15)), (3, (y 19)), (4, (y 23)), (5, (y 27)), (6, (y 31)), (7, (y 34))]),
 o1 3 (.mv (y 35))]) (.keep [1, 2, 3] (.seq (.seq (.region [
 o1 36 (.fieldA 10 (y 1)),
 o1 37 (.loadV none (y 36))]) (.keep [1, 2, 3, 37] (.cond (y 37) (.region [
 o1 38 (.mv (y 3)),
 o1 39 (.fieldA 9 (y 1)),
 o1 40 (.loadV none (y 39)),
 o1 41 (.call .pure (.func 18) [y 40]),
 o1 42 (.build [.str [], .int .i64 0, .int .i64 0, .str [], .nils, .nils] [(0, 1, (.const (.str [115, 116, 97, 116, 101, 95, 107, 101, 121]))), (1, 5, (y 41))]),
 o1 43 (.buildSl false 6 1 [.str [], .int .i64 0, .int .i64 0, .str [], .nils, .nils] [(0, (y 42))]),
 o1 44 (.append 6 96 false (y 38) (y 43)),
 o1 3 (.mv (y 44))]) .skip))) (.keep [2, 3] (.seq (.frz [3] (.region [
 o1 45 (.loadF (some 0) (y 3)),
 o1 46 (.call .pure (.func 20) [y 45]),
 o0 (.store 5 (y 2) (y 46))])) .ret))))))), [.cell 2 (some 5)]⟩
/-- (introit/tmpl.held).is -/
def F134 : IFunc := ⟨(.seq (.region [
 o1 3 (.boxV (y 0)),
 o1 6 (.mv (.const (.bool false)))]) (.keep [1, 2, 3] (.seq (.region [
 o1 10 (.fieldA 0 (y 3)),
 o1 11 (.loadV (some 5) (y 10)),
 o1 12 (.mv (y 1)),
 o1 13 (.call .pure (.func 46) [y 11, y 12]),
 o1 9 (.mv (y 13)),
 o1 14 (.extract (y 9) 0),
 o1 15 (.extract (y 9) 1),
 o1 7 (.mv (y 14)),
 o1 8 (.mv (y 15))]) (.keep [2, 7, 8] (.seq (.region [
 o1 16 (.mv (y 8)),
 o1 17 (.mv (y 16)),
 ⟨(some 18), (some (17, true)), .mv (y 7)⟩,
 ⟨(some 19), (some (17, true)), .mv (y 2)⟩,
 ⟨(some 20), (some (17, true)), .bin .eql (y 18) (y 19)⟩,
 o1 21 (.pick (y 17) (y 20) (.const (.bool false))),
 o1 6 (.mv (y 21))]) .ret))))), [.tmp 6]⟩
/-- (introit/tmpl.held).table -/
def F135 : IFunc := ⟨(.seq (.region [
 o1 2 (.boxV (y 0)),
 o1 4 (.new [.int .i64 0, .int .i64 0, .str [], .nils, .nils]),
 o1 5 (.mv (.const (.bool false)))]) (.keep [1, 2, 4] (.seq (.region [
 o1 9 (.fieldA 0 (y 2)),
 o1 10 (.loadV (some 5) (y 9)),
 o1 11 (.mv (y 1)),
 o1 12 (.call .pure (.func 63) [y 10, y 11]),
 o1 8 (.mv (y 12)),
 o1 13 (.extract (y 8) 0),
 o1 14 (.extract (y 8) 1),
 o1 6 (.new [.int .i64 0, .int .i64 0, .str [], .nils, .nils]),
 o0 (.store 5 (y 6) (y 13)),
 o1 7 (.mv (y 14))]) (.keep [4, 6, 7] (.seq (.frz [6] (.region [
 o1 15 (.loadF (some 5) (y 6)),
 o1 16 (.build [.int .i64 0, .int .i64 0, .str [], .nils, .nils] [(0, 5, (y 15))]),
 o1 17 (.mv (y 7)),
 o1 18 (.mv (y 17)),
 ⟨(some 19), (some (18, true)), .fieldA 0 (y 6)⟩,
 ⟨(some 20), (some (18, true)), .loadF none (y 19)⟩,
 ⟨(some 21), (some (18, true)), .bin .eql (y 20) (.const (.int .i64 5))⟩,
 o1 22 (.pick (y 18) (y 21) (.const (.bool false))),
 o0 (.store 5 (y 4) (y 16)),
 o1 5 (.mv (y 22))])) .ret))))), [.cell 4 (some 5), .tmp 5]⟩
/-- (introit/tmpl.held).by -/
def F136 : IFunc := ⟨(.seq (.region [
 o1 3 (.boxV (y 0)),
 o1 6 (.mv (.const (.str []))),
 o1 7 (.mv (.const (.bool false)))]) (.keep [1, 2, 3] (.seq (.seq (.region [
 o1 16 (.fieldA 0 (y 3)),
 o1 17 (.loadV (some 5) (y 16)),
 o1 18 (.call .pure (.func 63) [y 17, (.const (.str [106, 111, 105, 110, 95, 97, 117, 116, 104, 111, 114, 105, 115, 101, 100, 95, 118, 105, 97, 95, 117, 115, 101, 114, 115, 95, 115, 101, 114, 118, 101, 114]))]),
 o1 15 (.mv (y 18)),
 o1 19 (.extract (y 15) 0),
 o1 20 (.extract (y 15) 1),
 o1 8 (.new [.int .i64 0, .int .i64 0, .str [], .nils, .nils]),
 o0 (.store 5 (y 8) (y 19)),
 o1 9 (.mv (y 20))]) (.keep [1, 2, 3, 9] (.seq (.region [
 o1 21 (.mv (y 9)),
 o1 22 (.un .not (y 21))]) (.keep [1, 2, 3, 22] (.cond (y 22) (.seq (.region [
 o1 6 (.mv (.const (.str []))),
 o1 7 (.mv (.const (.bool true)))]) .ret) .skip))))) (.keep [1, 2, 3] (.seq (.region [
 o1 24 (.fieldA 0 (y 3)),
 o1 25 (.loadV (some 5) (y 24)),
 o1 26 (.call .pure (.func 46) [y 25, (.const (.str [106, 111, 105, 110, 95, 97, 117, 116, 104, 111, 114, 105, 115, 101, 100, 95, 118, 105, 97, 95, 117, 115, 101, 114, 115, 95, 115, 101, 114, 118, 101, 114]))]),
 o1 23 (.mv (y 26)),
 o1 27 (.extract (y 23) 0),
 o1 28 (.extract (y 23) 1),
 o1 10 (.mv (y 27)),
 o1 11 (.mv (y 28))]) (.keep [1, 2, 10] (.seq (.region [
 o1 30 (.mv (y 10)),
 o1 31 (.call .pure (.func 55) [y 30]),
 o1 29 (.mv (y 31)),
 o1 32 (.extract (y 29) 0),
 o1 33 (.extract (y 29) 1),
 o1 34 (.extract (y 29) 2),
 o1 12 (.mv (y 32)),
 o1 13 (.mv (y 33)),
 o1 14 (.mv (y 34))]) (.keep [1, 2, 10, 13, 14] (.seq (.region [
 o1 35 (.mv (y 10)),
 o1 36 (.mv (y 14)),
 o1 37 (.mv (y 36)),
 ⟨(some 38), (some (37, true)), .mv (y 13)⟩,
 ⟨(some 39), (some (37, true)), .mv (y 2)⟩,
 ⟨(some 40), (some (37, true)), .bin .eql (y 38) (y 39)⟩,
 o1 41 (.pick (y 37) (y 40) (.const (.bool false))),
 o1 42 (.mv (y 41)),
 ⟨(some 43), (some (42, true)), .mv (y 1)⟩,
 ⟨(some 44), (some (42, true)), .bin .eql (y 43) (.const (.str [106, 111, 105, 110]))⟩,
 o1 45 (.pick (y 42) (y 44) (.const (.bool false))),
 o1 6 (.mv (y 35)),
 o1 7 (.mv (y 45))]) .ret))))))))), [.tmp 6, .tmp 7]⟩
def F137_4 : ICode := .region [
 o1 24 (.bin .lss (y 23) (y 22))]
def F137_24 : ICode := .keep [2, 8, 10, 21, 22, 23, 24] (.seq (.cond (y 24) .skip (.exit 0)) (.keep [2, 8, 10, 21, 22, 23] (.seq (.block 1 (.seq (.region [
 o1 25 (.idxA 5 none (y 21) (y 23)),
 o1 26 (.load (some 5) (y 25)),
 o1 12 (.new [.int .i64 0, .int .i64 0, .str [], .nils, .nils]),
 o0 (.store 5 (y 12) (y 26))]) (.keep [2, 8, 10, 12, 21, 22, 23] (.seq (.seq (.region [
 o1 27 (.fieldA 0 (y 12)),
 o1 28 (.load none (y 27)),
 o1 29 (.bin .neq (y 28) (.const (.int .i64 3))),
 o1 30 (.mv (y 29)),
 ⟨(some 31), (some (30, false)), .fieldA 2 (y 12)⟩,
 ⟨(some 32), (some (30, false)), .load none (y 31)⟩,
 ⟨(some 33), (some (30, false)), .call .pure (.func 150) [y 32]⟩,
 ⟨(some 34), (some (30, false)), .un .not (y 33)⟩,
 o1 35 (.pick (y 30) (.const (.bool true)) (y 34)),
 o1 36 (.mv (y 35)),
 ⟨(some 37), (some (36, false)), .mv (y 10)⟩,
 ⟨(some 38), (some (36, false)), .fieldA 2 (y 12)⟩,
 ⟨(some 39), (some (36, false)), .load none (y 38)⟩,
 ⟨(some 40), (some (36, false)), .call .pure (.func 45) [y 37, y 39]⟩,
 o1 41 (.pick (y 36) (.const (.bool true)) (y 40))]) (.keep [2, 8, 10, 12, 21, 22, 23, 41] (.cond (y 41) (.seq (.region [
 o1 6 (.mv (.const (.nils))),
 o1 7 (.mv (.const (.bool false)))]) .ret) .skip))) (.keep [2, 8, 10, 12, 21, 22, 23] (.region [
 o1 42 (.mv (y 10)),
 o1 43 (.fieldA 2 (y 12)),
 o1 44 (.load none (y 43)),
 o1 45 (.buildSl false 1 1 [.str []] [(0, (y 44))]),
 o1 46 (.append 1 16 false (y 42) (y 45)),
 o1 10 (.mv (y 46))])))))) (.keep [2, 8, 10, 21, 22, 23] (.region [
 o1 47 (.bin .add (y 23) (.const (.int .i64 1))),
 o1 23 (.mv (y 47))])))))
def F137_25 : ICode := .seq F137_4 F137_24
def F137_31 : ICode := .seq (.region [
 o1 48 (.mv (y 10)),
 o1 49 (.fieldA 0 (y 8)),
 o1 50 (.load none (y 49)),
 o1 51 (.bin .eql (y 50) (.const (.int .i64 4))),
 o1 52 (.mv (y 51)),
 ⟨(some 53), (some (52, true)), .mv (y 10)⟩,
 ⟨(some 54), (some (52, true)), .len false (y 53)⟩,
 ⟨(some 55), (some (52, true)), .bin .geq (y 54) (.const (.int .i64 1))⟩,
 o1 56 (.pick (y 52) (y 55) (.const (.bool false))),
 o1 57 (.mv (y 56)),
 ⟨(some 58), (some (57, true)), .mv (y 10)⟩,
 ⟨(some 59), (some (57, true)), .len false (y 58)⟩,
 ⟨(some 60), (some (57, true)), .mv (y 2)⟩,
 ⟨(some 61), (some (57, true)), .bin .leq (y 59) (y 60)⟩,
 o1 62 (.pick (y 57) (y 61) (.const (.bool false))),
 o1 6 (.mv (y 48)),
 o1 7 (.mv (y 62))]) .ret
def F137_32 : ICode := .keep [2, 8, 10] F137_31
/-- (introit/tmpl.held).events -/
def F137 : IFunc := ⟨(.seq (.region [
 o1 3 (.boxV (y 0)),
 o1 6 (.mv (.const (.nils))),
 o1 7 (.mv (.const (.bool false)))]) (.keep [1, 2, 3] (.seq (.region [
 o1 14 (.fieldA 0 (y 3)),
 o1 15 (.loadV (some 5) (y 14)),
 o1 16 (.mv (y 1)),
 o1 17 (.call .pure (.func 63) [y 15, y 16]),
 o1 13 (.mv (y 17)),
 o1 18 (.extract (y 13) 0),
 o1 19 (.extract (y 13) 1),
 o1 8 (.new [.int .i64 0, .int .i64 0, .str [], .nils, .nils]),
 o0 (.store 5 (y 8) (y 18)),
 o1 9 (.mv (y 19))]) (.keep [2, 8] (.seq (.region [
 o1 10 (.mv (.const (.nils)))]) (.keep [2, 8, 10] (.seq (.seq (.region [
 o1 20 (.fieldA 3 (y 8)),
 o1 21 (.load none (y 20)),
 o1 22 (.len false (y 21)),
 o1 23 (.mv (.const (.int .i64 0)))]) (.keep [2, 8, 10, 21, 22, 23] (.block 0 (.loop [2, 8, 10, 21, 22, 23] F137_25)))) F137_32))))))), [.tmp 6, .tmp 7]⟩
/-- introit/value.IntAt -/
def F138 : IFunc := ⟨(.seq (.region [
 o1 2 (.boxV (y 0)),
 o1 4 (.mv (.const (.int .i64 0))),
 o1 5 (.mv (.const (.bool false)))]) (.keep [1, 2] (.seq (.region [
 o1 9 (.loadV (some 5) (y 2)),
 o1 10 (.mv (y 1)),
 o1 11 (.call .pure (.func 63) [y 9, y 10]),
 o1 8 (.mv (y 11)),
 o1 12 (.extract (y 8) 0),
 o1 13 (.extract (y 8) 1),
 o1 6 (.new [.int .i64 0, .int .i64 0, .str [], .nils, .nils]),
 o0 (.store 5 (y 6) (y 12)),
 o1 7 (.mv (y 13))]) (.keep [6, 7] (.seq (.seq (.region [
 o1 14 (.mv (y 7)),
 o1 15 (.un .not (y 14)),
 o1 16 (.mv (y 15)),
 ⟨(some 17), (some (16, false)), .fieldA 0 (y 6)⟩,
 ⟨(some 18), (some (16, false)), .load none (y 17)⟩,
 ⟨(some 19), (some (16, false)), .bin .neq (y 18) (.const (.int .i64 2))⟩,
 o1 20 (.pick (y 16) (.const (.bool true)) (y 19))]) (.keep [6, 20] (.cond (y 20) (.seq (.region [
 o1 4 (.mv (.const (.int .i64 0))),
 o1 5 (.mv (.const (.bool false)))]) .ret) .skip))) (.keep [6] (.seq (.region [
 o1 21 (.fieldA 1 (y 6)),
 o1 22 (.load none (y 21)),
 o1 4 (.mv (y 22)),
 o1 5 (.mv (.const (.bool true)))]) .ret))))))), [.tmp 4, .tmp 5]⟩
def F141_6 : ICode := .seq (.region [
 o1 16 (.mv (y 7)),
 o1 17 (.mv (y 0)),
 o1 18 (.len true (y 17)),
 o1 19 (.bin .lss (y 16) (y 18))]) (.keep [0, 1, 6, 7, 19] (.cond (y 19) .skip (.exit 0)))
def F141_18 : ICode := .seq (.region [
 o1 29 (.mv (y 9)),
 o1 30 (.bin .lss (y 29) (.const (.int .i64 6)))]) (.keep [0, 1, 6, 7, 8, 9, 30] (.cond (y 30) .skip (.exit 2)))
def F141_41 : ICode := .keep [0, 1, 6, 7, 8, 9] (.seq (.block 3 (.seq (.region [
 o1 33 (.mv (y 7)),
 o1 34 (.bin .mul (.const (.int .i64 6)) (y 33)),
 o1 35 (.mv (y 9)),
 o1 36 (.bin .add (y 34) (y 35)),
 o1 10 (.mv (y 36))]) (.keep [0, 1, 6, 7, 8, 9, 10] (.seq (.seq (.region [
 o1 37 (.mv (y 8)),
 o1 38 (.mv (y 9)),
 o1 39 (.bin .sub (.const (.int .i64 5)) (y 38)),
 o1 40 (.bin .shr (y 37) (y 39)),
 o1 41 (.bin .and (y 40) (.const (.int .i64 1))),
 o1 42 (.bin .eql (y 41) (.const (.int .i64 0)))]) (.keep [0, 1, 6, 7, 8, 9, 10, 42] (.cond (y 42) (.exit 3) .skip))) (.keep [0, 1, 6, 7, 8, 9, 10] (.seq (.seq (.region [
 o1 43 (.mv (y 10)),
 o1 44 (.bin .quo (y 43) (.const (.int .i64 8))),
 o1 45 (.mv (y 6)),
 o1 46 (.len false (y 45)),
 o1 47 (.bin .geq (y 44) (y 46))]) (.keep [0, 1, 6, 7, 8, 9, 10, 47] (.cond (y 47) (.seq (.region [
 o1 4 (.mv (.const (.nils))),
 o1 5 (.mv (.const (.int .i64 2)))]) .ret) .skip))) (.keep [0, 1, 6, 7, 8, 9, 10] (.region [
 o1 48 (.mv (y 6)),
 o1 49 (.mv (y 10)),
 o1 50 (.bin .quo (y 49) (.const (.int .i64 8))),
 o1 51 (.idxA 1 none (y 48) (y 50)),
 o1 52 (.load none (y 51)),
 o1 53 (.mv (y 10)),
 o1 54 (.bin .rem (y 53) (.const (.int .i64 8))),
 o1 55 (.bin .sub (.const (.int .i64 7)) (y 54)),
 o1 56 (.bin .shl (.const (.int .u8 1)) (y 55)),
 o1 57 (.bin .or (y 52) (y 56)),
 o1 58 (.idxA 1 none (y 48) (y 50)),
 o0 (.store 1 (y 58) (y 57))])))))))) (.keep [0, 1, 6, 7, 8, 9] (.region [
 o1 31 (.mv (y 9)),
 o1 32 (.bin .add (y 31) (.const (.int .i64 1))),
 o1 9 (.mv (y 32))])))
def F141_42 : ICode := .seq F141_18 F141_41
def F141_55 : ICode := .keep [0, 1, 6, 7] (.seq (.block 1 (.seq (.region [
 o1 22 (.mv (y 0)),
 o1 23 (.mv (y 7)),
 o1 24 (.idxS (y 22) (y 23)),
 o1 25 (.mv (y 1)),
 o1 26 (.call .pure (.func 152) [y 24, y 25]),
 o1 8 (.mv (y 26))]) (.keep [0, 1, 6, 7, 8] (.seq (.seq (.region [
 o1 27 (.mv (y 8)),
 o1 28 (.bin .lss (y 27) (.const (.int .i64 0)))]) (.keep [0, 1, 6, 7, 8, 28] (.cond (y 28) (.seq (.region [
 o1 4 (.mv (.const (.nils))),
 o1 5 (.mv (.const (.int .i64 2)))]) .ret) .skip))) (.keep [0, 1, 6, 7, 8] (.seq (.region [
 o1 9 (.mv (.const (.int .i64 0)))]) (.keep [0, 1, 6, 7, 8, 9] (.block 2 (.loop [0, 1, 6, 7, 8, 9] F141_42))))))))) (.keep [0, 1, 6, 7] (.region [
 o1 20 (.mv (y 7)),
 o1 21 (.bin .add (y 20) (.const (.int .i64 1))),
 o1 7 (.mv (y 21))])))
def F141_56 : ICode := .seq F141_6 F141_55
def F141_70 : ICode := .seq (.seq (.region [
 o1 59 (.mv (y 0)),
 o1 60 (.len true (y 59)),
 o1 61 (.bin .rem (y 60) (.const (.int .i64 4))),
 o1 62 (.bin .eql (y 61) (.const (.int .i64 1)))]) (.keep [6, 62] (.cond (y 62) (.seq (.region [
 o1 4 (.mv (.const (.nils))),
 o1 5 (.mv (.const (.int .i64 2)))]) .ret) .skip))) (.keep [6] (.seq (.region [
 o1 63 (.mv (y 6)),
 o1 4 (.mv (y 63)),
 o1 5 (.mv (.const (.int .i64 0)))]) .ret))
def F141_71 : ICode := .keep [0, 6] F141_70
/-- introit/introitref1.Get64 -/
def F141 : IFunc := ⟨(.seq (.region [
 o1 4 (.mv (.const (.nils))),
 o1 5 (.mv (.const (.int .i64 0)))]) (.keep [0, 1] (.seq (.region [
 o1 11 (.mv (y 0)),
 o1 12 (.len true (y 11)),
 o1 13 (.bin .mul (.const (.int .i64 6)) (y 12)),
 o1 14 (.bin .quo (y 13) (.const (.int .i64 8))),
 o1 15 (.prim (.makeSl 1 1 [.int .u8 0]) [y 14]),
 o1 6 (.mv (y 15))]) (.keep [0, 1, 6] (.seq (.seq (.region [
 o1 7 (.mv (.const (.int .i64 0)))]) (.keep [0, 1, 6, 7] (.block 0 (.loop [0, 1, 6, 7] F141_56)))) F141_71))))), [.tmp 4, .tmp 5]⟩
/-- introit/value.Set -/
def F142 : IFunc := ⟨(.seq (.region [
 o1 3 (.box (y 0)),
 o1 5 (.boxV (y 2)),
 o1 6 (.new [.int .i64 0, .int .i64 0, .str [], .nils, .nils])]) (.keep [1, 3, 5, 6] (.seq (.seq (.region [
 o1 9 (.fieldA 0 (y 3)),
 o1 10 (.load none (y 9)),
 o1 11 (.bin .neq (y 10) (.const (.int .i64 5)))]) (.keep [1, 3, 5, 6, 11] (.cond (y 11) (.seq (.region [
 o1 12 (.load (some 5) (y 3)),
 o0 (.store 5 (y 6) (y 12))]) .ret) .skip))) (.keep [1, 3, 5, 6] (.seq (.region [
 o1 14 (.load (some 5) (y 3)),
 o1 15 (.mv (y 1)),
 o1 16 (.call .pure (.func 74) [y 14, y 15]),
 o1 13 (.mv (y 16)),
 o1 17 (.extract (y 13) 0),
 o1 18 (.extract (y 13) 1),
 o1 7 (.mv (y 17)),
 o1 8 (.mv (y 18))]) (.keep [1, 3, 5, 6, 7, 8] (.seq (.region [
 o1 19 (.fieldA 4 (y 3)),
 o1 20 (.load none (y 19)),
 o1 21 (.call .split (.func 38) [y 20]),
 o1 22 (.fieldA 4 (y 3)),
 o0 (.store 1 (y 22) (y 21))]) (.keep [1, 3, 5, 6, 7, 8] (.seq (.seq (.region [
 o1 23 (.mv (y 8)),
 o1 24 (.un .not (y 23))]) (.keep [1, 3, 5, 6, 7, 24] (.cond (y 24) (.region [
 o1 25 (.fieldA 4 (y 3)),
 o1 26 (.load none (y 25)),
 o1 27 (.mv (y 7)),
 o1 28 (.mv (y 1)),
 o1 29 (.build [.str [], .int .i64 0, .int .i64 0, .str [], .nils, .nils] [(0, 1, (y 28))]),
 o1 30 (.buildSl true 6 1 [.str [], .int .i64 0, .int .i64 0, .str [], .nils, .nils] [(0, (y 29))]),
 o1 31 (.call .shared (.func 153) [y 26, y 27, y 30]),
 o1 32 (.fieldA 4 (y 3)),
 o0 (.store 1 (y 32) (y 31))]) .skip))) (.keep [3, 5, 6, 7] (.seq (.region [
 o1 33 (.fieldA 4 (y 3)),
 o1 34 (.load none (y 33)),
 o1 35 (.mv (y 7)),
 o1 36 (.loadV (some 5) (y 5)),
 o1 37 (.idxA 6 none (y 34) (y 35)),
 o1 38 (.fieldA 1 (y 37)),
 o0 (.store 5 (y 38) (y 36))]) (.keep [3, 6] (.seq (.region [
 o1 39 (.load (some 5) (y 3)),
 o0 (.store 5 (y 6) (y 39))]) .ret))))))))))))), [.cell 6 (some 5)]⟩
/-- introit/value.without -/
def F145 : IFunc := ⟨(.seq (.region [
 o1 2 (.box (y 0)),
 o1 3 (.boxV (y 1)),
 o1 4 (.new [.int .i64 0, .int .i64 0, .str [], .nils, .nils])]) (.keep [2, 3, 4] (.seq (.seq (.region [
 o1 5 (.fieldA 0 (y 2)),
 o1 6 (.load none (y 5)),
 o1 7 (.bin .eql (y 6) (.const (.int .i64 5)))]) (.keep [2, 3, 4, 7] (.cond (y 7) (.region [
 o1 8 (.fieldA 4 (y 2)),
 o1 9 (.load none (y 8)),
 o1 10 (.call .split (.func 38) [y 9]),
 o1 11 (.mkfn 154 [] [y 3]),
 o1 12 (.call .shared (.func 155) [y 10, y 11]),
 o1 13 (.fieldA 4 (y 2)),
 o0 (.store 1 (y 13) (y 12))]) .skip))) (.keep [2, 4] (.seq (.region [
 o1 14 (.load (some 5) (y 2)),
 o0 (.store 5 (y 4) (y 14))]) .ret))))), [.cell 4 (some 5)]⟩
/-- introit/value.Drop$1 -/
def F144 : IFunc := ⟨(.seq (.region [
 o1 3 (.mv (.const (.bool false)))]) (.keep [0, 1] (.seq (.region [
 o1 4 (.load none (y 1)),
 o1 5 (.mv (y 0)),
 o1 6 (.call .pure (.func 45) [y 4, y 5]),
 o1 3 (.mv (y 6))]) .ret))), [.tmp 3]⟩
def F146_3 : ICode := .region [
 o1 10 (.bin .lss (y 9) (y 8))]
def F146_15 : ICode := .keep [2, 3, 7, 8, 9, 10] (.seq (.cond (y 10) .skip (.exit 0)) (.keep [2, 3, 7, 8, 9] (.seq (.block 1 (.seq (.region [
 o1 11 (.idxA 1 none (y 7) (y 9)),
 o1 12 (.load none (y 11)),
 o1 5 (.mv (y 12))]) (.keep [2, 3, 5, 7, 8, 9] (.region [
 o1 13 (.fieldA 3 (y 3)),
 o1 14 (.load none (y 13)),
 o1 15 (.mv (y 5)),
 o1 16 (.call .strict (.func 18) [y 15]),
 o1 17 (.buildSl false 5 1 [.int .i64 0, .int .i64 0, .str [], .nils, .nils] [(0, (y 16))]),
 o1 18 (.append 5 80 false (y 14) (y 17)),
 o1 19 (.fieldA 3 (y 3)),
 o0 (.store 1 (y 19) (y 18))])))) (.keep [2, 3, 7, 8, 9] (.region [
 o1 20 (.bin .add (y 9) (.const (.int .i64 1))),
 o1 9 (.mv (y 20))])))))
def F146_16 : ICode := .seq F146_3 F146_15
/-- introit/event.texts -/
def F146 : IFunc := ⟨(.seq (.region [
 o1 2 (.new [.int .i64 0, .int .i64 0, .str [], .nils, .nils])]) (.keep [0, 2] (.seq (.region [
 o1 6 (.build [.int .i64 0, .int .i64 0, .str [], .nils, .nils] [(0, 1, (.const (.int .i64 4)))]),
 o1 3 (.new [.int .i64 0, .int .i64 0, .str [], .nils, .nils]),
 o0 (.store 5 (y 3) (y 6))]) (.keep [0, 2, 3] (.seq (.seq (.region [
 o1 7 (.mv (y 0)),
 o1 8 (.len false (y 7)),
 o1 9 (.mv (.const (.int .i64 0)))]) (.keep [2, 3, 7, 8, 9] (.block 0 (.loop [2, 3, 7, 8, 9] F146_16)))) (.keep [2, 3] (.seq (.region [
 o1 21 (.load (some 5) (y 3)),
 o0 (.store 5 (y 2) (y 21))]) .ret))))))), [.cell 2 (some 5)]⟩
/-- introit/ident.Event -/
def F150 : IFunc := ⟨(.seq (.region [
 o1 2 (.mv (.const (.bool false)))]) (.keep [0] (.seq (.region [
 o1 8 (.mv (y 0)),
 o1 9 (.call .pure (.func 156) [y 8, (.const (.str [36]))]),
 o1 7 (.mv (y 9)),
 o1 10 (.extract (y 7) 0),
 o1 11 (.extract (y 7) 1),
 o1 3 (.mv (y 10)),
 o1 4 (.mv (y 11))]) (.keep [3, 4] (.seq (.region [
 o1 13 (.mv (y 3)),
 o1 14 (.call .pure (.func 157) [y 13]),
 o1 12 (.mv (y 14)),
 o1 15 (.extract (y 12) 0),
 o1 16 (.extract (y 12) 1),
 o1 5 (.mv (y 15)),
 o1 6 (.mv (y 16))]) (.keep [4, 5, 6] (.seq (.region [
 o1 17 (.mv (y 4)),
 o1 18 (.mv (y 17)),
 ⟨(some 19), (some (18, true)), .mv (y 6)⟩,
 ⟨(some 20), (some (18, true)), .bin .eql (y 19) (.const (.int .i64 0))⟩,
 o1 21 (.pick (y 18) (y 20) (.const (.bool false))),
 o1 22 (.mv (y 21)),
 ⟨(some 23), (some (22, true)), .mv (y 5)⟩,
 ⟨(some 24), (some (22, true)), .len false (y 23)⟩,
 ⟨(some 25), (some (22, true)), .bin .eql (y 24) (.const (.int .i64 32))⟩,
 o1 26 (.pick (y 22) (y 25) (.const (.bool false))),
 o1 2 (.mv (y 26))]) .ret))))))), [.tmp 2]⟩
def F152_5 : ICode := .seq (.region [
 o1 6 (.mv (y 5)),
 o1 7 (.bin .lss (y 6) (.const (.int .i64 64)))]) (.keep [0, 1, 5, 7] (.cond (y 7) .skip (.exit 0)))
def F152_16 : ICode := .keep [0, 1, 5] (.seq (.block 1 (.seq (.region [
 o1 10 (.mv (y 5)),
 o1 11 (.mv (y 1)),
 o1 12 (.call .pure (.func 158) [y 10, y 11]),
 o1 13 (.mv (y 0)),
 o1 14 (.bin .eql (y 12) (y 13))]) (.keep [0, 1, 5, 14] (.cond (y 14) (.seq (.region [
 o1 15 (.mv (y 5)),
 o1 4 (.mv (y 15))]) .ret) .skip)))) (.keep [0, 1, 5] (.region [
 o1 8 (.mv (y 5)),
 o1 9 (.bin .add (y 8) (.const (.int .i64 1))),
 o1 5 (.mv (y 9))])))
def F152_17 : ICode := .seq F152_5 F152_16
/-- introit/introitref1.six -/
def F152 : IFunc := ⟨(.seq (.region [
 o1 4 (.mv (.const (.int .i64 0)))]) (.keep [0, 1] (.seq (.seq (.region [
 o1 5 (.mv (.const (.int .i64 0)))]) (.keep [0, 1, 5] (.block 0 (.loop [0, 1, 5] F152_17)))) (.keep [] (.seq (.region [
 o1 4 (.mv (.const (.int .i64 (-1))))]) .ret))))), [.tmp 4]⟩
/-- slices.Insert[[]introit/api.Member,introit/api.Member] -/
def F153 : IFunc := natF (.insert 6 96) 3
def F155_12 : ICode := .seq (.region [
 o1 16 (.mv (y 6)),
 o1 17 (.mv (y 0)),
 o1 18 (.len false (y 17)),
 o1 19 (.bin .lss (y 16) (y 18))]) (.keep [0, 1, 5, 6, 19] (.cond (y 19) .skip (.exit 0)))
def F155_28 : ICode := .keep [0, 1, 5, 6] (.seq (.block 1 (.seq (.region [
 o1 22 (.mv (y 0)),
 o1 23 (.mv (y 6)),
 o1 24 (.idxA 6 none (y 22) (y 23)),
 o1 25 (.load (some 6) (y 24)),
 o1 7 (.new [.str [], .int .i64 0, .int .i64 0, .str [], .nils, .nils]),
 o0 (.store 6 (y 7) (y 25))]) (.keep [0, 1, 5, 6, 7] (.seq (.region [
 o1 26 (.mv (y 1)),
 o1 27 (.load (some 6) (y 7)),
 o1 28 (.call .pure (y 26) [y 27]),
 o1 29 (.un .not (y 28))]) (.keep [0, 1, 5, 6, 7, 29] (.cond (y 29) (.seq (.region [
 o1 30 (.mv (y 0)),
 o1 31 (.mv (y 5)),
 o1 32 (.load (some 6) (y 7)),
 o1 33 (.idxA 6 none (y 30) (y 31)),
 o0 (.store 6 (y 33) (y 32))]) (.keep [0, 1, 5, 6] (.region [
 o1 34 (.mv (y 5)),
 o1 35 (.bin .add (y 34) (.const (.int .i64 1))),
 o1 5 (.mv (y 35))]))) .skip)))))) (.keep [0, 1, 5, 6] (.region [
 o1 20 (.mv (y 6)),
 o1 21 (.bin .add (y 20) (.const (.int .i64 1))),
 o1 6 (.mv (y 21))])))
def F155_29 : ICode := .seq F155_12 F155_28
/-- slices.DeleteFunc[[]introit/api.Member,introit/api.Member] -/
def F155 : IFunc := ⟨(.seq (.region [
 o1 4 (.mv (.const (.nils)))]) (.keep [0, 1] (.seq (.region [
 o1 8 (.mv (y 0)),
 o1 9 (.mv (y 1)),
 o1 10 (.call .pure (.func 161) [y 8, y 9]),
 o1 5 (.mv (y 10))]) (.keep [0, 1, 5] (.seq (.seq (.region [
 o1 11 (.mv (y 5)),
 o1 12 (.bin .eql (y 11) (.const (.int .i64 (-1))))]) (.keep [0, 1, 5, 12] (.cond (y 12) (.seq (.region [
 o1 13 (.mv (y 0)),
 o1 4 (.mv (y 13))]) .ret) .skip))) (.keep [0, 1, 5] (.seq (.seq (.region [
 o1 14 (.mv (y 5)),
 o1 15 (.bin .add (y 14) (.const (.int .i64 1))),
 o1 6 (.mv (y 15))]) (.keep [0, 1, 5, 6] (.block 0 (.loop [0, 1, 5, 6] F155_29)))) (.keep [0, 5] (.seq (.region [
 o1 36 (.mv (y 0)),
 o1 37 (.mv (y 5)),
 o1 38 (.slice 6 (y 36) (some (y 37)) none none),
 o0 (.prim (.clear 6 [.str [], .int .i64 0, .int .i64 0, .str [], .nils, .nils]) [y 38])]) (.keep [0, 5] (.seq (.region [
 o1 39 (.mv (y 0)),
 o1 40 (.mv (y 5)),
 o1 41 (.slice 6 (y 39) none (some (y 40)) none),
 o1 4 (.mv (y 41))]) .ret))))))))))), [.tmp 4]⟩
/-- introit/value.without$1 -/
def F154 : IFunc := ⟨(.seq (.region [
 o1 2 (.boxV (y 0)),
 o1 3 (.mv (.const (.bool false)))]) (.keep [1, 2] (.seq (.region [
 o1 4 (.load none (y 1)),
 o1 5 (.fieldA 0 (y 2)),
 o1 6 (.loadV none (y 5)),
 o1 7 (.call .pure (y 4) [y 6]),
 o1 3 (.mv (y 7))]) .ret))), [.tmp 3]⟩
/-- strings.CutPrefix -/
def F156 : IFunc := ⟨(.seq (.region [
 o1 4 (.mv (.const (.str []))),
 o1 5 (.mv (.const (.bool false)))]) (.keep [0, 1] (.seq (.region [
 o1 6 (.mv (y 0)),
 o1 7 (.mv (y 1)),
 o1 8 (.call .pure (.func 162) [y 6, y 7]),
 o1 9 (.extract (y 8) 0),
 o1 10 (.extract (y 8) 1),
 o1 4 (.mv (y 9)),
 o1 5 (.mv (y 10))]) .ret))), [.tmp 4, .tmp 5]⟩
/-- introit/b64.GetURL -/
def F157 : IFunc := ⟨(.seq (.region [
 o1 2 (.mv (.const (.nils))),
 o1 3 (.mv (.const (.int .i64 0)))]) (.keep [0] (.seq (.region [
 o1 4 (.mv (y 0)),
 o1 5 (.load (some 2) (.glob 3)),
 o1 6 (.mkfn 163 [y 5] []),
 o1 7 (.call .pure (.func 164) [y 4, y 6]),
 o1 8 (.extract (y 7) 0),
 o1 9 (.extract (y 7) 1),
 o1 2 (.mv (y 8)),
 o1 3 (.mv (y 9))]) .ret))), [.tmp 2, .tmp 3]⟩
/-- introit/introitref1.sign -/
def F158 : IFunc := ⟨(.seq (.region [
 o1 4 (.mv (.const (.int .u8 0)))]) (.keep [0, 1] (.seq (.block 0 (.seq (.region [
 o1 6 (.mv (y 0)),
 o1 7 (.bin .lss (y 6) (.const (.int .i64 26))),
 o1 5 (.mv (y 7))]) (.keep [0, 1, 5] (.cond (y 5) (.seq (.region [
 o1 8 (.mv (y 0)),
 o1 9 (.conv (.int .u8) (y 8)),
 o1 10 (.bin .add (.const (.int .u8 65)) (y 9)),
 o1 4 (.mv (y 10))]) .ret) (.seq (.region [
 o1 12 (.mv (y 0)),
 o1 13 (.bin .lss (y 12) (.const (.int .i64 52))),
 o1 11 (.mv (y 13))]) (.keep [0, 1, 11] (.cond (y 11) (.seq (.region [
 o1 14 (.mv (y 0)),
 o1 15 (.bin .sub (y 14) (.const (.int .i64 26))),
 o1 16 (.conv (.int .u8) (y 15)),
 o1 17 (.bin .add (.const (.int .u8 97)) (y 16)),
 o1 4 (.mv (y 17))]) .ret) (.seq (.region [
 o1 19 (.mv (y 0)),
 o1 20 (.bin .lss (y 19) (.const (.int .i64 62))),
 o1 18 (.mv (y 20))]) (.keep [0, 1, 18] (.cond (y 18) (.seq (.region [
 o1 21 (.mv (y 0)),
 o1 22 (.bin .sub (y 21) (.const (.int .i64 52))),
 o1 23 (.conv (.int .u8) (y 22)),
 o1 24 (.bin .add (.const (.int .u8 48)) (y 23)),
 o1 4 (.mv (y 24))]) .ret) (.seq (.region [
 o1 26 (.mv (y 0)),
 o1 27 (.bin .eql (y 26) (.const (.int .i64 62))),
 o1 28 (.mv (y 27)),
 ⟨(some 29), (some (28, true)), .mv (y 1)⟩,
 o1 30 (.pick (y 28) (y 29) (.const (.bool false))),
 o1 25 (.mv (y 30))]) (.keep [0, 1, 25] (.cond (y 25) (.seq (.region [
 o1 4 (.mv (.const (.int .u8 45)))]) .ret) (.seq (.region [
 o1 32 (.mv (y 0)),
 o1 33 (.bin .eql (y 32) (.const (.int .i64 62))),
 o1 31 (.mv (y 33))]) (.keep [1, 31] (.cond (y 31) (.seq (.region [
 o1 4 (.mv (.const (.int .u8 43)))]) .ret) (.seq (.region [
 o1 35 (.mv (y 1)),
 o1 34 (.mv (y 35))]) (.keep [34] (.cond (y 34) (.seq (.region [
 o1 4 (.mv (.const (.int .u8 95)))]) .ret) .skip))))))))))))))))))) (.keep [] (.seq (.region [
 o1 4 (.mv (.const (.int .u8 47)))]) .ret))))), [.tmp 4]⟩
def F161_2 : ICode := .region [
 o1 9 (.bin .lss (y 8) (y 7))]
def F161_19 : ICode := .keep [0, 1, 7, 8, 9] (.seq (.cond (y 9) .skip (.exit 0)) (.keep [0, 1, 7, 8] (.seq (.block 1 (.seq (.region [
 o1 10 (.mv (y 8)),
 o1 5 (.mv (y 10))]) (.keep [0, 1, 5, 7, 8] (.seq (.region [
 o1 11 (.mv (y 1)),
 o1 12 (.mv (y 0)),
 o1 13 (.mv (y 5)),
 o1 14 (.idxA 6 none (y 12) (y 13)),
 o1 15 (.load (some 6) (y 14)),
 o1 16 (.call .pure (y 11) [y 15])]) (.keep [0, 1, 5, 7, 8, 16] (.cond (y 16) (.seq (.region [
 o1 17 (.mv (y 5)),
 o1 4 (.mv (y 17))]) .ret) .skip)))))) (.keep [0, 1, 7, 8] (.region [
 o1 18 (.bin .add (y 8) (.const (.int .i64 1))),
 o1 8 (.mv (y 18))])))))
def F161_20 : ICode := .seq F161_2 F161_19
/-- slices.IndexFunc[[]introit/api.Member,introit/api.Member] -/
def F161 : IFunc := ⟨(.seq (.region [
 o1 4 (.mv (.const (.int .i64 0)))]) (.keep [0, 1] (.seq (.seq (.region [
 o1 6 (.mv (y 0)),
 o1 7 (.len false (y 6)),
 o1 8 (.mv (.const (.int .i64 0)))]) (.keep [0, 1, 7, 8] (.block 0 (.loop [0, 1, 7, 8] F161_20)))) (.keep [] (.seq (.region [
 o1 4 (.mv (.const (.int .i64 (-1))))]) .ret))))), [.tmp 4]⟩
/-- internal/stringslite.CutPrefix -/
def F162 : IFunc := ⟨(.seq (.region [
 o1 4 (.mv (.const (.str []))),
 o1 5 (.mv (.const (.bool false)))]) (.keep [0, 1] (.seq (.seq (.region [
 o1 6 (.mv (y 0)),
 o1 7 (.mv (y 1)),
 o1 8 (.call .pure (.func 166) [y 6, y 7]),
 o1 9 (.un .not (y 8))]) (.keep [0, 1, 9] (.cond (y 9) (.seq (.region [
 o1 10 (.mv (y 0)),
 o1 4 (.mv (y 10)),
 o1 5 (.mv (.const (.bool false)))]) .ret) .skip))) (.keep [0, 1] (.seq (.region [
 o1 11 (.mv (y 0)),
 o1 12 (.mv (y 1)),
 o1 13 (.len true (y 12)),
 o1 14 (.sliceS (y 11) (some (y 13)) none),
 o1 4 (.mv (y 14)),
 o1 5 (.mv (.const (.bool true)))]) .ret))))), [.tmp 4, .tmp 5]⟩
def F164_4 : ICode := .region [
 o1 14 (.bin .lss (y 13) (y 12))]
def F164_37 : ICode := .keep [0, 1, 6, 7, 8, 12, 13, 14] (.seq (.cond (y 14) .skip (.exit 0)) (.keep [0, 1, 6, 7, 8, 12, 13] (.seq (.block 1 (.seq (.region [
 o1 15 (.mv (y 13)),
 o1 9 (.mv (y 15))]) (.keep [0, 1, 6, 7, 8, 9, 12, 13] (.seq (.region [
 o1 16 (.mv (y 1)),
 o1 17 (.mv (y 0)),
 o1 18 (.mv (y 9)),
 o1 19 (.idxS (y 17) (y 18)),
 o1 20 (.call .pure (y 16) [y 19]),
 o1 10 (.mv (y 20))]) (.keep [0, 1, 6, 7, 8, 10, 12, 13] (.seq (.seq (.region [
 o1 21 (.mv (y 10)),
 o1 22 (.bin .eql (y 21) (.const (.int .u8 64)))]) (.keep [0, 1, 6, 7, 8, 10, 12, 13, 22] (.cond (y 22) (.seq (.region [
 o1 4 (.mv (.const (.nils))),
 o1 5 (.mv (.const (.int .i64 2)))]) .ret) .skip))) (.keep [0, 1, 6, 7, 8, 10, 12, 13] (.seq (.region [
 o1 23 (.mv (y 7)),
 o1 24 (.bin .shl (y 23) (.const (.int .u64 6))),
 o1 25 (.mv (y 10)),
 o1 26 (.conv (.int .u64) (y 25)),
 o1 27 (.bin .or (y 24) (y 26)),
 o1 28 (.mv (y 8)),
 o1 29 (.bin .add (y 28) (.const (.int .u64 6))),
 o1 7 (.mv (y 27)),
 o1 8 (.mv (y 29))]) (.keep [0, 1, 6, 7, 8, 12, 13] (.seq (.region [
 o1 30 (.mv (y 8)),
 o1 31 (.bin .geq (y 30) (.const (.int .u64 8)))]) (.keep [0, 1, 6, 7, 8, 12, 13, 31] (.cond (y 31) (.seq (.region [
 o1 32 (.mv (y 8)),
 o1 33 (.bin .sub (y 32) (.const (.int .u64 8))),
 o1 8 (.mv (y 33))]) (.keep [0, 1, 6, 7, 8, 12, 13] (.region [
 o1 34 (.mv (y 6)),
 o1 35 (.mv (y 7)),
 o1 36 (.mv (y 8)),
 o1 37 (.bin .shr (y 35) (y 36)),
 o1 38 (.conv (.int .u8) (y 37)),
 o1 39 (.buildSl false 1 1 [.int .u8 0] [(0, (y 38))]),
 o1 40 (.append 1 1 false (y 34) (y 39)),
 o1 6 (.mv (y 40))]))) .skip)))))))))))) (.keep [0, 1, 6, 7, 8, 12, 13] (.region [
 o1 41 (.bin .add (y 13) (.const (.int .i64 1))),
 o1 13 (.mv (y 41))])))))
def F164_38 : ICode := .seq F164_4 F164_37
def F164_52 : ICode := .seq (.seq (.region [
 o1 42 (.mv (y 8)),
 o1 43 (.bin .geq (y 42) (.const (.int .u64 6))),
 o1 44 (.mv (y 43)),
 ⟨(some 45), (some (44, false)), .mv (y 7)⟩,
 ⟨(some 46), (some (44, false)), .mv (y 8)⟩,
 ⟨(some 47), (some (44, false)), .bin .shl (.const (.int .u64 1)) (y 46)⟩,
 ⟨(some 48), (some (44, false)), .bin .sub (y 47) (.const (.int .u64 1))⟩,
 ⟨(some 49), (some (44, false)), .bin .and (y 45) (y 48)⟩,
 ⟨(some 50), (some (44, false)), .bin .neq (y 49) (.const (.int .u64 0))⟩,
 o1 51 (.pick (y 44) (.const (.bool true)) (y 50))]) (.keep [6, 51] (.cond (y 51) (.seq (.region [
 o1 4 (.mv (.const (.nils))),
 o1 5 (.mv (.const (.int .i64 2)))]) .ret) .skip))) (.keep [6] (.seq (.region [
 o1 52 (.mv (y 6)),
 o1 4 (.mv (y 52)),
 o1 5 (.mv (.const (.int .i64 0)))]) .ret))
def F164_53 : ICode := .keep [6, 7, 8] F164_52
/-- introit/b64.get -/
def F164 : IFunc := ⟨(.seq (.region [
 o1 4 (.mv (.const (.nils))),
 o1 5 (.mv (.const (.int .i64 0)))]) (.keep [0, 1] (.seq (.region [
 o1 6 (.mv (.const (.nils)))]) (.keep [0, 1, 6] (.seq (.region [
 o1 7 (.mv (.const (.int .u64 0))),
 o1 8 (.mv (.const (.int .u64 0)))]) (.keep [0, 1, 6, 7, 8] (.seq (.seq (.region [
 o1 11 (.mv (y 0)),
 o1 12 (.len true (y 11)),
 o1 13 (.mv (.const (.int .i64 0)))]) (.keep [0, 1, 6, 7, 8, 12, 13] (.block 0 (.loop [0, 1, 6, 7, 8, 12, 13] F164_38)))) F164_53))))))), [.tmp 4, .tmp 5]⟩
def F163_5 : ICode := .seq (.region [
 o1 6 (.mv (y 5)),
 o1 7 (.bin .lss (y 6) (.const (.int .u8 64)))]) (.keep [1, 2, 5, 7] (.cond (y 7) .skip (.exit 0)))
def F163_16 : ICode := .keep [1, 2, 5] (.seq (.block 1 (.seq (.region [
 o1 10 (.loadV (some 2) (y 2)),
 o1 11 (.mv (y 5)),
 o1 12 (.call .pure (.func 167) [y 10, y 11]),
 o1 13 (.mv (y 1)),
 o1 14 (.bin .eql (y 12) (y 13))]) (.keep [1, 2, 5, 14] (.cond (y 14) (.seq (.region [
 o1 15 (.mv (y 5)),
 o1 4 (.mv (y 15))]) .ret) .skip)))) (.keep [1, 2, 5] (.region [
 o1 8 (.mv (y 5)),
 o1 9 (.bin .add (y 8) (.const (.int .u8 1))),
 o1 5 (.mv (y 9))])))
def F163_17 : ICode := .seq F163_5 F163_16
/-- (introit/b64.alphabet).number -/
def F163 : IFunc := ⟨(.seq (.region [
 o1 2 (.boxV (y 0)),
 o1 4 (.mv (.const (.int .u8 0)))]) (.keep [1, 2] (.seq (.seq (.region [
 o1 5 (.mv (.const (.int .u8 0)))]) (.keep [1, 2, 5] (.block 0 (.loop [1, 2, 5] F163_17)))) (.keep [] (.seq (.region [
 o1 4 (.mv (.const (.int .u8 64)))]) .ret))))), [.tmp 4]⟩
/-- internal/stringslite.HasPrefix -/
def F166 : IFunc := ⟨(.seq (.region [
 o1 4 (.mv (.const (.bool false)))]) (.keep [0, 1] (.seq (.region [
 o1 5 (.mv (y 0)),
 o1 6 (.len true (y 5)),
 o1 7 (.mv (y 1)),
 o1 8 (.len true (y 7)),
 o1 9 (.bin .geq (y 6) (y 8)),
 o1 10 (.mv (y 9)),
 ⟨(some 11), (some (10, true)), .mv (y 0)⟩,
 ⟨(some 12), (some (10, true)), .mv (y 1)⟩,
 ⟨(some 13), (some (10, true)), .len true (y 12)⟩,
 ⟨(some 14), (some (10, true)), .sliceS (y 11) none (some (y 13))⟩,
 ⟨(some 15), (some (10, true)), .mv (y 1)⟩,
 ⟨(some 16), (some (10, true)), .bin .eql (y 14) (y 15)⟩,
 o1 17 (.pick (y 10) (y 16) (.const (.bool false))),
 o1 4 (.mv (y 17))]) .ret))), [.tmp 4]⟩
/-- (introit/b64.alphabet).sign -/
def F167 : IFunc := ⟨(.seq (.region [
 o1 2 (.boxV (y 0)),
 o1 4 (.mv (.const (.int .u8 0)))]) (.keep [1, 2] (.seq (.block 0 (.seq (.region [
 o1 6 (.mv (y 1)),
 o1 7 (.bin .lss (y 6) (.const (.int .u8 26))),
 o1 5 (.mv (y 7))]) (.keep [1, 2, 5] (.cond (y 5) (.seq (.region [
 o1 8 (.mv (y 1)),
 o1 9 (.bin .add (.const (.int .u8 65)) (y 8)),
 o1 4 (.mv (y 9))]) .ret) (.seq (.region [
 o1 11 (.mv (y 1)),
 o1 12 (.bin .lss (y 11) (.const (.int .u8 52))),
 o1 10 (.mv (y 12))]) (.keep [1, 2, 10] (.cond (y 10) (.seq (.region [
 o1 13 (.mv (y 1)),
 o1 14 (.bin .add (.const (.int .u8 97)) (y 13)),
 o1 15 (.bin .sub (y 14) (.const (.int .u8 26))),
 o1 4 (.mv (y 15))]) .ret) (.seq (.region [
 o1 17 (.mv (y 1)),
 o1 18 (.bin .lss (y 17) (.const (.int .u8 62))),
 o1 16 (.mv (y 18))]) (.keep [1, 2, 16] (.cond (y 16) (.seq (.region [
 o1 19 (.mv (y 1)),
 o1 20 (.bin .add (.const (.int .u8 48)) (y 19)),
 o1 21 (.bin .sub (y 20) (.const (.int .u8 52))),
 o1 4 (.mv (y 21))]) .ret) (.seq (.region [
 o1 23 (.mv (y 1)),
 o1 24 (.bin .eql (y 23) (.const (.int .u8 63))),
 o1 22 (.mv (y 24))]) (.keep [2, 22] (.cond (y 22) (.seq (.region [
 o1 25 (.fieldA 1 (y 2)),
 o1 26 (.loadV none (y 25)),
 o1 4 (.mv (y 26))]) .ret) .skip))))))))))))) (.keep [2] (.seq (.region [
 o1 27 (.fieldA 0 (y 2)),
 o1 28 (.loadV none (y 27)),
 o1 4 (.mv (y 28))]) .ret))))), [.tmp 4]⟩
def IrDTab : List (Nat × IFunc) := [(2, F2), (5, F5), (10, F10), (8, F8), (11, F11), (20, F20), (18, F18), (19, F19), (24, F24), (25, F25), (26, F26), (27, F27), (37, F37), (28, F28), (29, F29), (30, F30), (35, F35), (36, F36), (38, F38), (39, F39), (40, F40), (43, F43), (45, F45), (46, F46), (47, F47), (48, F48), (49, F49), (51, F51), (50, F50), (52, F52), (53, F53), (54, F54), (55, F55), (60, F60), (61, F61), (63, F63), (64, F64), (65, F65), (66, F66), (67, F67), (68, F68), (72, F72), (73, F73), (74, F74), (84, F84), (85, F85), (86, F86), (87, F87), (89, F89), (92, F92), (75, F75), (76, F76), (77, F77), (78, F78), (82, F82), (83, F83), (88, F88), (90, F90), (91, F91), (93, F93), (94, F94), (95, F95), (98, F98), (99, F99), (100, F100), (101, F101), (102, F102), (106, F106), (107, F107), (109, F109), (110, F110), (112, F112), (123, F123), (115, F115), (116, F116), (118, F118), (121, F121), (124, F124), (125, F125), (126, F126), (131, F131), (130, F130), (134, F134), (135, F135), (136, F136), (137, F137), (138, F138), (141, F141), (142, F142), (145, F145), (144, F144), (146, F146), (150, F150), (152, F152), (153, F153), (155, F155), (154, F154), (156, F156), (157, F157), (158, F158), (161, F161), (162, F162), (164, F164), (163, F163), (166, F166), (167, F167)]
end Go.Ab
