/- The functions, as texts of the abstract machine. Conditions: none. -/
import Derived.Test.YtgckcnggblomgaaGreatDoorMach
/- The machine's texts of functions. -/
namespace Go.Ab
set_option maxRecDepth 100000
abbrev o1 (d : Nat) (p : IOp) : IOper := ⟨some d, none, p⟩
abbrev o0 (p : IOp) : IOper := ⟨none, none, p⟩
abbrev y (n : Nat) : Opd := .tmp n
def F2_11 : ICode := .seq (.region [
 o1 10 (.mv (y 5)),
 o1 11 (.mv (y 0)),
 o1 12 (.len false (y 11)),
 o1 13 (.bin .lss (y 10) (y 12))]) (.keep [0, 5, 13] (.cond (y 13) .skip (.exit 0)))
def F2_12 : ICode := .region [
 o1 16 (.mv (y 0)),
 o1 17 (.mv (y 5)),
 o1 18 (.idxA 20 none (y 16) (y 17)),
 o1 19 (.fieldA 15 (y 18)),
 o1 20 (.load (some 5) (y 19)),
 o1 21 (.call .strict (.func 24) [y 20, (.const (.int .i64 800))]),
 o1 22 (.un .not (y 21)),
 o1 23 (.mv (y 22)),
 ⟨(some 24), (some (23, false)), .mv (y 0)⟩,
 ⟨(some 25), (some (23, false)), .mv (y 5)⟩,
 ⟨(some 26), (some (23, false)), .idxA 20 none (y 24) (y 25)⟩,
 ⟨(some 27), (some (23, false)), .fieldA 15 (y 26)⟩,
 ⟨(some 28), (some (23, false)), .load (some 5) (y 27)⟩,
 ⟨(some 29), (some (23, false)), .call .strict (.func 25) [y 28]⟩,
 ⟨(some 30), (some (23, false)), .un .not (y 29)⟩,
 o1 31 (.pick (y 23) (.const (.bool true)) (y 30)),
 o1 32 (.mv (y 31)),
 ⟨(some 33), (some (32, false)), .mv (y 0)⟩,
 ⟨(some 34), (some (32, false)), .mv (y 5)⟩,
 ⟨(some 35), (some (32, false)), .idxA 20 none (y 33) (y 34)⟩,
 ⟨(some 36), (some (32, false)), .fieldA 15 (y 35)⟩,
 ⟨(some 37), (some (32, false)), .fieldA 0 (y 36)⟩,
 ⟨(some 38), (some (32, false)), .load none (y 37)⟩,
 ⟨(some 39), (some (32, false)), .bin .neq (y 38) (.const (.int .i64 5))⟩,
 o1 40 (.pick (y 32) (.const (.bool true)) (y 39)),
 o1 41 (.mv (y 40)),
 ⟨(some 42), (some (41, false)), .mv (y 0)⟩,
 ⟨(some 43), (some (41, false)), .mv (y 5)⟩,
 ⟨(some 44), (some (41, false)), .idxA 20 none (y 42) (y 43)⟩,
 ⟨(some 45), (some (41, false)), .fieldA 7 (y 44)⟩,
 ⟨(some 46), (some (41, false)), .load none (y 45)⟩,
 ⟨(some 47), (some (41, false)), .len true (y 46)⟩,
 ⟨(some 48), (some (41, false)), .mv (y 0)⟩,
 ⟨(some 49), (some (41, false)), .mv (y 5)⟩,
 ⟨(some 50), (some (41, false)), .idxA 20 none (y 48) (y 49)⟩,
 ⟨(some 51), (some (41, false)), .fieldA 9 (y 50)⟩,
 ⟨(some 52), (some (41, false)), .load none (y 51)⟩,
 ⟨(some 53), (some (41, false)), .len true (y 52)⟩,
 ⟨(some 54), (some (41, false)), .bin .add (y 47) (y 53)⟩,
 ⟨(some 55), (some (41, false)), .mv (y 0)⟩,
 ⟨(some 56), (some (41, false)), .mv (y 5)⟩,
 ⟨(some 57), (some (41, false)), .idxA 20 none (y 55) (y 56)⟩,
 ⟨(some 58), (some (41, false)), .fieldA 8 (y 57)⟩,
 ⟨(some 59), (some (41, false)), .load none (y 58)⟩,
 ⟨(some 60), (some (41, false)), .len true (y 59)⟩,
 ⟨(some 61), (some (41, false)), .bin .add (y 54) (y 60)⟩,
 ⟨(some 62), (some (41, false)), .mv (y 0)⟩,
 ⟨(some 63), (some (41, false)), .mv (y 5)⟩,
 ⟨(some 64), (some (41, false)), .idxA 20 none (y 62) (y 63)⟩,
 ⟨(some 65), (some (41, false)), .fieldA 6 (y 64)⟩,
 ⟨(some 66), (some (41, false)), .load none (y 65)⟩,
 ⟨(some 67), (some (41, false)), .len true (y 66)⟩,
 ⟨(some 68), (some (41, false)), .bin .add (y 61) (y 67)⟩,
 ⟨(some 69), (some (41, false)), .bin .gtr (y 68) (.const (.int .i64 1500))⟩,
 o1 70 (.pick (y 41) (.const (.bool true)) (y 69)),
 o1 71 (.mv (y 70)),
 ⟨(some 72), (some (71, false)), .mv (y 0)⟩,
 ⟨(some 73), (some (71, false)), .mv (y 5)⟩,
 ⟨(some 74), (some (71, false)), .idxA 20 none (y 72) (y 73)⟩,
 ⟨(some 75), (some (71, false)), .fieldA 13 (y 74)⟩,
 ⟨(some 76), (some (71, false)), .load none (y 75)⟩,
 ⟨(some 77), (some (71, false)), .len false (y 76)⟩,
 ⟨(some 78), (some (71, false)), .bin .gtr (y 77) (.const (.int .i64 30))⟩,
 o1 79 (.pick (y 71) (.const (.bool true)) (y 78)),
 o1 80 (.mv (y 79)),
 ⟨(some 81), (some (80, false)), .mv (y 0)⟩,
 ⟨(some 82), (some (80, false)), .mv (y 5)⟩,
 ⟨(some 83), (some (80, false)), .idxA 20 none (y 81) (y 82)⟩,
 ⟨(some 84), (some (80, false)), .fieldA 14 (y 83)⟩,
 ⟨(some 85), (some (80, false)), .load none (y 84)⟩,
 ⟨(some 86), (some (80, false)), .len false (y 85)⟩,
 ⟨(some 87), (some (80, false)), .bin .gtr (y 86) (.const (.int .i64 30))⟩,
 o1 88 (.pick (y 80) (.const (.bool true)) (y 87))]
def F2_14 : ICode := .seq (.region [
 o1 4 (.mv (.const (.bool false)))]) .ret
def F2_15 : ICode := .cond (y 88) F2_14 .skip
def F2_22 : ICode := .keep [0, 5] (.seq (.block 1 (.seq F2_12 (.keep [0, 5, 88] F2_15))) (.keep [0, 5] (.region [
 o1 14 (.mv (y 5)),
 o1 15 (.bin .add (y 14) (.const (.int .i64 1))),
 o1 5 (.mv (y 15))])))
def F2_23 : ICode := .seq F2_11 F2_22
/-- introit/introitlaw19.Light -/
def F2 : IFunc := ⟨(.seq (.region [
 o1 4 (.mv (.const (.bool false)))]) (.keep [0, 1] (.seq (.seq (.region [
 o1 6 (.mv (y 0)),
 o1 7 (.len false (y 6)),
 o1 8 (.mv (y 1)),
 o1 9 (.bin .gtr (y 7) (y 8))]) (.keep [0, 9] (.cond (y 9) (.seq (.region [
 o1 4 (.mv (.const (.bool false)))]) .ret) .skip))) (.keep [0] (.seq (.seq (.region [
 o1 5 (.mv (.const (.int .i64 0)))]) (.keep [0, 5] (.block 0 (.loop [0, 5] F2_23)))) (.keep [] (.seq (.region [
 o1 4 (.mv (.const (.bool true)))]) .ret))))))), [.tmp 4]⟩
def F5_21 : ICode := .seq (.region [
 o1 33 (.mv (y 5)),
 o1 34 (.bin .eql (y 33) (.const (.str [106, 111, 105, 110]))),
 o1 35 (.mv (y 34)),
 ⟨(some 36), (some (35, false)), .mv (y 5)⟩,
 ⟨(some 37), (some (35, false)), .bin .eql (y 36) (.const (.str [105, 110, 118, 105, 116, 101]))⟩,
 o1 38 (.pick (y 35) (.const (.bool true)) (y 37)),
 o1 39 (.mv (y 38)),
 ⟨(some 40), (some (39, false)), .mv (y 5)⟩,
 ⟨(some 41), (some (39, false)), .bin .eql (y 40) (.const (.str [107, 110, 111, 99, 107]))⟩,
 o1 42 (.pick (y 39) (.const (.bool true)) (y 41))]) (.keep [1, 3, 4, 5, 42] (.cond (y 42) (.region [
 o1 43 (.mv (y 4)),
 o1 44 (.build [.str [], .str []] [(0, 1, (.const (.str [109, 46, 114, 111, 111, 109, 46, 106, 111, 105, 110, 95, 114, 117, 108, 101, 115])))]),
 o1 45 (.call .shared (y 43) [y 44])]) .skip))
def F5_29 : ICode := .seq (.region [
 o1 47 (.fieldA 15 (y 1)),
 o1 48 (.loadV (some 5) (y 47)),
 o1 49 (.call .pure (.func 29) [y 48]),
 o1 46 (.mv (y 49)),
 o1 50 (.extract (y 46) 0),
 o1 51 (.extract (y 46) 1),
 o1 52 (.extract (y 46) 2),
 o1 6 (.mv (y 50)),
 o1 7 (.mv (y 51)),
 o1 8 (.mv (y 52))]) (.keep [1, 3, 4, 5, 6, 8] (.seq (.region [
 o1 53 (.mv (y 8)),
 o1 54 (.mv (y 53)),
 ⟨(some 55), (some (54, true)), .mv (y 5)⟩,
 ⟨(some 56), (some (54, true)), .bin .eql (y 55) (.const (.str [105, 110, 118, 105, 116, 101]))⟩,
 o1 57 (.pick (y 54) (y 56) (.const (.bool false)))]) (.keep [1, 3, 4, 5, 6, 57] (.cond (y 57) (.region [
 o1 58 (.mv (y 4)),
 o1 59 (.mv (y 6)),
 o1 60 (.build [.str [], .str []] [(0, 1, (.const (.str [109, 46, 114, 111, 111, 109, 46, 116, 104, 105, 114, 100, 95, 112, 97, 114, 116, 121, 95, 105, 110, 118, 105, 116, 101]))), (1, 1, (y 59))]),
 o1 61 (.call .shared (y 58) [y 60])]) .skip))))
def F5_37 : ICode := .seq (.region [
 o1 63 (.fieldA 15 (y 1)),
 o1 64 (.loadV (some 5) (y 63)),
 o1 65 (.call .pure (.func 30) [y 64]),
 o1 62 (.mv (y 65)),
 o1 66 (.extract (y 62) 0),
 o1 67 (.extract (y 62) 1),
 o1 9 (.mv (y 66)),
 o1 10 (.mv (y 67))]) (.keep [3, 4, 5, 9, 10] (.seq (.region [
 o1 68 (.mv (y 10)),
 o1 69 (.mv (y 68)),
 ⟨(some 70), (some (69, true)), .mv (y 5)⟩,
 ⟨(some 71), (some (69, true)), .bin .eql (y 70) (.const (.str [106, 111, 105, 110]))⟩,
 o1 72 (.pick (y 69) (y 71) (.const (.bool false)))]) (.keep [3, 4, 9, 72] (.cond (y 72) (.region [
 o1 73 (.mv (y 4)),
 o1 74 (.mv (y 9)),
 o1 75 (.build [.str [], .str []] [(0, 1, (.const (.str [109, 46, 114, 111, 111, 109, 46, 109, 101, 109, 98, 101, 114]))), (1, 1, (y 74))]),
 o1 76 (.call .shared (y 73) [y 75])]) .skip))))
def F5_38 : ICode := .region [
 o1 77 (.load none (y 3)),
 o1 2 (.mv (y 77))]
def F5_39 : ICode := .seq F5_38 .ret
def F5_40 : ICode := .keep [3] F5_39
def F5_41 : ICode := .seq F5_37 F5_40
def F5_42 : ICode := .keep [1, 3, 4, 5] F5_41
def F5_43 : ICode := .seq F5_29 F5_42
def F5_44 : ICode := .keep [1, 3, 4, 5] F5_43
def F5_45 : ICode := .seq F5_21 F5_44
/-- introit/pick.Needs -/
def F5 : IFunc := ⟨(.seq (.region [
 o1 1 (.boxV (y 0)),
 o1 2 (.mv (.const (.nils)))]) (.keep [1] (.seq (.seq (.region [
 o1 11 (.fieldA 7 (y 1)),
 o1 12 (.loadV none (y 11)),
 o1 13 (.bin .eql (y 12) (.const (.str [109, 46, 114, 111, 111, 109, 46, 99, 114, 101, 97, 116, 101])))]) (.keep [1, 13] (.cond (y 13) (.seq (.region [
 o1 2 (.mv (.const (.nils)))]) .ret) .skip))) (.keep [1] (.seq (.region [
 o1 14 (.build [.str [], .str []] [(0, 1, (.const (.str [109, 46, 114, 111, 111, 109, 46, 99, 114, 101, 97, 116, 101])))]),
 o1 15 (.build [.str [], .str []] [(0, 1, (.const (.str [109, 46, 114, 111, 111, 109, 46, 112, 111, 119, 101, 114, 95, 108, 101, 118, 101, 108, 115])))]),
 o1 16 (.fieldA 8 (y 1)),
 o1 17 (.loadV none (y 16)),
 o1 18 (.build [.str [], .str []] [(0, 1, (.const (.str [109, 46, 114, 111, 111, 109, 46, 109, 101, 109, 98, 101, 114]))), (1, 1, (y 17))]),
 o1 19 (.buildSl false 2 3 [.str [], .str []] [(0, (y 14)), (1, (y 15)), (2, (y 18))]),
 o1 3 (.new [.nils]),
 o0 (.store 1 (y 3) (y 19))]) (.keep [1, 3] (.seq (.region [
 o1 20 (.mkfn 27 [] [y 3]),
 o1 4 (.mv (y 20))]) (.keep [1, 3, 4] (.seq (.seq (.region [
 o1 21 (.fieldA 7 (y 1)),
 o1 22 (.loadV none (y 21)),
 o1 23 (.bin .neq (y 22) (.const (.str [109, 46, 114, 111, 111, 109, 46, 109, 101, 109, 98, 101, 114])))]) (.keep [1, 3, 4, 23] (.cond (y 23) (.seq (.region [
 o1 24 (.load none (y 3)),
 o1 2 (.mv (y 24))]) .ret) .skip))) (.keep [1, 3, 4] (.seq (.region [
 o1 25 (.mv (y 4)),
 o1 26 (.fieldA 9 (y 1)),
 o1 27 (.loadV none (y 26)),
 o1 28 (.build [.str [], .str []] [(0, 1, (.const (.str [109, 46, 114, 111, 111, 109, 46, 109, 101, 109, 98, 101, 114]))), (1, 1, (y 27))]),
 o1 29 (.call .shared (y 25) [y 28])]) (.keep [1, 3, 4] (.seq (.region [
 o1 30 (.fieldA 15 (y 1)),
 o1 31 (.loadV (some 5) (y 30)),
 o1 32 (.call .pure (.func 28) [y 31]),
 o1 5 (.mv (y 32))]) (.keep [1, 3, 4, 5] F5_45)))))))))))))), [.tmp 2]⟩
def F10_11 : ICode := .seq (.region [
 o1 11 (.mv (y 5)),
 o1 12 (.mv (y 0)),
 o1 13 (.len false (y 12)),
 o1 14 (.bin .lss (y 11) (y 13))]) (.keep [0, 1, 5, 14] (.cond (y 14) .skip (.exit 0)))
def F10_22 : ICode := .keep [0, 1, 5] (.seq (.block 1 (.seq (.region [
 o1 17 (.mv (y 0)),
 o1 18 (.mv (y 5)),
 o1 19 (.idxA 1 none (y 17) (y 18)),
 o1 20 (.load none (y 19)),
 o1 21 (.mv (y 1)),
 o1 22 (.mv (y 5)),
 o1 23 (.idxA 1 none (y 21) (y 22)),
 o1 24 (.load none (y 23)),
 o1 25 (.bin .neq (y 20) (y 24))]) (.keep [0, 1, 5, 25] (.cond (y 25) (.seq (.region [
 o1 4 (.mv (.const (.bool false)))]) .ret) .skip)))) (.keep [0, 1, 5] (.region [
 o1 15 (.mv (y 5)),
 o1 16 (.bin .add (y 15) (.const (.int .i64 1))),
 o1 5 (.mv (y 16))])))
def F10_23 : ICode := .seq F10_11 F10_22
/-- introit/introitref22.Texts -/
def F10 : IFunc := ⟨(.seq (.region [
 o1 4 (.mv (.const (.bool false)))]) (.keep [0, 1] (.seq (.seq (.region [
 o1 6 (.mv (y 0)),
 o1 7 (.len false (y 6)),
 o1 8 (.mv (y 1)),
 o1 9 (.len false (y 8)),
 o1 10 (.bin .neq (y 7) (y 9))]) (.keep [0, 1, 10] (.cond (y 10) (.seq (.region [
 o1 4 (.mv (.const (.bool false)))]) .ret) .skip))) (.keep [0, 1] (.seq (.seq (.region [
 o1 5 (.mv (.const (.int .i64 0)))]) (.keep [0, 1, 5] (.block 0 (.loop [0, 1, 5] F10_23)))) (.keep [] (.seq (.region [
 o1 4 (.mv (.const (.bool true)))]) .ret))))))), [.tmp 4]⟩
def F8_4 : ICode := .region [
 o1 17 (.bin .lss (y 16) (y 15))]
def F8_23 : ICode := .keep [5, 6, 14, 15, 16, 17] (.seq (.cond (y 17) .skip (.exit 0)) (.keep [5, 6, 14, 15, 16] (.seq (.block 1 (.seq (.region [
 o1 18 (.idxA 2 none (y 14) (y 16)),
 o1 19 (.load (some 2) (y 18)),
 o1 8 (.new [.str [], .str []]),
 o0 (.store 2 (y 8) (y 19))]) (.keep [5, 6, 8, 14, 15, 16] (.seq (.region [
 o1 21 (.mv (y 5)),
 o1 22 (.load (some 2) (y 8)),
 o1 23 (.call .pure (y 21) [y 22]),
 o1 20 (.mv (y 23)),
 o1 24 (.extract (y 20) 0),
 o1 25 (.extract (y 20) 1),
 o1 9 (.new [.int .i64 0, .int .i64 0, .str [], .nils, .nils, .str [], .str [], .str [], .str [], .str [], .bool false, .int .i64 0, .int .i64 0, .nils, .nils, .int .i64 0, .int .i64 0, .str [], .nils, .nils]),
 o0 (.store 20 (y 9) (y 24)),
 o1 10 (.mv (y 25))]) (.keep [5, 6, 9, 10, 14, 15, 16] (.seq (.region [
 o1 26 (.mv (y 10))]) (.keep [5, 6, 9, 14, 15, 16, 26] (.cond (y 26) (.region [
 o1 27 (.mv (y 6)),
 o1 28 (.fieldA 5 (y 9)),
 o1 29 (.load none (y 28)),
 o1 30 (.buildSl false 1 1 [.str []] [(0, (y 29))]),
 o1 31 (.append 1 16 false (y 27) (y 30)),
 o1 6 (.mv (y 31))]) .skip)))))))) (.keep [5, 6, 14, 15, 16] (.region [
 o1 32 (.bin .add (y 16) (.const (.int .i64 1))),
 o1 16 (.mv (y 32))])))))
def F8_24 : ICode := .seq F8_4 F8_23
/-- introit/pick.Pick -/
def F8 : IFunc := ⟨(.seq (.region [
 o1 3 (.boxV (y 1)),
 o1 4 (.mv (.const (.nils)))]) (.keep [0, 3] (.seq (.region [
 o1 11 (.mv (y 0)),
 o1 12 (.mkfn 26 [y 11] []),
 o1 5 (.mv (y 12))]) (.keep [3, 5] (.seq (.region [
 o1 6 (.mv (.const (.nils)))]) (.keep [3, 5, 6] (.seq (.seq (.region [
 o1 13 (.loadV (some 20) (y 3)),
 o1 14 (.call .pure (.func 5) [y 13]),
 o1 15 (.len false (y 14)),
 o1 16 (.mv (.const (.int .i64 0)))]) (.keep [5, 6, 14, 15, 16] (.block 0 (.loop [5, 6, 14, 15, 16] F8_24)))) (.keep [6] (.seq (.region [
 o1 33 (.mv (y 6)),
 o1 4 (.mv (y 33))]) .ret))))))))), [.tmp 4]⟩
def F11_1 : ICode := .region [
 o1 5 (.fieldA 5 (y 2)),
 o1 6 (.loadV none (y 5)),
 o1 7 (.fieldA 5 (y 3)),
 o1 8 (.loadV none (y 7)),
 o1 9 (.bin .eql (y 6) (y 8)),
 o1 10 (.mv (y 9)),
 ⟨(some 11), (some (10, true)), .fieldA 6 (y 2)⟩,
 ⟨(some 12), (some (10, true)), .loadV none (y 11)⟩,
 ⟨(some 13), (some (10, true)), .fieldA 6 (y 3)⟩,
 ⟨(some 14), (some (10, true)), .loadV none (y 13)⟩,
 ⟨(some 15), (some (10, true)), .bin .eql (y 12) (y 14)⟩,
 o1 16 (.pick (y 10) (y 15) (.const (.bool false))),
 o1 17 (.mv (y 16)),
 ⟨(some 18), (some (17, true)), .fieldA 7 (y 2)⟩,
 ⟨(some 19), (some (17, true)), .loadV none (y 18)⟩,
 ⟨(some 20), (some (17, true)), .fieldA 7 (y 3)⟩,
 ⟨(some 21), (some (17, true)), .loadV none (y 20)⟩,
 ⟨(some 22), (some (17, true)), .bin .eql (y 19) (y 21)⟩,
 o1 23 (.pick (y 17) (y 22) (.const (.bool false))),
 o1 24 (.mv (y 23)),
 ⟨(some 25), (some (24, true)), .fieldA 8 (y 2)⟩,
 ⟨(some 26), (some (24, true)), .loadV none (y 25)⟩,
 ⟨(some 27), (some (24, true)), .fieldA 8 (y 3)⟩,
 ⟨(some 28), (some (24, true)), .loadV none (y 27)⟩,
 ⟨(some 29), (some (24, true)), .bin .eql (y 26) (y 28)⟩,
 o1 30 (.pick (y 24) (y 29) (.const (.bool false))),
 o1 31 (.mv (y 30)),
 ⟨(some 32), (some (31, true)), .fieldA 9 (y 2)⟩,
 ⟨(some 33), (some (31, true)), .loadV none (y 32)⟩,
 ⟨(some 34), (some (31, true)), .fieldA 9 (y 3)⟩,
 ⟨(some 35), (some (31, true)), .loadV none (y 34)⟩,
 ⟨(some 36), (some (31, true)), .bin .eql (y 33) (y 35)⟩,
 o1 37 (.pick (y 31) (y 36) (.const (.bool false))),
 o1 38 (.mv (y 37)),
 ⟨(some 39), (some (38, true)), .fieldA 10 (y 2)⟩,
 ⟨(some 40), (some (38, true)), .loadV none (y 39)⟩,
 ⟨(some 41), (some (38, true)), .fieldA 10 (y 3)⟩,
 ⟨(some 42), (some (38, true)), .loadV none (y 41)⟩,
 ⟨(some 43), (some (38, true)), .eqb false (y 40) (y 42)⟩,
 o1 44 (.pick (y 38) (y 43) (.const (.bool false))),
 o1 45 (.mv (y 44)),
 ⟨(some 46), (some (45, true)), .fieldA 11 (y 2)⟩,
 ⟨(some 47), (some (45, true)), .loadV none (y 46)⟩,
 ⟨(some 48), (some (45, true)), .fieldA 11 (y 3)⟩,
 ⟨(some 49), (some (45, true)), .loadV none (y 48)⟩,
 ⟨(some 50), (some (45, true)), .bin .eql (y 47) (y 49)⟩,
 o1 51 (.pick (y 45) (y 50) (.const (.bool false))),
 o1 52 (.mv (y 51)),
 ⟨(some 53), (some (52, true)), .fieldA 12 (y 2)⟩,
 ⟨(some 54), (some (52, true)), .loadV none (y 53)⟩,
 ⟨(some 55), (some (52, true)), .fieldA 12 (y 3)⟩,
 ⟨(some 56), (some (52, true)), .loadV none (y 55)⟩,
 ⟨(some 57), (some (52, true)), .bin .eql (y 54) (y 56)⟩,
 o1 58 (.pick (y 52) (y 57) (.const (.bool false))),
 o1 59 (.mv (y 58)),
 ⟨(some 60), (some (59, true)), .fieldA 13 (y 2)⟩,
 ⟨(some 61), (some (59, true)), .loadV none (y 60)⟩,
 ⟨(some 62), (some (59, true)), .fieldA 13 (y 3)⟩,
 ⟨(some 63), (some (59, true)), .loadV none (y 62)⟩,
 ⟨(some 64), (some (59, true)), .call .pure (.func 10) [y 61, y 63]⟩,
 o1 65 (.pick (y 59) (y 64) (.const (.bool false))),
 o1 66 (.mv (y 65)),
 ⟨(some 67), (some (66, true)), .fieldA 14 (y 2)⟩,
 ⟨(some 68), (some (66, true)), .loadV none (y 67)⟩,
 ⟨(some 69), (some (66, true)), .fieldA 14 (y 3)⟩,
 ⟨(some 70), (some (66, true)), .loadV none (y 69)⟩,
 ⟨(some 71), (some (66, true)), .call .pure (.func 10) [y 68, y 70]⟩,
 o1 72 (.pick (y 66) (y 71) (.const (.bool false))),
 o1 73 (.mv (y 72)),
 ⟨(some 74), (some (73, true)), .fieldA 15 (y 2)⟩,
 ⟨(some 75), (some (73, true)), .loadV (some 5) (y 74)⟩,
 ⟨(some 76), (some (73, true)), .fieldA 15 (y 3)⟩,
 ⟨(some 77), (some (73, true)), .loadV (some 5) (y 76)⟩,
 ⟨(some 78), (some (73, true)), .call .pure (.func 35) [y 75, y 77]⟩,
 o1 79 (.pick (y 73) (y 78) (.const (.bool false))),
 o1 80 (.mv (y 79)),
 ⟨(some 81), (some (80, true)), .fieldA 0 (y 2)⟩,
 ⟨(some 82), (some (80, true)), .loadV (some 5) (y 81)⟩,
 ⟨(some 83), (some (80, true)), .fieldA 0 (y 3)⟩,
 ⟨(some 84), (some (80, true)), .loadV (some 5) (y 83)⟩,
 ⟨(some 85), (some (80, true)), .call .pure (.func 35) [y 82, y 84]⟩,
 o1 86 (.pick (y 80) (y 85) (.const (.bool false))),
 o1 4 (.mv (y 86))]
/-- introit/introitref22.SameEvent -/
def F11 : IFunc := ⟨(.seq (.region [
 o1 2 (.boxV (y 0)),
 o1 3 (.boxV (y 1)),
 o1 4 (.mv (.const (.bool false)))]) (.keep [2, 3] (.seq F11_1 (.keep [4] .ret)))), [.tmp 4]⟩
def F20_5 : ICode := .region [
 o1 13 (.bin .lss (y 12) (y 11))]
def F20_21 : ICode := .keep [0, 2, 3, 10, 11, 12, 13] (.seq (.cond (y 13) .skip (.exit 0)) (.keep [0, 2, 3, 10, 11, 12] (.seq (.block 1 (.seq (.region [
 o1 14 (.mv (y 12)),
 o1 15 (.idxA 6 none (y 10) (y 12)),
 o1 16 (.load (some 6) (y 15)),
 o1 5 (.new [.str [], .int .i64 0, .int .i64 0, .str [], .nils, .nils]),
 o1 4 (.mv (y 14)),
 o0 (.store 6 (y 5) (y 16))]) (.keep [0, 2, 3, 4, 5, 10, 11, 12] (.seq (.region [
 o1 17 (.mv (y 4)),
 o1 18 (.bin .add (y 17) (.const (.int .i64 1))),
 o1 19 (.mv (y 0)),
 o1 20 (.len false (y 19)),
 o1 21 (.bin .eql (y 18) (y 20)),
 o1 22 (.mv (y 21)),
 ⟨(some 23), (some (22, false)), .mv (y 0)⟩,
 ⟨(some 24), (some (22, false)), .mv (y 4)⟩,
 ⟨(some 25), (some (22, false)), .bin .add (y 24) (.const (.int .i64 1))⟩,
 ⟨(some 26), (some (22, false)), .idxA 6 none (y 23) (y 25)⟩,
 ⟨(some 27), (some (22, false)), .fieldA 0 (y 26)⟩,
 ⟨(some 28), (some (22, false)), .load none (y 27)⟩,
 ⟨(some 29), (some (22, false)), .fieldA 0 (y 5)⟩,
 ⟨(some 30), (some (22, false)), .load none (y 29)⟩,
 ⟨(some 31), (some (22, false)), .bin .neq (y 28) (y 30)⟩,
 o1 32 (.pick (y 22) (.const (.bool true)) (y 31))]) (.keep [0, 2, 3, 5, 10, 11, 12, 32] (.cond (y 32) (.region [
 o1 33 (.mv (y 3)),
 o1 34 (.load (some 6) (y 5)),
 o1 35 (.buildSl false 6 1 [.str [], .int .i64 0, .int .i64 0, .str [], .nils, .nils] [(0, (y 34))]),
 o1 36 (.append 6 96 false (y 33) (y 35)),
 o1 3 (.mv (y 36))]) .skip)))))) (.keep [0, 2, 3, 10, 11, 12] (.region [
 o1 37 (.bin .add (y 12) (.const (.int .i64 1))),
 o1 12 (.mv (y 37))])))))
def F20_22 : ICode := .seq F20_5 F20_21
/-- introit/value.Map -/
def F20 : IFunc := ⟨(.seq (.region [
 o1 2 (.new [.int .i64 0, .int .i64 0, .str [], .nils, .nils])]) (.keep [0, 2] (.seq (.region [
 o1 6 (.mv (y 0)),
 o1 7 (.call .split (.func 38) [y 6]),
 o1 0 (.mv (y 7))]) (.keep [0, 2] (.seq (.region [
 o1 8 (.mv (y 0)),
 o1 9 (.call .shared (.func 39) [y 8, (.func 40)])]) (.keep [0, 2] (.seq (.region [
 o1 3 (.mv (.const (.nils)))]) (.keep [0, 2, 3] (.seq (.seq (.region [
 o1 10 (.mv (y 0)),
 o1 11 (.len false (y 10)),
 o1 12 (.mv (.const (.int .i64 0)))]) (.keep [0, 2, 3, 10, 11, 12] (.block 0 (.loop [0, 2, 3, 10, 11, 12] F20_22)))) (.keep [2, 3] (.seq (.region [
 o1 38 (.mv (y 3)),
 o1 39 (.build [.int .i64 0, .int .i64 0, .str [], .nils, .nils] [(0, 1, (.const (.int .i64 5))), (4, 1, (y 38))]),
 o0 (.store 5 (y 2) (y 39))]) .ret))))))))))), [.cell 2 (some 5)]⟩
/-- introit/value.Text -/
def F18 : IFunc := ⟨(.seq (.region [
 o1 2 (.new [.int .i64 0, .int .i64 0, .str [], .nils, .nils])]) (.keep [0, 2] (.seq (.region [
 o1 3 (.mv (y 0)),
 o1 4 (.build [.int .i64 0, .int .i64 0, .str [], .nils, .nils] [(0, 1, (.const (.int .i64 3))), (2, 1, (y 3))]),
 o0 (.store 5 (y 2) (y 4))]) .ret))), [.cell 2 (some 5)]⟩
/-- introit/value.Int -/
def F19 : IFunc := ⟨(.seq (.region [
 o1 2 (.new [.int .i64 0, .int .i64 0, .str [], .nils, .nils])]) (.keep [0, 2] (.seq (.region [
 o1 3 (.mv (y 0)),
 o1 4 (.build [.int .i64 0, .int .i64 0, .str [], .nils, .nils] [(0, 1, (.const (.int .i64 2))), (1, 1, (y 3))]),
 o0 (.store 5 (y 2) (y 4))]) .ret))), [.cell 2 (some 5)]⟩
/-- introit/introitlaw2.Light -/
def F24 : IFunc := ⟨(.seq (.region [
 o1 2 (.boxV (y 0)),
 o1 4 (.mv (.const (.bool false)))]) (.keep [1, 2] (.seq (.region [
 o1 5 (.loadV (some 5) (y 2)),
 o1 6 (.mv (y 1)),
 o1 7 (.call .pure (.func 47) [y 5, (.const (.int .i64 0)), y 6]),
 o1 8 (.mv (y 1)),
 o1 9 (.bin .leq (y 7) (y 8)),
 o1 4 (.mv (y 9))]) .ret))), [.tmp 4]⟩
/-- introit/value.Good -/
def F25 : IFunc := ⟨(.seq (.region [
 o1 1 (.boxV (y 0)),
 o1 2 (.mv (.const (.bool false)))]) (.keep [1] (.seq (.region [
 o1 3 (.loadV (some 5) (y 1)),
 o1 4 (.call .pure (.func 48) [y 3]),
 o1 5 (.mv (y 4)),
 ⟨(some 6), (some (5, true)), .loadV (some 5) (y 1)⟩,
 ⟨(some 7), (some (5, true)), .call .pure (.func 49) [y 6]⟩,
 ⟨(some 8), (some (5, true)), .bin .leq (y 7) (.const (.int .i64 50))⟩,
 o1 9 (.pick (y 5) (y 8) (.const (.bool false))),
 o1 2 (.mv (y 9))]) .ret))), [.tmp 2]⟩
/-- (introit/pick.state).of -/
def F26 : IFunc := ⟨(.seq (.region [
 o1 3 (.boxV (y 1)),
 o1 4 (.new [.int .i64 0, .int .i64 0, .str [], .nils, .nils, .str [], .str [], .str [], .str [], .str [], .bool false, .int .i64 0, .int .i64 0, .nils, .nils, .int .i64 0, .int .i64 0, .str [], .nils, .nils]),
 o1 5 (.mv (.const (.bool false)))]) (.keep [0, 3, 4] (.seq (.region [
 o1 7 (.mv (y 0)),
 o1 8 (.mkfn 50 [] [y 3]),
 o1 9 (.call .pure (.func 51) [y 7, y 8]),
 o1 6 (.mv (y 9))]) (.keep [0, 4, 6] (.seq (.seq (.region [
 o1 10 (.mv (y 6)),
 o1 11 (.bin .lss (y 10) (.const (.int .i64 0)))]) (.keep [0, 4, 6, 11] (.cond (y 11) (.seq (.region [
 o1 12 (.build [.int .i64 0, .int .i64 0, .str [], .nils, .nils, .str [], .str [], .str [], .str [], .str [], .bool false, .int .i64 0, .int .i64 0, .nils, .nils, .int .i64 0, .int .i64 0, .str [], .nils, .nils] []),
 o0 (.store 20 (y 4) (y 12)),
 o1 5 (.mv (.const (.bool false)))]) .ret) .skip))) (.keep [0, 4, 6] (.seq (.region [
 o1 13 (.mv (y 0)),
 o1 14 (.mv (y 6)),
 o1 15 (.idxA 20 none (y 13) (y 14)),
 o1 16 (.load (some 20) (y 15)),
 o1 17 (.call .pure (.func 52) [y 16]),
 o0 (.store 20 (y 4) (y 17)),
 o1 5 (.mv (.const (.bool true)))]) .ret))))))), [.cell 4 (some 20), .tmp 5]⟩
/-- introit/pick.Needs$1 -/
def F27 : IFunc := ⟨(.seq (.region [
 o1 2 (.boxV (y 0))]) (.keep [1, 2] (.seq (.region [
 o1 3 (.load none (y 1)),
 o1 4 (.loadV (some 2) (y 2)),
 o1 5 (.call .pure (.func 37) [y 3, y 4]),
 o1 6 (.un .not (y 5))]) (.keep [1, 2, 6] (.cond (y 6) (.region [
 o1 7 (.load none (y 1)),
 o1 8 (.loadV (some 2) (y 2)),
 o1 9 (.buildSl false 2 1 [.str [], .str []] [(0, (y 8))]),
 o1 10 (.append 2 32 false (y 7) (y 9)),
 o0 (.store 1 (y 1) (y 10))]) .skip))))), []⟩
/-- slices.Contains[[]introit/api.Slot,introit/api.Slot] -/
def F37 : IFunc := ⟨(.seq (.region [
 o1 3 (.boxV (y 1)),
 o1 4 (.mv (.const (.bool false)))]) (.keep [0, 3] (.seq (.region [
 o1 5 (.mv (y 0)),
 o1 6 (.loadV (some 2) (y 3)),
 o1 7 (.call .pure (.func 53) [y 5, y 6]),
 o1 8 (.bin .geq (y 7) (.const (.int .i64 0))),
 o1 4 (.mv (y 8))]) .ret))), [.tmp 4]⟩
/-- introit/rules.Membership -/
def F28 : IFunc := ⟨(.seq (.region [
 o1 1 (.boxV (y 0)),
 o1 2 (.mv (.const (.str [])))]) (.keep [1] (.seq (.region [
 o1 6 (.loadV (some 5) (y 1)),
 o1 7 (.call .pure (.func 43) [y 6]),
 o1 8 (.call .pure (.func 46) [y 7, (.const (.str [109, 101, 109, 98, 101, 114, 115, 104, 105, 112]))]),
 o1 5 (.mv (y 8)),
 o1 9 (.extract (y 5) 0),
 o1 10 (.extract (y 5) 1),
 o1 3 (.mv (y 9)),
 o1 4 (.mv (y 10))]) (.keep [3] (.seq (.region [
 o1 11 (.mv (y 3)),
 o1 2 (.mv (y 11))]) .ret))))), [.tmp 2]⟩
/-- introit/rules.Third -/
def F29 : IFunc := ⟨(.seq (.region [
 o1 1 (.boxV (y 0)),
 o1 2 (.mv (.const (.str []))),
 o1 3 (.mv (.const (.str []))),
 o1 4 (.mv (.const (.bool false)))]) (.keep [1] (.seq (.region [
 o1 12 (.loadV (some 5) (y 1)),
 o1 13 (.call .pure (.func 54) [y 12]),
 o1 11 (.mv (y 13)),
 o1 14 (.extract (y 11) 0),
 o1 15 (.extract (y 11) 1),
 o1 5 (.new [.int .i64 0, .int .i64 0, .str [], .nils, .nils]),
 o0 (.store 5 (y 5) (y 14)),
 o1 6 (.mv (y 15))]) (.keep [5, 6] (.seq (.seq (.region [
 o1 16 (.mv (y 6)),
 o1 17 (.un .not (y 16))]) (.keep [5, 17] (.cond (y 17) (.seq (.region [
 o1 2 (.mv (.const (.str []))),
 o1 3 (.mv (.const (.str []))),
 o1 4 (.mv (.const (.bool false)))]) .ret) .skip))) (.keep [5] (.seq (.region [
 o1 19 (.load (some 5) (y 5)),
 o1 20 (.call .pure (.func 46) [y 19, (.const (.str [116, 111, 107, 101, 110]))]),
 o1 18 (.mv (y 20)),
 o1 21 (.extract (y 18) 0),
 o1 22 (.extract (y 18) 1),
 o1 7 (.mv (y 21)),
 o1 8 (.mv (y 22))]) (.keep [5, 7] (.seq (.region [
 o1 24 (.load (some 5) (y 5)),
 o1 25 (.call .pure (.func 46) [y 24, (.const (.str [109, 120, 105, 100]))]),
 o1 23 (.mv (y 25)),
 o1 26 (.extract (y 23) 0),
 o1 27 (.extract (y 23) 1),
 o1 9 (.mv (y 26)),
 o1 10 (.mv (y 27))]) (.keep [7, 9] (.seq (.region [
 o1 28 (.mv (y 7)),
 o1 29 (.mv (y 9)),
 o1 2 (.mv (y 28)),
 o1 3 (.mv (y 29)),
 o1 4 (.mv (.const (.bool true)))]) .ret))))))))))), [.tmp 2, .tmp 3, .tmp 4]⟩
/-- introit/rules.Authoriser -/
def F30 : IFunc := ⟨(.seq (.region [
 o1 1 (.boxV (y 0)),
 o1 2 (.mv (.const (.str []))),
 o1 3 (.mv (.const (.bool false)))]) (.keep [1] (.seq (.region [
 o1 10 (.loadV (some 5) (y 1)),
 o1 11 (.call .pure (.func 43) [y 10]),
 o1 12 (.call .pure (.func 46) [y 11, (.const (.str [106, 111, 105, 110, 95, 97, 117, 116, 104, 111, 114, 105, 115, 101, 100, 95, 118, 105, 97, 95, 117, 115, 101, 114, 115, 95, 115, 101, 114, 118, 101, 114]))]),
 o1 9 (.mv (y 12)),
 o1 13 (.extract (y 9) 0),
 o1 14 (.extract (y 9) 1),
 o1 4 (.mv (y 13)),
 o1 5 (.mv (y 14))]) (.keep [4] (.seq (.seq (.region [
 o1 16 (.mv (y 4)),
 o1 17 (.call .pure (.func 55) [y 16]),
 o1 15 (.mv (y 17)),
 o1 18 (.extract (y 15) 0),
 o1 19 (.extract (y 15) 1),
 o1 20 (.extract (y 15) 2),
 o1 6 (.mv (y 18)),
 o1 7 (.mv (y 19)),
 o1 8 (.mv (y 20))]) (.keep [4, 8] (.seq (.region [
 o1 21 (.mv (y 8)),
 o1 22 (.un .not (y 21))]) (.keep [4, 22] (.cond (y 22) (.seq (.region [
 o1 2 (.mv (.const (.str []))),
 o1 3 (.mv (.const (.bool false)))]) .ret) .skip))))) (.keep [4] (.seq (.region [
 o1 23 (.mv (y 4)),
 o1 2 (.mv (y 23)),
 o1 3 (.mv (.const (.bool true)))]) .ret))))))), [.tmp 2, .tmp 3]⟩
def F35_11 : ICode := .seq (.region [
 o1 44 (.mv (y 5)),
 o1 45 (.fieldA 3 (y 2)),
 o1 46 (.loadV none (y 45)),
 o1 47 (.len false (y 46)),
 o1 48 (.bin .lss (y 44) (y 47))]) (.keep [2, 3, 5, 48] (.cond (y 48) .skip (.exit 0)))
def F35_22 : ICode := .keep [2, 3, 5] (.seq (.block 1 (.seq (.region [
 o1 51 (.fieldA 3 (y 2)),
 o1 52 (.loadV none (y 51)),
 o1 53 (.mv (y 5)),
 o1 54 (.idxA 5 none (y 52) (y 53)),
 o1 55 (.load (some 5) (y 54)),
 o1 56 (.fieldA 3 (y 3)),
 o1 57 (.loadV none (y 56)),
 o1 58 (.mv (y 5)),
 o1 59 (.idxA 5 none (y 57) (y 58)),
 o1 60 (.load (some 5) (y 59)),
 o1 61 (.call .strict (.func 35) [y 55, y 60]),
 o1 62 (.un .not (y 61))]) (.keep [2, 3, 5, 62] (.cond (y 62) (.seq (.region [
 o1 4 (.mv (.const (.bool false)))]) .ret) .skip)))) (.keep [2, 3, 5] (.region [
 o1 49 (.mv (y 5)),
 o1 50 (.bin .add (y 49) (.const (.int .i64 1))),
 o1 5 (.mv (y 50))])))
def F35_23 : ICode := .seq F35_11 F35_22
def F35_32 : ICode := .seq (.region [
 o1 63 (.mv (y 6)),
 o1 64 (.fieldA 4 (y 2)),
 o1 65 (.loadV none (y 64)),
 o1 66 (.len false (y 65)),
 o1 67 (.bin .lss (y 63) (y 66))]) (.keep [2, 3, 6, 67] (.cond (y 67) .skip (.exit 2)))
def F35_43 : ICode := .keep [2, 3, 6] (.seq (.block 3 (.seq (.region [
 o1 70 (.fieldA 4 (y 2)),
 o1 71 (.loadV none (y 70)),
 o1 72 (.mv (y 6)),
 o1 73 (.idxA 6 none (y 71) (y 72)),
 o1 74 (.fieldA 0 (y 73)),
 o1 75 (.load none (y 74)),
 o1 76 (.fieldA 4 (y 3)),
 o1 77 (.loadV none (y 76)),
 o1 78 (.mv (y 6)),
 o1 79 (.idxA 6 none (y 77) (y 78)),
 o1 80 (.fieldA 0 (y 79)),
 o1 81 (.load none (y 80)),
 o1 82 (.bin .neq (y 75) (y 81)),
 o1 83 (.mv (y 82)),
 ⟨(some 84), (some (83, false)), .fieldA 4 (y 2)⟩,
 ⟨(some 85), (some (83, false)), .loadV none (y 84)⟩,
 ⟨(some 86), (some (83, false)), .mv (y 6)⟩,
 ⟨(some 87), (some (83, false)), .idxA 6 none (y 85) (y 86)⟩,
 ⟨(some 88), (some (83, false)), .fieldA 1 (y 87)⟩,
 ⟨(some 89), (some (83, false)), .load (some 5) (y 88)⟩,
 ⟨(some 90), (some (83, false)), .fieldA 4 (y 3)⟩,
 ⟨(some 91), (some (83, false)), .loadV none (y 90)⟩,
 ⟨(some 92), (some (83, false)), .mv (y 6)⟩,
 ⟨(some 93), (some (83, false)), .idxA 6 none (y 91) (y 92)⟩,
 ⟨(some 94), (some (83, false)), .fieldA 1 (y 93)⟩,
 ⟨(some 95), (some (83, false)), .load (some 5) (y 94)⟩,
 ⟨(some 96), (some (83, false)), .call .strict (.func 35) [y 89, y 95]⟩,
 ⟨(some 97), (some (83, false)), .un .not (y 96)⟩,
 o1 98 (.pick (y 83) (.const (.bool true)) (y 97))]) (.keep [2, 3, 6, 98] (.cond (y 98) (.seq (.region [
 o1 4 (.mv (.const (.bool false)))]) .ret) .skip)))) (.keep [2, 3, 6] (.region [
 o1 68 (.mv (y 6)),
 o1 69 (.bin .add (y 68) (.const (.int .i64 1))),
 o1 6 (.mv (y 69))])))
def F35_44 : ICode := .seq F35_32 F35_43
def F35_48 : ICode := .seq (.region [
 o1 6 (.mv (.const (.int .i64 0)))]) (.keep [2, 3, 6] (.block 2 (.loop [2, 3, 6] F35_44)))
def F35_51 : ICode := .keep [] (.seq (.region [
 o1 4 (.mv (.const (.bool true)))]) .ret)
def F35_52 : ICode := .seq F35_48 F35_51
/-- introit/introitref1.Same -/
def F35 : IFunc := ⟨(.seq (.region [
 o1 2 (.boxV (y 0)),
 o1 3 (.boxV (y 1)),
 o1 4 (.mv (.const (.bool false)))]) (.keep [2, 3] (.seq (.seq (.region [
 o1 7 (.fieldA 0 (y 2)),
 o1 8 (.loadV none (y 7)),
 o1 9 (.fieldA 0 (y 3)),
 o1 10 (.loadV none (y 9)),
 o1 11 (.bin .neq (y 8) (y 10)),
 o1 12 (.mv (y 11)),
 ⟨(some 13), (some (12, false)), .fieldA 1 (y 2)⟩,
 ⟨(some 14), (some (12, false)), .loadV none (y 13)⟩,
 ⟨(some 15), (some (12, false)), .fieldA 1 (y 3)⟩,
 ⟨(some 16), (some (12, false)), .loadV none (y 15)⟩,
 ⟨(some 17), (some (12, false)), .bin .neq (y 14) (y 16)⟩,
 o1 18 (.pick (y 12) (.const (.bool true)) (y 17)),
 o1 19 (.mv (y 18)),
 ⟨(some 20), (some (19, false)), .fieldA 2 (y 2)⟩,
 ⟨(some 21), (some (19, false)), .loadV none (y 20)⟩,
 ⟨(some 22), (some (19, false)), .fieldA 2 (y 3)⟩,
 ⟨(some 23), (some (19, false)), .loadV none (y 22)⟩,
 ⟨(some 24), (some (19, false)), .bin .neq (y 21) (y 23)⟩,
 o1 25 (.pick (y 19) (.const (.bool true)) (y 24)),
 o1 26 (.mv (y 25)),
 ⟨(some 27), (some (26, false)), .fieldA 3 (y 2)⟩,
 ⟨(some 28), (some (26, false)), .loadV none (y 27)⟩,
 ⟨(some 29), (some (26, false)), .len false (y 28)⟩,
 ⟨(some 30), (some (26, false)), .fieldA 3 (y 3)⟩,
 ⟨(some 31), (some (26, false)), .loadV none (y 30)⟩,
 ⟨(some 32), (some (26, false)), .len false (y 31)⟩,
 ⟨(some 33), (some (26, false)), .bin .neq (y 29) (y 32)⟩,
 o1 34 (.pick (y 26) (.const (.bool true)) (y 33)),
 o1 35 (.mv (y 34)),
 ⟨(some 36), (some (35, false)), .fieldA 4 (y 2)⟩,
 ⟨(some 37), (some (35, false)), .loadV none (y 36)⟩,
 ⟨(some 38), (some (35, false)), .len false (y 37)⟩,
 ⟨(some 39), (some (35, false)), .fieldA 4 (y 3)⟩,
 ⟨(some 40), (some (35, false)), .loadV none (y 39)⟩,
 ⟨(some 41), (some (35, false)), .len false (y 40)⟩,
 ⟨(some 42), (some (35, false)), .bin .neq (y 38) (y 41)⟩,
 o1 43 (.pick (y 35) (.const (.bool true)) (y 42))]) (.keep [2, 3, 43] (.cond (y 43) (.seq (.region [
 o1 4 (.mv (.const (.bool false)))]) .ret) .skip))) (.keep [2, 3] (.seq (.seq (.region [
 o1 5 (.mv (.const (.int .i64 0)))]) (.keep [2, 3, 5] (.block 0 (.loop [2, 3, 5] F35_23)))) (.keep [2, 3] F35_52)))))), [.tmp 4]⟩
/-- introit/event.Slot -/
def F36 : IFunc := ⟨(.seq (.region [
 o1 1 (.boxV (y 0)),
 o1 2 (.new [.str [], .str []])]) (.keep [1, 2] (.seq (.region [
 o1 3 (.fieldA 7 (y 1)),
 o1 4 (.loadV none (y 3)),
 o1 5 (.fieldA 9 (y 1)),
 o1 6 (.loadV none (y 5)),
 o1 7 (.build [.str [], .str []] [(0, 1, (y 4)), (1, 1, (y 6))]),
 o0 (.store 2 (y 2) (y 7))]) .ret))), [.cell 2 (some 2)]⟩
/-- slices.Clone[[]introit/api.Member,introit/api.Member] -/
def F38 : IFunc := ⟨(.seq (.region [
 o1 2 (.mv (.const (.nils)))]) (.keep [0] (.seq (.seq (.region [
 o1 3 (.mv (y 0)),
 o1 4 (.eqn .sl false (y 3))]) (.keep [0, 4] (.cond (y 4) (.seq (.region [
 o1 2 (.mv (.const (.nils)))]) .ret) .skip))) (.keep [0] (.seq (.region [
 o1 5 (.buildSl false 6 0 [.str [], .int .i64 0, .int .i64 0, .str [], .nils, .nils] []),
 o1 6 (.mv (y 0)),
 o1 7 (.append 6 96 false (y 5) (y 6)),
 o1 2 (.mv (y 7))]) .ret))))), [.tmp 2]⟩
/-- slices.SortStableFunc[[]introit/api.Member,introit/api.Member] -/
def F39 : IFunc := ⟨(.region [
 o1 4 (.mv (y 0)),
 o1 5 (.mv (y 0)),
 o1 6 (.len false (y 5)),
 o1 7 (.mv (y 1)),
 o1 8 (.call .shared (.func 60) [y 4, y 6, y 7])]), []⟩
/-- introit/value.key -/
def F40 : IFunc := ⟨(.seq (.region [
 o1 2 (.boxV (y 0)),
 o1 3 (.boxV (y 1)),
 o1 4 (.mv (.const (.int .i64 0)))]) (.keep [2, 3] (.seq (.block 0 (.seq (.region [
 o1 6 (.fieldA 0 (y 2)),
 o1 7 (.loadV none (y 6)),
 o1 8 (.fieldA 0 (y 3)),
 o1 9 (.loadV none (y 8)),
 o1 10 (.call .pure (.func 61) [y 7, y 9]),
 o1 5 (.mv (y 10))]) (.keep [2, 3, 5] (.cond (y 5) (.seq (.region [
 o1 4 (.mv (.const (.int .i64 (-1))))]) .ret) (.seq (.region [
 o1 12 (.fieldA 0 (y 3)),
 o1 13 (.loadV none (y 12)),
 o1 14 (.fieldA 0 (y 2)),
 o1 15 (.loadV none (y 14)),
 o1 16 (.call .pure (.func 61) [y 13, y 15]),
 o1 11 (.mv (y 16))]) (.keep [11] (.cond (y 11) (.seq (.region [
 o1 4 (.mv (.const (.int .i64 1)))]) .ret) .skip))))))) (.keep [] (.seq (.region [
 o1 4 (.mv (.const (.int .i64 0)))]) .ret))))), [.tmp 4]⟩
/-- introit/rules.said -/
def F43 : IFunc := ⟨(.seq (.region [
 o1 1 (.boxV (y 0)),
 o1 2 (.new [.int .i64 0, .int .i64 0, .str [], .nils, .nils])]) (.keep [1, 2] (.seq (.seq (.region [
 o1 3 (.loadV (some 5) (y 1)),
 o1 4 (.call .pure (.func 25) [y 3]),
 o1 5 (.un .not (y 4)),
 o1 6 (.mv (y 5)),
 ⟨(some 7), (some (6, false)), .fieldA 0 (y 1)⟩,
 ⟨(some 8), (some (6, false)), .loadV none (y 7)⟩,
 ⟨(some 9), (some (6, false)), .bin .neq (y 8) (.const (.int .i64 5))⟩,
 o1 10 (.pick (y 6) (.const (.bool true)) (y 9))]) (.keep [1, 2, 10] (.cond (y 10) (.seq (.region [
 o1 11 (.build [.int .i64 0, .int .i64 0, .str [], .nils, .nils] []),
 o0 (.store 5 (y 2) (y 11))]) .ret) .skip))) (.keep [1, 2] (.seq (.region [
 o1 12 (.loadV (some 5) (y 1)),
 o0 (.store 5 (y 2) (y 12))]) .ret))))), [.cell 2 (some 5)]⟩
/-- slices.Contains[[]string,string] -/
def F45 : IFunc := ⟨(.seq (.region [
 o1 4 (.mv (.const (.bool false)))]) (.keep [0, 1] (.seq (.region [
 o1 5 (.mv (y 0)),
 o1 6 (.mv (y 1)),
 o1 7 (.call .pure (.func 64) [y 5, y 6]),
 o1 8 (.bin .geq (y 7) (.const (.int .i64 0))),
 o1 4 (.mv (y 8))]) .ret))), [.tmp 4]⟩
/-- introit/value.TextAt -/
def F46 : IFunc := ⟨(.seq (.region [
 o1 2 (.boxV (y 0)),
 o1 4 (.mv (.const (.str []))),
 o1 5 (.mv (.const (.bool false)))]) (.keep [1, 2] (.seq (.region [
 o1 9 (.loadV (some 5) (y 2)),
 o1 10 (.mv (y 1)),
 o1 11 (.call .pure (.func 63) [y 9, y 10]),
 o1 8 (.mv (y 11)),
 o1 12 (.extract (y 8) 0),
 o1 13 (.extract (y 8) 1),
 o1 6 (.new [.int .i64 0, .int .i64 0, .str [], .nils, .nils]),
 o0 (.store 5 (y 6) (y 12)),
 o1 7 (.mv (y 13))]) (.keep [6, 7] (.seq (.seq (.region [
 o1 14 (.mv (y 7)),
 o1 15 (.un .not (y 14)),
 o1 16 (.mv (y 15)),
 ⟨(some 17), (some (16, false)), .fieldA 0 (y 6)⟩,
 ⟨(some 18), (some (16, false)), .load none (y 17)⟩,
 ⟨(some 19), (some (16, false)), .bin .neq (y 18) (.const (.int .i64 3))⟩,
 o1 20 (.pick (y 16) (.const (.bool true)) (y 19))]) (.keep [6, 20] (.cond (y 20) (.seq (.region [
 o1 4 (.mv (.const (.str []))),
 o1 5 (.mv (.const (.bool false)))]) .ret) .skip))) (.keep [6] (.seq (.region [
 o1 21 (.fieldA 2 (y 6)),
 o1 22 (.load none (y 21)),
 o1 4 (.mv (y 22)),
 o1 5 (.mv (.const (.bool true)))]) .ret))))))), [.tmp 4, .tmp 5]⟩
def F47_12 : ICode := .seq (.region [
 o1 18 (.mv (y 8)),
 o1 19 (.fieldA 3 (y 3)),
 o1 20 (.loadV none (y 19)),
 o1 21 (.len false (y 20)),
 o1 22 (.bin .lss (y 18) (y 21)),
 o1 23 (.mv (y 22)),
 ⟨(some 24), (some (23, true)), .mv (y 7)⟩,
 ⟨(some 25), (some (23, true)), .mv (y 2)⟩,
 ⟨(some 26), (some (23, true)), .bin .leq (y 24) (y 25)⟩,
 o1 27 (.pick (y 23) (y 26) (.const (.bool false)))]) (.keep [1, 2, 3, 7, 8, 27] (.cond (y 27) .skip (.exit 0)))
def F47_18 : ICode := .keep [1, 2, 3, 7, 8] (.seq (.block 1 (.region [
 o1 30 (.mv (y 7)),
 o1 31 (.fieldA 3 (y 3)),
 o1 32 (.loadV none (y 31)),
 o1 33 (.mv (y 8)),
 o1 34 (.idxA 5 none (y 32) (y 33)),
 o1 35 (.load (some 5) (y 34)),
 o1 36 (.mv (y 1)),
 o1 37 (.bin .add (y 36) (.const (.int .i64 1))),
 o1 38 (.mv (y 2)),
 o1 39 (.call .pure (.func 47) [y 35, y 37, y 38]),
 o1 40 (.bin .add (y 30) (y 39)),
 o1 7 (.mv (y 40))])) (.keep [1, 2, 3, 7, 8] (.region [
 o1 28 (.mv (y 8)),
 o1 29 (.bin .add (y 28) (.const (.int .i64 1))),
 o1 8 (.mv (y 29))])))
def F47_19 : ICode := .seq F47_12 F47_18
def F47_28 : ICode := .seq (.region [
 o1 41 (.mv (y 9)),
 o1 42 (.fieldA 4 (y 3)),
 o1 43 (.loadV none (y 42)),
 o1 44 (.len false (y 43)),
 o1 45 (.bin .lss (y 41) (y 44)),
 o1 46 (.mv (y 45)),
 ⟨(some 47), (some (46, true)), .mv (y 7)⟩,
 ⟨(some 48), (some (46, true)), .mv (y 2)⟩,
 ⟨(some 49), (some (46, true)), .bin .leq (y 47) (y 48)⟩,
 o1 50 (.pick (y 46) (y 49) (.const (.bool false)))]) (.keep [1, 2, 3, 7, 9, 50] (.cond (y 50) .skip (.exit 2)))
def F47_34 : ICode := .keep [1, 2, 3, 7, 9] (.seq (.block 3 (.region [
 o1 53 (.mv (y 7)),
 o1 54 (.fieldA 4 (y 3)),
 o1 55 (.loadV none (y 54)),
 o1 56 (.mv (y 9)),
 o1 57 (.idxA 6 none (y 55) (y 56)),
 o1 58 (.fieldA 0 (y 57)),
 o1 59 (.load none (y 58)),
 o1 60 (.len true (y 59)),
 o1 61 (.fieldA 4 (y 3)),
 o1 62 (.loadV none (y 61)),
 o1 63 (.mv (y 9)),
 o1 64 (.idxA 6 none (y 62) (y 63)),
 o1 65 (.fieldA 1 (y 64)),
 o1 66 (.load (some 5) (y 65)),
 o1 67 (.mv (y 1)),
 o1 68 (.bin .add (y 67) (.const (.int .i64 1))),
 o1 69 (.mv (y 2)),
 o1 70 (.call .strict (.func 47) [y 66, y 68, y 69]),
 o1 71 (.bin .add (y 60) (y 70)),
 o1 72 (.bin .add (y 53) (y 71)),
 o1 7 (.mv (y 72))])) (.keep [1, 2, 3, 7, 9] (.region [
 o1 51 (.mv (y 9)),
 o1 52 (.bin .add (y 51) (.const (.int .i64 1))),
 o1 9 (.mv (y 52))])))
def F47_35 : ICode := .seq F47_28 F47_34
def F47_39 : ICode := .seq (.region [
 o1 9 (.mv (.const (.int .i64 0)))]) (.keep [1, 2, 3, 7, 9] (.block 2 (.loop [1, 2, 3, 7, 9] F47_35)))
def F47_42 : ICode := .keep [7] (.seq (.region [
 o1 73 (.mv (y 7)),
 o1 6 (.mv (y 73))]) .ret)
def F47_43 : ICode := .seq F47_39 F47_42
/-- introit/introitlaw2.weight -/
def F47 : IFunc := ⟨(.seq (.region [
 o1 3 (.boxV (y 0)),
 o1 6 (.mv (.const (.int .i64 0)))]) (.keep [1, 2, 3] (.seq (.region [
 o1 10 (.fieldA 2 (y 3)),
 o1 11 (.loadV none (y 10)),
 o1 12 (.len true (y 11)),
 o1 13 (.bin .add (.const (.int .i64 1)) (y 12)),
 o1 7 (.mv (y 13))]) (.keep [1, 2, 3, 7] (.seq (.seq (.region [
 o1 14 (.mv (y 1)),
 o1 15 (.bin .gtr (y 14) (.const (.int .i64 70)))]) (.keep [1, 2, 3, 7, 15] (.cond (y 15) (.seq (.region [
 o1 16 (.mv (y 2)),
 o1 17 (.bin .add (y 16) (.const (.int .i64 1))),
 o1 6 (.mv (y 17))]) .ret) .skip))) (.keep [1, 2, 3, 7] (.seq (.seq (.region [
 o1 8 (.mv (.const (.int .i64 0)))]) (.keep [1, 2, 3, 7, 8] (.block 0 (.loop [1, 2, 3, 7, 8] F47_19)))) (.keep [1, 2, 3, 7] F47_43)))))))), [.tmp 6]⟩
/-- introit/value.fine -/
def F48 : IFunc := ⟨(.seq (.region [
 o1 1 (.boxV (y 0)),
 o1 2 (.mv (.const (.bool false)))]) (.keep [1] (.seq (.region [
 o1 6 (.fieldA 0 (y 1)),
 o1 7 (.loadV none (y 6)),
 o1 8 (.call .pure (.func 65) [y 7]),
 o1 5 (.mv (y 8)),
 o1 9 (.extract (y 5) 0),
 o1 10 (.extract (y 5) 1),
 o1 3 (.mv (y 9)),
 o1 4 (.mv (y 10))]) (.keep [1, 3, 4] (.seq (.region [
 o1 11 (.mv (y 4)),
 o1 12 (.mv (y 11)),
 ⟨(some 13), (some (12, true)), .mv (y 3)⟩,
 ⟨(some 14), (some (12, true)), .loadV (some 5) (y 1)⟩,
 ⟨(some 15), (some (12, true)), .call .pure (y 13) [y 14]⟩,
 o1 16 (.pick (y 12) (y 15) (.const (.bool false))),
 o1 2 (.mv (y 16))]) .ret))))), [.tmp 2]⟩
def F49_5 : ICode := .region [
 o1 16 (.bin .lss (y 15) (y 14))]
def F49_17 : ICode := .keep [3, 13, 14, 15, 16] (.seq (.cond (y 16) .skip (.exit 1)) (.keep [3, 13, 14, 15] (.seq (.block 2 (.seq (.region [
 o1 17 (.idxA 5 none (y 13) (y 15)),
 o1 18 (.load (some 5) (y 17)),
 o1 5 (.new [.int .i64 0, .int .i64 0, .str [], .nils, .nils]),
 o0 (.store 5 (y 5) (y 18))]) (.keep [3, 5, 13, 14, 15] (.region [
 o1 19 (.mv (y 3)),
 o1 20 (.load (some 5) (y 5)),
 o1 21 (.call .pure (.func 49) [y 20]),
 o1 22 (.max2 false (y 19) (y 21)),
 o1 3 (.mv (y 22))])))) (.keep [3, 13, 14, 15] (.region [
 o1 23 (.bin .add (y 15) (.const (.int .i64 1))),
 o1 15 (.mv (y 23))])))))
def F49_18 : ICode := .seq F49_5 F49_17
def F49_25 : ICode := .region [
 o1 30 (.bin .lss (y 29) (y 28))]
def F49_37 : ICode := .keep [3, 27, 28, 29, 30] (.seq (.cond (y 30) .skip (.exit 3)) (.keep [3, 27, 28, 29] (.seq (.block 4 (.seq (.region [
 o1 31 (.idxA 6 none (y 27) (y 29)),
 o1 32 (.load (some 6) (y 31)),
 o1 7 (.new [.str [], .int .i64 0, .int .i64 0, .str [], .nils, .nils]),
 o0 (.store 6 (y 7) (y 32))]) (.keep [3, 7, 27, 28, 29] (.region [
 o1 33 (.mv (y 3)),
 o1 34 (.fieldA 1 (y 7)),
 o1 35 (.load (some 5) (y 34)),
 o1 36 (.call .pure (.func 49) [y 35]),
 o1 37 (.max2 false (y 33) (y 36)),
 o1 3 (.mv (y 37))])))) (.keep [3, 27, 28, 29] (.region [
 o1 38 (.bin .add (y 29) (.const (.int .i64 1))),
 o1 29 (.mv (y 38))])))))
def F49_38 : ICode := .seq F49_25 F49_37
/-- introit/value.Depth -/
def F49 : IFunc := ⟨(.seq (.region [
 o1 1 (.boxV (y 0)),
 o1 2 (.mv (.const (.int .i64 0)))]) (.keep [1] (.seq (.region [
 o1 3 (.mv (.const (.int .i64 0)))]) (.keep [1, 3] (.seq (.seq (.region [
 o1 8 (.fieldA 0 (y 1)),
 o1 9 (.loadV none (y 8))]) (.keep [1, 3, 9] (.block 0 (.seq (.region [
 o1 11 (.bin .eql (y 9) (.const (.int .i64 4))),
 o1 10 (.mv (y 11))]) (.keep [1, 3, 9, 10] (.cond (y 10) (.seq (.region [
 o1 12 (.fieldA 3 (y 1)),
 o1 13 (.loadV none (y 12)),
 o1 14 (.len false (y 13)),
 o1 15 (.mv (.const (.int .i64 0)))]) (.keep [3, 13, 14, 15] (.block 1 (.loop [3, 13, 14, 15] F49_18)))) (.seq (.region [
 o1 25 (.bin .eql (y 9) (.const (.int .i64 5))),
 o1 24 (.mv (y 25))]) (.keep [1, 3, 24] (.cond (y 24) (.seq (.region [
 o1 26 (.fieldA 4 (y 1)),
 o1 27 (.loadV none (y 26)),
 o1 28 (.len false (y 27)),
 o1 29 (.mv (.const (.int .i64 0)))]) (.keep [3, 27, 28, 29] (.block 3 (.loop [3, 27, 28, 29] F49_38)))) (.seq (.region [
 o1 2 (.mv (.const (.int .i64 0)))]) .ret)))))))))) (.keep [3] (.seq (.region [
 o1 39 (.mv (y 3)),
 o1 40 (.bin .add (y 39) (.const (.int .i64 1))),
 o1 2 (.mv (y 40))]) .ret))))))), [.tmp 2]⟩
def F51_2 : ICode := .region [
 o1 9 (.bin .lss (y 8) (y 7))]
def F51_19 : ICode := .keep [0, 1, 7, 8, 9] (.seq (.cond (y 9) .skip (.exit 0)) (.keep [0, 1, 7, 8] (.seq (.block 1 (.seq (.region [
 o1 10 (.mv (y 8)),
 o1 5 (.mv (y 10))]) (.keep [0, 1, 5, 7, 8] (.seq (.region [
 o1 11 (.mv (y 1)),
 o1 12 (.mv (y 0)),
 o1 13 (.mv (y 5)),
 o1 14 (.idxA 20 none (y 12) (y 13)),
 o1 15 (.load (some 20) (y 14)),
 o1 16 (.call .pure (y 11) [y 15])]) (.keep [0, 1, 5, 7, 8, 16] (.cond (y 16) (.seq (.region [
 o1 17 (.mv (y 5)),
 o1 4 (.mv (y 17))]) .ret) .skip)))))) (.keep [0, 1, 7, 8] (.region [
 o1 18 (.bin .add (y 8) (.const (.int .i64 1))),
 o1 8 (.mv (y 18))])))))
def F51_20 : ICode := .seq F51_2 F51_19
/-- slices.IndexFunc[introit/pick.state,introit/api.Event] -/
def F51 : IFunc := ⟨(.seq (.region [
 o1 4 (.mv (.const (.int .i64 0)))]) (.keep [0, 1] (.seq (.seq (.region [
 o1 6 (.mv (y 0)),
 o1 7 (.len false (y 6)),
 o1 8 (.mv (.const (.int .i64 0)))]) (.keep [0, 1, 7, 8] (.block 0 (.loop [0, 1, 7, 8] F51_20)))) (.keep [] (.seq (.region [
 o1 4 (.mv (.const (.int .i64 (-1))))]) .ret))))), [.tmp 4]⟩
/-- (introit/pick.state).of$1 -/
def F50 : IFunc := ⟨(.seq (.region [
 o1 2 (.boxV (y 0)),
 o1 3 (.mv (.const (.bool false)))]) (.keep [1, 2] (.seq (.region [
 o1 4 (.fieldA 10 (y 2)),
 o1 5 (.loadV none (y 4)),
 o1 6 (.mv (y 5)),
 ⟨(some 7), (some (6, true)), .loadV (some 20) (y 2)⟩,
 ⟨(some 8), (some (6, true)), .call .strict (.func 36) [y 7]⟩,
 ⟨(some 9), (some (6, true)), .load (some 2) (y 1)⟩,
 ⟨(some 10), (some (6, true)), .eqs [.str, .str] false (y 8) (y 9)⟩,
 o1 11 (.pick (y 6) (y 10) (.const (.bool false))),
 o1 3 (.mv (y 11))]) .ret))), [.tmp 3]⟩
/-- introit/event.Copy -/
def F52 : IFunc := ⟨(.seq (.region [
 o1 1 (.box (y 0)),
 o1 2 (.new [.int .i64 0, .int .i64 0, .str [], .nils, .nils, .str [], .str [], .str [], .str [], .str [], .bool false, .int .i64 0, .int .i64 0, .nils, .nils, .int .i64 0, .int .i64 0, .str [], .nils, .nils])]) (.keep [1, 2] (.seq (.region [
 o1 3 (.fieldA 13 (y 1)),
 o1 4 (.load none (y 3)),
 o1 5 (.call .splitS (.func 66) [y 4]),
 o1 6 (.fieldA 14 (y 1)),
 o1 7 (.load none (y 6)),
 o1 8 (.call .splitS (.func 66) [y 7]),
 o1 9 (.fieldA 13 (y 1)),
 o0 (.store 1 (y 9) (y 5)),
 o1 10 (.fieldA 14 (y 1)),
 o0 (.store 1 (y 10) (y 8))]) (.keep [1, 2] (.seq (.region [
 o1 11 (.load (some 20) (y 1)),
 o0 (.store 20 (y 2) (y 11))]) .ret))))), [.cell 2 (some 20)]⟩
def F53_2 : ICode := .region [
 o1 9 (.bin .lss (y 8) (y 7))]
def F53_19 : ICode := .keep [0, 3, 7, 8, 9] (.seq (.cond (y 9) .skip (.exit 0)) (.keep [0, 3, 7, 8] (.seq (.block 1 (.seq (.region [
 o1 10 (.mv (y 8)),
 o1 5 (.mv (y 10))]) (.keep [0, 3, 5, 7, 8] (.seq (.region [
 o1 11 (.loadV (some 2) (y 3)),
 o1 12 (.mv (y 0)),
 o1 13 (.mv (y 5)),
 o1 14 (.idxA 2 none (y 12) (y 13)),
 o1 15 (.load (some 2) (y 14)),
 o1 16 (.eqs [.str, .str] false (y 11) (y 15))]) (.keep [0, 3, 5, 7, 8, 16] (.cond (y 16) (.seq (.region [
 o1 17 (.mv (y 5)),
 o1 4 (.mv (y 17))]) .ret) .skip)))))) (.keep [0, 3, 7, 8] (.region [
 o1 18 (.bin .add (y 8) (.const (.int .i64 1))),
 o1 8 (.mv (y 18))])))))
def F53_20 : ICode := .seq F53_2 F53_19
/-- slices.Index[[]introit/api.Slot,introit/api.Slot] -/
def F53 : IFunc := ⟨(.seq (.region [
 o1 3 (.boxV (y 1)),
 o1 4 (.mv (.const (.int .i64 0)))]) (.keep [0, 3] (.seq (.seq (.region [
 o1 6 (.mv (y 0)),
 o1 7 (.len false (y 6)),
 o1 8 (.mv (.const (.int .i64 0)))]) (.keep [0, 3, 7, 8] (.block 0 (.loop [0, 3, 7, 8] F53_20)))) (.keep [] (.seq (.region [
 o1 4 (.mv (.const (.int .i64 (-1))))]) .ret))))), [.tmp 4]⟩
/-- introit/rules.signed -/
def F54 : IFunc := ⟨(.seq (.region [
 o1 1 (.boxV (y 0)),
 o1 2 (.new [.int .i64 0, .int .i64 0, .str [], .nils, .nils]),
 o1 3 (.mv (.const (.bool false)))]) (.keep [1, 2] (.seq (.region [
 o1 13 (.loadV (some 5) (y 1)),
 o1 14 (.call .pure (.func 43) [y 13]),
 o1 15 (.call .pure (.func 67) [y 14, (.const (.str [116, 104, 105, 114, 100, 95, 112, 97, 114, 116, 121, 95, 105, 110, 118, 105, 116, 101]))]),
 o1 12 (.mv (y 15)),
 o1 16 (.extract (y 12) 0),
 o1 17 (.extract (y 12) 1),
 o1 4 (.new [.int .i64 0, .int .i64 0, .str [], .nils, .nils]),
 o0 (.store 5 (y 4) (y 16)),
 o1 5 (.mv (y 17))]) (.keep [2, 4] (.seq (.region [
 o1 19 (.load (some 5) (y 4)),
 o1 20 (.call .pure (.func 67) [y 19, (.const (.str [115, 105, 103, 110, 101, 100]))]),
 o1 18 (.mv (y 20)),
 o1 21 (.extract (y 18) 0),
 o1 22 (.extract (y 18) 1),
 o1 6 (.new [.int .i64 0, .int .i64 0, .str [], .nils, .nils]),
 o0 (.store 5 (y 6) (y 21)),
 o1 7 (.mv (y 22))]) (.keep [2, 6, 7] (.seq (.region [
 o1 24 (.load (some 5) (y 6)),
 o1 25 (.call .pure (.func 46) [y 24, (.const (.str [116, 111, 107, 101, 110]))]),
 o1 23 (.mv (y 25)),
 o1 26 (.extract (y 23) 0),
 o1 27 (.extract (y 23) 1),
 o1 8 (.mv (y 26)),
 o1 9 (.mv (y 27))]) (.keep [2, 6, 7, 9] (.seq (.region [
 o1 29 (.load (some 5) (y 6)),
 o1 30 (.call .pure (.func 46) [y 29, (.const (.str [109, 120, 105, 100]))]),
 o1 28 (.mv (y 30)),
 o1 31 (.extract (y 28) 0),
 o1 32 (.extract (y 28) 1),
 o1 10 (.mv (y 31)),
 o1 11 (.mv (y 32))]) (.keep [2, 6, 7, 9, 11] (.seq (.region [
 o1 33 (.load (some 5) (y 6)),
 o1 34 (.mv (y 7)),
 o1 35 (.mv (y 34)),
 ⟨(some 36), (some (35, true)), .mv (y 9)⟩,
 o1 37 (.pick (y 35) (y 36) (.const (.bool false))),
 o1 38 (.mv (y 37)),
 ⟨(some 39), (some (38, true)), .mv (y 11)⟩,
 o1 40 (.pick (y 38) (y 39) (.const (.bool false))),
 o0 (.store 5 (y 2) (y 33)),
 o1 3 (.mv (y 40))]) .ret))))))))))), [.cell 2 (some 5), .tmp 3]⟩
/-- introit/ident.User -/
def F55 : IFunc := ⟨(.seq (.region [
 o1 2 (.mv (.const (.str []))),
 o1 3 (.mv (.const (.str []))),
 o1 4 (.mv (.const (.bool false)))]) (.keep [0] (.seq (.region [
 o1 5 (.mv (y 0)),
 o1 6 (.call .pure (.func 68) [y 5, (.const (.int .u8 64))]),
 o1 7 (.extract (y 6) 0),
 o1 8 (.extract (y 6) 1),
 o1 9 (.extract (y 6) 2),
 o1 2 (.mv (y 7)),
 o1 3 (.mv (y 8)),
 o1 4 (.mv (y 9))]) .ret))), [.tmp 2, .tmp 3, .tmp 4]⟩
def F60_27 : ICode := .seq (.region [
 o1 33 (.mv (y 8)),
 o1 34 (.mv (y 1)),
 o1 35 (.bin .leq (y 33) (y 34))]) (.keep [0, 1, 2, 6, 7, 8, 35] (.cond (y 35) .skip (.exit 4)))
def F60_36 : ICode := .keep [0, 1, 2, 6, 7, 8] (.block 5 (.seq (.region [
 o1 36 (.mv (y 0)),
 o1 37 (.mv (y 7)),
 o1 38 (.mv (y 7)),
 o1 39 (.mv (y 6)),
 o1 40 (.bin .add (y 38) (y 39)),
 o1 41 (.mv (y 8)),
 o1 42 (.mv (y 2)),
 o1 43 (.call .shared (.func 73) [y 36, y 37, y 40, y 41, y 42])]) (.keep [0, 1, 2, 6, 8] (.seq (.region [
 o1 44 (.mv (y 8)),
 o1 7 (.mv (y 44))]) (.keep [0, 1, 2, 6, 7, 8] (.region [
 o1 45 (.mv (y 8)),
 o1 46 (.mv (y 6)),
 o1 47 (.bin .mul (.const (.int .i64 2)) (y 46)),
 o1 48 (.bin .add (y 45) (y 47)),
 o1 8 (.mv (y 48))]))))))
def F60_37 : ICode := .seq F60_27 F60_36
/-- slices.stableCmpFunc[introit/api.Member] -/
def F60 : IFunc := ⟨(.seq (.region [
 o1 6 (.mv (.const (.int .i64 20)))]) (.keep [0, 1, 2, 6] (.seq (.region [
 o1 10 (.mv (y 6)),
 o1 7 (.mv (.const (.int .i64 0))),
 o1 8 (.mv (y 10))]) (.keep [0, 1, 2, 6, 7, 8] (.seq (.block 0 (.loop [0, 1, 2, 6, 7, 8] (.seq (.seq (.region [
 o1 11 (.mv (y 8)),
 o1 12 (.mv (y 1)),
 o1 13 (.bin .leq (y 11) (y 12))]) (.keep [0, 1, 2, 6, 7, 8, 13] (.cond (y 13) .skip (.exit 0)))) (.keep [0, 1, 2, 6, 7, 8] (.block 1 (.seq (.region [
 o1 14 (.mv (y 0)),
 o1 15 (.mv (y 7)),
 o1 16 (.mv (y 8)),
 o1 17 (.mv (y 2)),
 o1 18 (.call .shared (.func 72) [y 14, y 15, y 16, y 17])]) (.keep [0, 1, 2, 6, 8] (.seq (.region [
 o1 19 (.mv (y 8)),
 o1 7 (.mv (y 19))]) (.keep [0, 1, 2, 6, 7, 8] (.region [
 o1 20 (.mv (y 8)),
 o1 21 (.mv (y 6)),
 o1 22 (.bin .add (y 20) (y 21)),
 o1 8 (.mv (y 22))])))))))))) (.keep [0, 1, 2, 6, 7] (.seq (.region [
 o1 23 (.mv (y 0)),
 o1 24 (.mv (y 7)),
 o1 25 (.mv (y 1)),
 o1 26 (.mv (y 2)),
 o1 27 (.call .shared (.func 72) [y 23, y 24, y 25, y 26])]) (.keep [0, 1, 2, 6] (.block 2 (.loop [0, 1, 2, 6] (.seq (.seq (.region [
 o1 28 (.mv (y 6)),
 o1 29 (.mv (y 1)),
 o1 30 (.bin .lss (y 28) (y 29))]) (.keep [0, 1, 2, 6, 30] (.cond (y 30) .skip (.exit 2)))) (.keep [0, 1, 2, 6] (.block 3 (.seq (.region [
 o1 31 (.mv (y 6)),
 o1 32 (.bin .mul (.const (.int .i64 2)) (y 31)),
 o1 7 (.mv (.const (.int .i64 0))),
 o1 8 (.mv (y 32))]) (.keep [0, 1, 2, 6, 7, 8] (.seq (.block 4 (.loop [0, 1, 2, 6, 7, 8] F60_37)) (.keep [0, 1, 2, 6, 7] (.seq (.seq (.region [
 o1 49 (.mv (y 7)),
 o1 50 (.mv (y 6)),
 o1 51 (.bin .add (y 49) (y 50)),
 o1 9 (.mv (y 51))]) (.keep [0, 1, 2, 6, 7, 9] (.seq (.region [
 o1 52 (.mv (y 9)),
 o1 53 (.mv (y 1)),
 o1 54 (.bin .lss (y 52) (y 53))]) (.keep [0, 1, 2, 6, 7, 9, 54] (.cond (y 54) (.region [
 o1 55 (.mv (y 0)),
 o1 56 (.mv (y 7)),
 o1 57 (.mv (y 9)),
 o1 58 (.mv (y 1)),
 o1 59 (.mv (y 2)),
 o1 60 (.call .shared (.func 73) [y 55, y 56, y 57, y 58, y 59])]) .skip))))) (.keep [0, 1, 2, 6] (.region [
 o1 61 (.mv (y 6)),
 o1 62 (.bin .mul (y 61) (.const (.int .i64 2))),
 o1 6 (.mv (y 62))])))))))))))))))))))), []⟩
/-- introit/utf.Less -/
def F61 : IFunc := ⟨(.seq (.region [
 o1 4 (.mv (.const (.bool false)))]) (.keep [0, 1] (.seq (.region [
 o1 5 (.mv (y 0)),
 o1 6 (.mv (y 1)),
 o1 7 (.bin .lss (y 5) (y 6)),
 o1 4 (.mv (y 7))]) .ret))), [.tmp 4]⟩
/-- introit/value.Get -/
def F63 : IFunc := ⟨(.seq (.region [
 o1 2 (.boxV (y 0)),
 o1 4 (.new [.int .i64 0, .int .i64 0, .str [], .nils, .nils]),
 o1 5 (.mv (.const (.bool false)))]) (.keep [1, 2, 4] (.seq (.region [
 o1 9 (.loadV (some 5) (y 2)),
 o1 10 (.mv (y 1)),
 o1 11 (.call .pure (.func 74) [y 9, y 10]),
 o1 8 (.mv (y 11)),
 o1 12 (.extract (y 8) 0),
 o1 13 (.extract (y 8) 1),
 o1 6 (.mv (y 12)),
 o1 7 (.mv (y 13))]) (.keep [2, 4, 6, 7] (.seq (.seq (.region [
 o1 14 (.mv (y 7)),
 o1 15 (.un .not (y 14))]) (.keep [2, 4, 6, 15] (.cond (y 15) (.seq (.region [
 o1 16 (.build [.int .i64 0, .int .i64 0, .str [], .nils, .nils] []),
 o0 (.store 5 (y 4) (y 16)),
 o1 5 (.mv (.const (.bool false)))]) .ret) .skip))) (.keep [2, 4, 6] (.seq (.region [
 o1 17 (.fieldA 4 (y 2)),
 o1 18 (.loadV none (y 17)),
 o1 19 (.mv (y 6)),
 o1 20 (.idxA 6 none (y 18) (y 19)),
 o1 21 (.fieldA 1 (y 20)),
 o1 22 (.load (some 5) (y 21)),
 o0 (.store 5 (y 4) (y 22)),
 o1 5 (.mv (.const (.bool true)))]) .ret))))))), [.cell 4 (some 5), .tmp 5]⟩
def F64_2 : ICode := .region [
 o1 9 (.bin .lss (y 8) (y 7))]
def F64_19 : ICode := .keep [0, 1, 7, 8, 9] (.seq (.cond (y 9) .skip (.exit 0)) (.keep [0, 1, 7, 8] (.seq (.block 1 (.seq (.region [
 o1 10 (.mv (y 8)),
 o1 5 (.mv (y 10))]) (.keep [0, 1, 5, 7, 8] (.seq (.region [
 o1 11 (.mv (y 1)),
 o1 12 (.mv (y 0)),
 o1 13 (.mv (y 5)),
 o1 14 (.idxA 1 none (y 12) (y 13)),
 o1 15 (.load none (y 14)),
 o1 16 (.bin .eql (y 11) (y 15))]) (.keep [0, 1, 5, 7, 8, 16] (.cond (y 16) (.seq (.region [
 o1 17 (.mv (y 5)),
 o1 4 (.mv (y 17))]) .ret) .skip)))))) (.keep [0, 1, 7, 8] (.region [
 o1 18 (.bin .add (y 8) (.const (.int .i64 1))),
 o1 8 (.mv (y 18))])))))
def F64_20 : ICode := .seq F64_2 F64_19
/-- slices.Index[[]string,string] -/
def F64 : IFunc := ⟨(.seq (.region [
 o1 4 (.mv (.const (.int .i64 0)))]) (.keep [0, 1] (.seq (.seq (.region [
 o1 6 (.mv (y 0)),
 o1 7 (.len false (y 6)),
 o1 8 (.mv (.const (.int .i64 0)))]) (.keep [0, 1, 7, 8] (.block 0 (.loop [0, 1, 7, 8] F64_20)))) (.keep [] (.seq (.region [
 o1 4 (.mv (.const (.int .i64 (-1))))]) .ret))))), [.tmp 4]⟩
/-- introit/value.ask -/
def F65 : IFunc := ⟨(.seq (.region [
 o1 2 (.mv (.const (.lit .nilFunc))),
 o1 3 (.mv (.const (.bool false)))]) (.keep [0] (.seq (.region [
 o1 5 (.buildA 1 [.lit .nilFunc, .lit .nilFunc, .lit .nilFunc, .lit .nilFunc, .lit .nilFunc, .lit .nilFunc] [(0, (.func 84)), (1, (.func 85)), (2, (.func 86)), (3, (.func 87)), (4, (.func 89)), (5, (.func 92))]),
 o1 4 (.new [.lit .nilFunc, .lit .nilFunc, .lit .nilFunc, .lit .nilFunc, .lit .nilFunc, .lit .nilFunc]),
 o0 (.store 6 (y 4) (y 5))]) (.keep [0, 4] (.seq (.seq (.region [
 o1 6 (.mv (y 0)),
 o1 7 (.bin .lss (y 6) (.const (.int .i64 0))),
 o1 8 (.mv (y 7)),
 ⟨(some 9), (some (8, false)), .mv (y 0)⟩,
 ⟨(some 10), (some (8, false)), .bin .geq (y 9) (.const (.int .i64 6))⟩,
 o1 11 (.pick (y 8) (.const (.bool true)) (y 10))]) (.keep [0, 4, 11] (.cond (y 11) (.seq (.region [
 o1 2 (.mv (.const (.lit .nilFunc))),
 o1 3 (.mv (.const (.bool false)))]) .ret) .skip))) (.keep [0, 4] (.seq (.region [
 o1 12 (.mv (y 0)),
 o1 13 (.idxA 1 (some 6) (y 4) (y 12)),
 o1 14 (.load none (y 13)),
 o1 2 (.mv (y 14)),
 o1 3 (.mv (.const (.bool true)))]) .ret))))))), [.tmp 2, .tmp 3]⟩
/-- slices.Clone[[]string,string] -/
def F66 : IFunc := ⟨(.seq (.region [
 o1 2 (.mv (.const (.nils)))]) (.keep [0] (.seq (.seq (.region [
 o1 3 (.mv (y 0)),
 o1 4 (.eqn .sl false (y 3))]) (.keep [0, 4] (.cond (y 4) (.seq (.region [
 o1 2 (.mv (.const (.nils)))]) .ret) .skip))) (.keep [0] (.seq (.region [
 o1 5 (.buildSl false 1 0 [.str []] []),
 o1 6 (.mv (y 0)),
 o1 7 (.append 1 16 false (y 5) (y 6)),
 o1 2 (.mv (y 7))]) .ret))))), [.tmp 2]⟩
/-- introit/rules.table -/
def F67 : IFunc := ⟨(.seq (.region [
 o1 2 (.boxV (y 0)),
 o1 4 (.new [.int .i64 0, .int .i64 0, .str [], .nils, .nils]),
 o1 5 (.mv (.const (.bool false)))]) (.keep [1, 2, 4] (.seq (.region [
 o1 9 (.loadV (some 5) (y 2)),
 o1 10 (.mv (y 1)),
 o1 11 (.call .pure (.func 63) [y 9, y 10]),
 o1 8 (.mv (y 11)),
 o1 12 (.extract (y 8) 0),
 o1 13 (.extract (y 8) 1),
 o1 6 (.new [.int .i64 0, .int .i64 0, .str [], .nils, .nils]),
 o0 (.store 5 (y 6) (y 12)),
 o1 7 (.mv (y 13))]) (.keep [4, 6, 7] (.seq (.seq (.region [
 o1 14 (.mv (y 7)),
 o1 15 (.un .not (y 14)),
 o1 16 (.mv (y 15)),
 ⟨(some 17), (some (16, false)), .fieldA 0 (y 6)⟩,
 ⟨(some 18), (some (16, false)), .load none (y 17)⟩,
 ⟨(some 19), (some (16, false)), .bin .neq (y 18) (.const (.int .i64 5))⟩,
 o1 20 (.pick (y 16) (.const (.bool true)) (y 19))]) (.keep [4, 6, 20] (.cond (y 20) (.seq (.region [
 o1 21 (.build [.int .i64 0, .int .i64 0, .str [], .nils, .nils] []),
 o0 (.store 5 (y 4) (y 21)),
 o1 5 (.mv (.const (.bool false)))]) .ret) .skip))) (.keep [4, 6] (.seq (.region [
 o1 22 (.load (some 5) (y 6)),
 o0 (.store 5 (y 4) (y 22)),
 o1 5 (.mv (.const (.bool true)))]) .ret))))))), [.cell 4 (some 5), .tmp 5]⟩
/-- introit/ident.parts -/
def F68 : IFunc := ⟨(.seq (.region [
 o1 4 (.mv (.const (.str []))),
 o1 5 (.mv (.const (.str []))),
 o1 6 (.mv (.const (.bool false)))]) (.keep [0, 1] (.seq (.seq (.region [
 o1 10 (.mv (y 0)),
 o1 11 (.bin .eql (y 10) (.const (.str []))),
 o1 12 (.mv (y 11)),
 ⟨(some 13), (some (12, false)), .mv (y 0)⟩,
 ⟨(some 14), (some (12, false)), .idxS (y 13) (.const (.int .i64 0))⟩,
 ⟨(some 15), (some (12, false)), .mv (y 1)⟩,
 ⟨(some 16), (some (12, false)), .bin .neq (y 14) (y 15)⟩,
 o1 17 (.pick (y 12) (.const (.bool true)) (y 16)),
 o1 18 (.mv (y 17)),
 ⟨(some 19), (some (18, false)), .mv (y 0)⟩,
 ⟨(some 20), (some (18, false)), .len true (y 19)⟩,
 ⟨(some 21), (some (18, false)), .bin .gtr (y 20) (.const (.int .i64 255))⟩,
 o1 22 (.pick (y 18) (.const (.bool true)) (y 21))]) (.keep [0, 22] (.cond (y 22) (.seq (.region [
 o1 4 (.mv (.const (.str []))),
 o1 5 (.mv (.const (.str []))),
 o1 6 (.mv (.const (.bool false)))]) .ret) .skip))) (.keep [0] (.seq (.region [
 o1 24 (.mv (y 0)),
 o1 25 (.sliceS (y 24) (some (.const (.int .i64 1))) none),
 o1 26 (.call .pure (.func 75) [y 25, (.const (.str [58]))]),
 o1 23 (.mv (y 26)),
 o1 27 (.extract (y 23) 0),
 o1 28 (.extract (y 23) 1),
 o1 29 (.extract (y 23) 2),
 o1 7 (.mv (y 27)),
 o1 8 (.mv (y 28)),
 o1 9 (.mv (y 29))]) (.keep [7, 8, 9] (.seq (.seq (.region [
 o1 30 (.mv (y 9)),
 o1 31 (.un .not (y 30)),
 o1 32 (.mv (y 31)),
 ⟨(some 33), (some (32, false)), .mv (y 7)⟩,
 ⟨(some 34), (some (32, false)), .build [] []⟩,
 ⟨(some 35), (some (32, false)), .call .pure (.func 76) [y 33, (.const (.int .i64 255)), y 34, (.func 77)]⟩,
 ⟨(some 36), (some (32, false)), .un .not (y 35)⟩,
 o1 37 (.pick (y 32) (.const (.bool true)) (y 36)),
 o1 38 (.mv (y 37)),
 ⟨(some 39), (some (38, false)), .mv (y 8)⟩,
 ⟨(some 40), (some (38, false)), .call .pure (.func 78) [y 39]⟩,
 ⟨(some 41), (some (38, false)), .un .not (y 40)⟩,
 o1 42 (.pick (y 38) (.const (.bool true)) (y 41))]) (.keep [7, 8, 42] (.cond (y 42) (.seq (.region [
 o1 4 (.mv (.const (.str []))),
 o1 5 (.mv (.const (.str []))),
 o1 6 (.mv (.const (.bool false)))]) .ret) .skip))) (.keep [7, 8] (.seq (.region [
 o1 43 (.mv (y 7)),
 o1 44 (.mv (y 8)),
 o1 4 (.mv (y 43)),
 o1 5 (.mv (y 44)),
 o1 6 (.mv (.const (.bool true)))]) .ret))))))))), [.tmp 4, .tmp 5, .tmp 6]⟩
def F72_4 : ICode := .seq (.region [
 o1 12 (.mv (y 8)),
 o1 13 (.mv (y 2)),
 o1 14 (.bin .lss (y 12) (y 13))]) (.keep [0, 1, 2, 3, 8, 14] (.cond (y 14) .skip (.exit 0)))
def F72_9 : ICode := .seq (.region [
 o1 18 (.mv (y 9)),
 o1 19 (.mv (y 1)),
 o1 20 (.bin .gtr (y 18) (y 19)),
 o1 21 (.mv (y 20)),
 ⟨(some 22), (some (21, true)), .mv (y 3)⟩,
 ⟨(some 23), (some (21, true)), .mv (y 0)⟩,
 ⟨(some 24), (some (21, true)), .mv (y 9)⟩,
 ⟨(some 25), (some (21, true)), .idxA 6 none (y 23) (y 24)⟩,
 ⟨(some 26), (some (21, true)), .load (some 6) (y 25)⟩,
 ⟨(some 27), (some (21, true)), .mv (y 0)⟩,
 ⟨(some 28), (some (21, true)), .mv (y 9)⟩,
 ⟨(some 29), (some (21, true)), .bin .sub (y 28) (.const (.int .i64 1))⟩,
 ⟨(some 30), (some (21, true)), .idxA 6 none (y 27) (y 29)⟩,
 ⟨(some 31), (some (21, true)), .load (some 6) (y 30)⟩,
 ⟨(some 32), (some (21, true)), .call .strict (y 22) [y 26, y 31]⟩,
 ⟨(some 33), (some (21, true)), .bin .lss (y 32) (.const (.int .i64 0))⟩,
 o1 34 (.pick (y 21) (y 33) (.const (.bool false)))]) (.keep [0, 1, 2, 3, 8, 9, 34] (.cond (y 34) .skip (.exit 2)))
def F72_15 : ICode := .keep [0, 1, 2, 3, 8, 9] (.seq (.block 3 (.region [
 o1 37 (.mv (y 0)),
 o1 38 (.mv (y 9)),
 o1 39 (.mv (y 0)),
 o1 40 (.mv (y 9)),
 o1 41 (.bin .sub (y 40) (.const (.int .i64 1))),
 o1 42 (.mv (y 0)),
 o1 43 (.mv (y 9)),
 o1 44 (.bin .sub (y 43) (.const (.int .i64 1))),
 o1 45 (.idxA 6 none (y 42) (y 44)),
 o1 46 (.load (some 6) (y 45)),
 o1 47 (.mv (y 0)),
 o1 48 (.mv (y 9)),
 o1 49 (.idxA 6 none (y 47) (y 48)),
 o1 50 (.load (some 6) (y 49)),
 o1 51 (.idxA 6 none (y 37) (y 38)),
 o0 (.store 6 (y 51) (y 46)),
 o1 52 (.idxA 6 none (y 39) (y 41)),
 o0 (.store 6 (y 52) (y 50))])) (.keep [0, 1, 2, 3, 8, 9] (.region [
 o1 35 (.mv (y 9)),
 o1 36 (.bin .sub (y 35) (.const (.int .i64 1))),
 o1 9 (.mv (y 36))])))
def F72_16 : ICode := .seq F72_9 F72_15
def F72_25 : ICode := .keep [0, 1, 2, 3, 8] (.seq (.block 1 (.seq (.region [
 o1 17 (.mv (y 8)),
 o1 9 (.mv (y 17))]) (.keep [0, 1, 2, 3, 8, 9] (.block 2 (.loop [0, 1, 2, 3, 8, 9] F72_16))))) (.keep [0, 1, 2, 3, 8] (.region [
 o1 15 (.mv (y 8)),
 o1 16 (.bin .add (y 15) (.const (.int .i64 1))),
 o1 8 (.mv (y 16))])))
def F72_26 : ICode := .seq F72_4 F72_25
/-- slices.insertionSortCmpFunc[introit/api.Member] -/
def F72 : IFunc := ⟨(.seq (.region [
 o1 10 (.mv (y 1)),
 o1 11 (.bin .add (y 10) (.const (.int .i64 1))),
 o1 8 (.mv (y 11))]) (.keep [0, 1, 2, 3, 8] (.block 0 (.loop [0, 1, 2, 3, 8] F72_26)))), []⟩
/-- slices.symMergeCmpFunc[introit/api.Member] -/
def F73 : IFunc := ⟨(.seq (.seq (.region [
 o1 25 (.mv (y 2)),
 o1 26 (.mv (y 1)),
 o1 27 (.bin .sub (y 25) (y 26)),
 o1 28 (.bin .eql (y 27) (.const (.int .i64 1)))]) (.keep [0, 1, 2, 3, 4, 28] (.cond (y 28) (.seq (.region [
 o1 29 (.mv (y 2)),
 o1 10 (.mv (y 29))]) (.keep [0, 1, 3, 4, 10] (.seq (.region [
 o1 30 (.mv (y 3)),
 o1 11 (.mv (y 30))]) (.keep [0, 1, 4, 10, 11] (.seq (.block 0 (.loop [0, 1, 4, 10, 11] (.seq (.seq (.region [
 o1 31 (.mv (y 10)),
 o1 32 (.mv (y 11)),
 o1 33 (.bin .lss (y 31) (y 32))]) (.keep [0, 1, 4, 10, 11, 33] (.cond (y 33) .skip (.exit 0)))) (.keep [0, 1, 4, 10, 11] (.block 1 (.seq (.region [
 o1 34 (.mv (y 10)),
 o1 35 (.mv (y 11)),
 o1 36 (.bin .add (y 34) (y 35)),
 o1 37 (.conv (.int .u64) (y 36)),
 o1 38 (.bin .shr (y 37) (.const (.int .u64 1))),
 o1 39 (.conv (.int .i64) (y 38)),
 o1 12 (.mv (y 39))]) (.keep [0, 1, 4, 10, 11, 12] (.seq (.region [
 o1 40 (.mv (y 4)),
 o1 41 (.mv (y 0)),
 o1 42 (.mv (y 12)),
 o1 43 (.idxA 6 none (y 41) (y 42)),
 o1 44 (.load (some 6) (y 43)),
 o1 45 (.mv (y 0)),
 o1 46 (.mv (y 1)),
 o1 47 (.idxA 6 none (y 45) (y 46)),
 o1 48 (.load (some 6) (y 47)),
 o1 49 (.call .strict (y 40) [y 44, y 48]),
 o1 50 (.bin .lss (y 49) (.const (.int .i64 0)))]) (.keep [0, 1, 4, 10, 11, 12, 50] (.cond (y 50) (.region [
 o1 51 (.mv (y 12)),
 o1 52 (.bin .add (y 51) (.const (.int .i64 1))),
 o1 10 (.mv (y 52))]) (.region [
 o1 53 (.mv (y 12)),
 o1 11 (.mv (y 53))]))))))))))) (.keep [0, 1, 10] (.seq (.seq (.region [
 o1 54 (.mv (y 1)),
 o1 13 (.mv (y 54))]) (.keep [0, 10, 13] (.block 2 (.loop [0, 10, 13] (.seq (.seq (.region [
 o1 55 (.mv (y 13)),
 o1 56 (.mv (y 10)),
 o1 57 (.bin .sub (y 56) (.const (.int .i64 1))),
 o1 58 (.bin .lss (y 55) (y 57))]) (.keep [0, 10, 13, 58] (.cond (y 58) .skip (.exit 2)))) (.keep [0, 10, 13] (.seq (.block 3 (.region [
 o1 61 (.mv (y 0)),
 o1 62 (.mv (y 13)),
 o1 63 (.mv (y 0)),
 o1 64 (.mv (y 13)),
 o1 65 (.bin .add (y 64) (.const (.int .i64 1))),
 o1 66 (.mv (y 0)),
 o1 67 (.mv (y 13)),
 o1 68 (.bin .add (y 67) (.const (.int .i64 1))),
 o1 69 (.idxA 6 none (y 66) (y 68)),
 o1 70 (.load (some 6) (y 69)),
 o1 71 (.mv (y 0)),
 o1 72 (.mv (y 13)),
 o1 73 (.idxA 6 none (y 71) (y 72)),
 o1 74 (.load (some 6) (y 73)),
 o1 75 (.idxA 6 none (y 61) (y 62)),
 o0 (.store 6 (y 75) (y 70)),
 o1 76 (.idxA 6 none (y 63) (y 65)),
 o0 (.store 6 (y 76) (y 74))])) (.keep [0, 10, 13] (.region [
 o1 59 (.mv (y 13)),
 o1 60 (.bin .add (y 59) (.const (.int .i64 1))),
 o1 13 (.mv (y 60))]))))))))) .ret))))))) .skip))) (.keep [0, 1, 2, 3, 4] (.seq (.seq (.region [
 o1 77 (.mv (y 3)),
 o1 78 (.mv (y 2)),
 o1 79 (.bin .sub (y 77) (y 78)),
 o1 80 (.bin .eql (y 79) (.const (.int .i64 1)))]) (.keep [0, 1, 2, 3, 4, 80] (.cond (y 80) (.seq (.region [
 o1 81 (.mv (y 1)),
 o1 14 (.mv (y 81))]) (.keep [0, 2, 4, 14] (.seq (.region [
 o1 82 (.mv (y 2)),
 o1 15 (.mv (y 82))]) (.keep [0, 2, 4, 14, 15] (.seq (.block 4 (.loop [0, 2, 4, 14, 15] (.seq (.seq (.region [
 o1 83 (.mv (y 14)),
 o1 84 (.mv (y 15)),
 o1 85 (.bin .lss (y 83) (y 84))]) (.keep [0, 2, 4, 14, 15, 85] (.cond (y 85) .skip (.exit 4)))) (.keep [0, 2, 4, 14, 15] (.block 5 (.seq (.region [
 o1 86 (.mv (y 14)),
 o1 87 (.mv (y 15)),
 o1 88 (.bin .add (y 86) (y 87)),
 o1 89 (.conv (.int .u64) (y 88)),
 o1 90 (.bin .shr (y 89) (.const (.int .u64 1))),
 o1 91 (.conv (.int .i64) (y 90)),
 o1 16 (.mv (y 91))]) (.keep [0, 2, 4, 14, 15, 16] (.seq (.region [
 o1 92 (.mv (y 4)),
 o1 93 (.mv (y 0)),
 o1 94 (.mv (y 2)),
 o1 95 (.idxA 6 none (y 93) (y 94)),
 o1 96 (.load (some 6) (y 95)),
 o1 97 (.mv (y 0)),
 o1 98 (.mv (y 16)),
 o1 99 (.idxA 6 none (y 97) (y 98)),
 o1 100 (.load (some 6) (y 99)),
 o1 101 (.call .strict (y 92) [y 96, y 100]),
 o1 102 (.bin .lss (y 101) (.const (.int .i64 0))),
 o1 103 (.un .not (y 102))]) (.keep [0, 2, 4, 14, 15, 16, 103] (.cond (y 103) (.region [
 o1 104 (.mv (y 16)),
 o1 105 (.bin .add (y 104) (.const (.int .i64 1))),
 o1 14 (.mv (y 105))]) (.region [
 o1 106 (.mv (y 16)),
 o1 15 (.mv (y 106))]))))))))))) (.keep [0, 2, 14] (.seq (.seq (.region [
 o1 107 (.mv (y 2)),
 o1 17 (.mv (y 107))]) (.keep [0, 14, 17] (.block 6 (.loop [0, 14, 17] (.seq (.seq (.region [
 o1 108 (.mv (y 17)),
 o1 109 (.mv (y 14)),
 o1 110 (.bin .gtr (y 108) (y 109))]) (.keep [0, 14, 17, 110] (.cond (y 110) .skip (.exit 6)))) (.keep [0, 14, 17] (.seq (.block 7 (.region [
 o1 113 (.mv (y 0)),
 o1 114 (.mv (y 17)),
 o1 115 (.mv (y 0)),
 o1 116 (.mv (y 17)),
 o1 117 (.bin .sub (y 116) (.const (.int .i64 1))),
 o1 118 (.mv (y 0)),
 o1 119 (.mv (y 17)),
 o1 120 (.bin .sub (y 119) (.const (.int .i64 1))),
 o1 121 (.idxA 6 none (y 118) (y 120)),
 o1 122 (.load (some 6) (y 121)),
 o1 123 (.mv (y 0)),
 o1 124 (.mv (y 17)),
 o1 125 (.idxA 6 none (y 123) (y 124)),
 o1 126 (.load (some 6) (y 125)),
 o1 127 (.idxA 6 none (y 113) (y 114)),
 o0 (.store 6 (y 127) (y 122)),
 o1 128 (.idxA 6 none (y 115) (y 117)),
 o0 (.store 6 (y 128) (y 126))])) (.keep [0, 14, 17] (.region [
 o1 111 (.mv (y 17)),
 o1 112 (.bin .sub (y 111) (.const (.int .i64 1))),
 o1 17 (.mv (y 112))]))))))))) .ret))))))) .skip))) (.keep [0, 1, 2, 3, 4] (.seq (.region [
 o1 129 (.mv (y 1)),
 o1 130 (.mv (y 3)),
 o1 131 (.bin .add (y 129) (y 130)),
 o1 132 (.conv (.int .u64) (y 131)),
 o1 133 (.bin .shr (y 132) (.const (.int .u64 1))),
 o1 134 (.conv (.int .i64) (y 133)),
 o1 18 (.mv (y 134))]) (.keep [0, 1, 2, 3, 4, 18] (.seq (.region [
 o1 135 (.mv (y 18)),
 o1 136 (.mv (y 2)),
 o1 137 (.bin .add (y 135) (y 136)),
 o1 19 (.mv (y 137))]) (.keep [0, 1, 2, 3, 4, 18, 19] (.seq (.region [
 o1 20 (.mv (.const (.int .i64 0))),
 o1 21 (.mv (.const (.int .i64 0)))]) (.keep [0, 1, 2, 3, 4, 18, 19] (.seq (.seq (.region [
 o1 138 (.mv (y 2)),
 o1 139 (.mv (y 18)),
 o1 140 (.bin .gtr (y 138) (y 139))]) (.keep [0, 1, 2, 3, 4, 18, 19, 140] (.cond (y 140) (.seq (.region [
 o1 141 (.mv (y 19)),
 o1 142 (.mv (y 3)),
 o1 143 (.bin .sub (y 141) (y 142)),
 o1 20 (.mv (y 143))]) (.keep [0, 1, 2, 3, 4, 18, 19, 20] (.region [
 o1 144 (.mv (y 18)),
 o1 21 (.mv (y 144))]))) (.seq (.region [
 o1 145 (.mv (y 1)),
 o1 20 (.mv (y 145))]) (.keep [0, 1, 2, 3, 4, 18, 19, 20] (.region [
 o1 146 (.mv (y 2)),
 o1 21 (.mv (y 146))])))))) (.keep [0, 1, 2, 3, 4, 18, 19, 20, 21] (.seq (.region [
 o1 147 (.mv (y 19)),
 o1 148 (.bin .sub (y 147) (.const (.int .i64 1))),
 o1 22 (.mv (y 148))]) (.keep [0, 1, 2, 3, 4, 18, 19, 20, 21, 22] (.seq (.block 8 (.loop [0, 1, 2, 3, 4, 18, 19, 20, 21, 22] (.seq (.seq (.region [
 o1 149 (.mv (y 20)),
 o1 150 (.mv (y 21)),
 o1 151 (.bin .lss (y 149) (y 150))]) (.keep [0, 1, 2, 3, 4, 18, 19, 20, 21, 22, 151] (.cond (y 151) .skip (.exit 8)))) (.keep [0, 1, 2, 3, 4, 18, 19, 20, 21, 22] (.block 9 (.seq (.region [
 o1 152 (.mv (y 20)),
 o1 153 (.mv (y 21)),
 o1 154 (.bin .add (y 152) (y 153)),
 o1 155 (.conv (.int .u64) (y 154)),
 o1 156 (.bin .shr (y 155) (.const (.int .u64 1))),
 o1 157 (.conv (.int .i64) (y 156)),
 o1 23 (.mv (y 157))]) (.keep [0, 1, 2, 3, 4, 18, 19, 20, 21, 22, 23] (.seq (.region [
 o1 158 (.mv (y 4)),
 o1 159 (.mv (y 0)),
 o1 160 (.mv (y 22)),
 o1 161 (.mv (y 23)),
 o1 162 (.bin .sub (y 160) (y 161)),
 o1 163 (.idxA 6 none (y 159) (y 162)),
 o1 164 (.load (some 6) (y 163)),
 o1 165 (.mv (y 0)),
 o1 166 (.mv (y 23)),
 o1 167 (.idxA 6 none (y 165) (y 166)),
 o1 168 (.load (some 6) (y 167)),
 o1 169 (.call .strict (y 158) [y 164, y 168]),
 o1 170 (.bin .lss (y 169) (.const (.int .i64 0))),
 o1 171 (.un .not (y 170))]) (.keep [0, 1, 2, 3, 4, 18, 19, 20, 21, 22, 23, 171] (.cond (y 171) (.region [
 o1 172 (.mv (y 23)),
 o1 173 (.bin .add (y 172) (.const (.int .i64 1))),
 o1 20 (.mv (y 173))]) (.region [
 o1 174 (.mv (y 23)),
 o1 21 (.mv (y 174))]))))))))))) (.keep [0, 1, 2, 3, 4, 18, 19, 20] (.seq (.region [
 o1 175 (.mv (y 19)),
 o1 176 (.mv (y 20)),
 o1 177 (.bin .sub (y 175) (y 176)),
 o1 24 (.mv (y 177))]) (.keep [0, 1, 2, 3, 4, 18, 20, 24] (.seq (.seq (.region [
 o1 178 (.mv (y 20)),
 o1 179 (.mv (y 2)),
 o1 180 (.bin .lss (y 178) (y 179)),
 o1 181 (.mv (y 180)),
 ⟨(some 182), (some (181, true)), .mv (y 2)⟩,
 ⟨(some 183), (some (181, true)), .mv (y 24)⟩,
 ⟨(some 184), (some (181, true)), .bin .lss (y 182) (y 183)⟩,
 o1 185 (.pick (y 181) (y 184) (.const (.bool false)))]) (.keep [0, 1, 2, 3, 4, 18, 20, 24, 185] (.cond (y 185) (.region [
 o1 186 (.mv (y 0)),
 o1 187 (.mv (y 20)),
 o1 188 (.mv (y 2)),
 o1 189 (.mv (y 24)),
 o1 190 (.mv (y 4)),
 o1 191 (.call .shared (.func 82) [y 186, y 187, y 188, y 189, y 190])]) .skip))) (.keep [0, 1, 3, 4, 18, 20, 24] (.seq (.seq (.region [
 o1 192 (.mv (y 1)),
 o1 193 (.mv (y 20)),
 o1 194 (.bin .lss (y 192) (y 193)),
 o1 195 (.mv (y 194)),
 ⟨(some 196), (some (195, true)), .mv (y 20)⟩,
 ⟨(some 197), (some (195, true)), .mv (y 18)⟩,
 ⟨(some 198), (some (195, true)), .bin .lss (y 196) (y 197)⟩,
 o1 199 (.pick (y 195) (y 198) (.const (.bool false)))]) (.keep [0, 1, 3, 4, 18, 20, 24, 199] (.cond (y 199) (.region [
 o1 200 (.mv (y 0)),
 o1 201 (.mv (y 1)),
 o1 202 (.mv (y 20)),
 o1 203 (.mv (y 18)),
 o1 204 (.mv (y 4)),
 o1 205 (.call .shared (.func 73) [y 200, y 201, y 202, y 203, y 204])]) .skip))) (.keep [0, 3, 4, 18, 24] (.seq (.region [
 o1 206 (.mv (y 18)),
 o1 207 (.mv (y 24)),
 o1 208 (.bin .lss (y 206) (y 207)),
 o1 209 (.mv (y 208)),
 ⟨(some 210), (some (209, true)), .mv (y 24)⟩,
 ⟨(some 211), (some (209, true)), .mv (y 3)⟩,
 ⟨(some 212), (some (209, true)), .bin .lss (y 210) (y 211)⟩,
 o1 213 (.pick (y 209) (y 212) (.const (.bool false)))]) (.keep [0, 3, 4, 18, 24, 213] (.cond (y 213) (.region [
 o1 214 (.mv (y 0)),
 o1 215 (.mv (y 18)),
 o1 216 (.mv (y 24)),
 o1 217 (.mv (y 3)),
 o1 218 (.mv (y 4)),
 o1 219 (.call .shared (.func 73) [y 214, y 215, y 216, y 217, y 218])]) .skip))))))))))))))))))))))))), []⟩
/-- introit/value.place -/
def F74 : IFunc := ⟨(.seq (.region [
 o1 2 (.boxV (y 0)),
 o1 4 (.mv (.const (.int .i64 0))),
 o1 5 (.mv (.const (.bool false)))]) (.keep [1, 2] (.seq (.seq (.region [
 o1 6 (.fieldA 0 (y 2)),
 o1 7 (.loadV none (y 6)),
 o1 8 (.bin .neq (y 7) (.const (.int .i64 5)))]) (.keep [1, 2, 8] (.cond (y 8) (.seq (.region [
 o1 4 (.mv (.const (.int .i64 0))),
 o1 5 (.mv (.const (.bool false)))]) .ret) .skip))) (.keep [1, 2] (.seq (.region [
 o1 9 (.fieldA 4 (y 2)),
 o1 10 (.loadV none (y 9)),
 o1 11 (.mv (y 1)),
 o1 12 (.build [.str [], .int .i64 0, .int .i64 0, .str [], .nils, .nils] [(0, 1, (y 11))]),
 o1 13 (.call .pure (.func 83) [y 10, y 12, (.func 40)]),
 o1 14 (.extract (y 13) 0),
 o1 15 (.extract (y 13) 1),
 o1 4 (.mv (y 14)),
 o1 5 (.mv (y 15))]) .ret))))), [.tmp 4, .tmp 5]⟩
/-- (introit/value.one).bare -/
def F84 : IFunc := ⟨(.seq (.region [
 o1 1 (.boxV (y 0)),
 o1 2 (.mv (.const (.bool false)))]) (.keep [1] (.seq (.region [
 o1 3 (.fieldA 1 (y 1)),
 o1 4 (.loadV none (y 3)),
 o1 5 (.bin .eql (y 4) (.const (.int .i64 0))),
 o1 6 (.mv (y 5)),
 ⟨(some 7), (some (6, true)), .fieldA 2 (y 1)⟩,
 ⟨(some 8), (some (6, true)), .loadV none (y 7)⟩,
 ⟨(some 9), (some (6, true)), .bin .eql (y 8) (.const (.str []))⟩,
 o1 10 (.pick (y 6) (y 9) (.const (.bool false))),
 o1 11 (.mv (y 10)),
 ⟨(some 12), (some (11, true)), .fieldA 3 (y 1)⟩,
 ⟨(some 13), (some (11, true)), .loadV none (y 12)⟩,
 ⟨(some 14), (some (11, true)), .len false (y 13)⟩,
 ⟨(some 15), (some (11, true)), .bin .eql (y 14) (.const (.int .i64 0))⟩,
 o1 16 (.pick (y 11) (y 15) (.const (.bool false))),
 o1 17 (.mv (y 16)),
 ⟨(some 18), (some (17, true)), .fieldA 4 (y 1)⟩,
 ⟨(some 19), (some (17, true)), .loadV none (y 18)⟩,
 ⟨(some 20), (some (17, true)), .len false (y 19)⟩,
 ⟨(some 21), (some (17, true)), .bin .eql (y 20) (.const (.int .i64 0))⟩,
 o1 22 (.pick (y 17) (y 21) (.const (.bool false))),
 o1 2 (.mv (y 22))]) .ret))), [.tmp 2]⟩
/-- (introit/value.one).bit -/
def F85 : IFunc := ⟨(.seq (.region [
 o1 1 (.box (y 0)),
 o1 2 (.mv (.const (.bool false)))]) (.keep [1] (.seq (.region [
 o1 4 (.fieldA 1 (y 1)),
 o1 5 (.load none (y 4)),
 o1 3 (.mv (y 5))]) (.keep [1, 3] (.seq (.region [
 o1 6 (.fieldA 1 (y 1)),
 o0 (.store 1 (y 6) (.const (.int .i64 0)))]) (.keep [1, 3] (.seq (.region [
 o1 7 (.load (some 5) (y 1)),
 o1 8 (.call .pure (.func 84) [y 7]),
 o1 9 (.mv (y 8)),
 ⟨(some 10), (some (9, true)), .mv (y 3)⟩,
 ⟨(some 11), (some (9, true)), .bin .eql (y 10) (.const (.int .i64 0))⟩,
 ⟨(some 12), (some (9, true)), .mv (y 11)⟩,
 ⟨(some 13), (some (12, false)), .mv (y 3)⟩,
 ⟨(some 14), (some (12, false)), .bin .eql (y 13) (.const (.int .i64 1))⟩,
 ⟨(some 15), (some (9, true)), .pick (y 12) (.const (.bool true)) (y 14)⟩,
 o1 16 (.pick (y 9) (y 15) (.const (.bool false))),
 o1 2 (.mv (y 16))]) .ret))))))), [.tmp 2]⟩
/-- (introit/value.one).number -/
def F86 : IFunc := ⟨(.seq (.region [
 o1 1 (.box (y 0)),
 o1 2 (.mv (.const (.bool false)))]) (.keep [1] (.seq (.region [
 o1 4 (.fieldA 1 (y 1)),
 o1 5 (.load none (y 4)),
 o1 3 (.mv (y 5))]) (.keep [1, 3] (.seq (.region [
 o1 6 (.fieldA 1 (y 1)),
 o0 (.store 1 (y 6) (.const (.int .i64 0)))]) (.keep [1, 3] (.seq (.region [
 o1 7 (.load (some 5) (y 1)),
 o1 8 (.call .pure (.func 84) [y 7]),
 o1 9 (.mv (y 8)),
 ⟨(some 10), (some (9, true)), .mv (y 3)⟩,
 ⟨(some 11), (some (9, true)), .bin .geq (y 10) (.const (.int .i64 (-9007199254740991)))⟩,
 o1 12 (.pick (y 9) (y 11) (.const (.bool false))),
 o1 13 (.mv (y 12)),
 ⟨(some 14), (some (13, true)), .mv (y 3)⟩,
 ⟨(some 15), (some (13, true)), .bin .leq (y 14) (.const (.int .i64 9007199254740991))⟩,
 o1 16 (.pick (y 13) (y 15) (.const (.bool false))),
 o1 2 (.mv (y 16))]) .ret))))))), [.tmp 2]⟩
/-- (introit/value.one).text -/
def F87 : IFunc := ⟨(.seq (.region [
 o1 1 (.box (y 0)),
 o1 2 (.mv (.const (.bool false)))]) (.keep [1] (.seq (.region [
 o1 4 (.fieldA 2 (y 1)),
 o1 5 (.load none (y 4)),
 o1 3 (.mv (y 5))]) (.keep [1, 3] (.seq (.region [
 o1 6 (.fieldA 2 (y 1)),
 o0 (.store 1 (y 6) (.const (.str [])))]) (.keep [1, 3] (.seq (.region [
 o1 7 (.load (some 5) (y 1)),
 o1 8 (.call .pure (.func 84) [y 7]),
 o1 9 (.mv (y 8)),
 ⟨(some 10), (some (9, true)), .mv (y 3)⟩,
 ⟨(some 11), (some (9, true)), .call .pure (.func 88) [y 10]⟩,
 o1 12 (.pick (y 9) (y 11) (.const (.bool false))),
 o1 2 (.mv (y 12))]) .ret))))))), [.tmp 2]⟩
/-- (introit/value.one).list -/
def F89 : IFunc := ⟨(.seq (.region [
 o1 1 (.box (y 0)),
 o1 2 (.mv (.const (.bool false)))]) (.keep [1] (.seq (.region [
 o1 4 (.fieldA 3 (y 1)),
 o1 5 (.load none (y 4)),
 o1 3 (.mv (y 5))]) (.keep [1, 3] (.seq (.region [
 o1 6 (.fieldA 3 (y 1)),
 o0 (.store 1 (y 6) (.const (.nils)))]) (.keep [1, 3] (.seq (.region [
 o1 7 (.load (some 5) (y 1)),
 o1 8 (.call .pure (.func 84) [y 7]),
 o1 9 (.mv (y 8)),
 ⟨(some 10), (some (9, true)), .mv (y 3)⟩,
 ⟨(some 11), (some (9, true)), .call .pure (.func 90) [y 10, (.func 91)]⟩,
 ⟨(some 12), (some (9, true)), .un .not (y 11)⟩,
 o1 13 (.pick (y 9) (y 12) (.const (.bool false))),
 o1 2 (.mv (y 13))]) .ret))))))), [.tmp 2]⟩
def F92_10 : ICode := .region [
 o1 15 (.bin .lss (y 14) (y 13))]
def F92_27 : ICode := .keep [3, 12, 13, 14, 15] (.seq (.cond (y 15) .skip (.exit 0)) (.keep [3, 12, 13, 14] (.seq (.block 1 (.seq (.region [
 o1 16 (.mv (y 14)),
 o1 17 (.idxA 6 none (y 12) (y 14)),
 o1 18 (.load (some 6) (y 17)),
 o1 5 (.new [.str [], .int .i64 0, .int .i64 0, .str [], .nils, .nils]),
 o1 4 (.mv (y 16)),
 o0 (.store 6 (y 5) (y 18))]) (.keep [3, 4, 5, 12, 13, 14] (.seq (.region [
 o1 19 (.fieldA 0 (y 5)),
 o1 20 (.load none (y 19)),
 o1 21 (.call .strict (.func 88) [y 20]),
 o1 22 (.un .not (y 21)),
 o1 23 (.mv (y 22)),
 ⟨(some 24), (some (23, false)), .mv (y 4)⟩,
 ⟨(some 25), (some (23, false)), .bin .gtr (y 24) (.const (.int .i64 0))⟩,
 ⟨(some 26), (some (23, false)), .mv (y 25)⟩,
 ⟨(some 27), (some (26, true)), .mv (y 3)⟩,
 ⟨(some 28), (some (26, true)), .mv (y 4)⟩,
 ⟨(some 29), (some (26, true)), .bin .sub (y 28) (.const (.int .i64 1))⟩,
 ⟨(some 30), (some (26, true)), .idxA 6 none (y 27) (y 29)⟩,
 ⟨(some 31), (some (26, true)), .fieldA 0 (y 30)⟩,
 ⟨(some 32), (some (26, true)), .load none (y 31)⟩,
 ⟨(some 33), (some (26, true)), .fieldA 0 (y 5)⟩,
 ⟨(some 34), (some (26, true)), .load none (y 33)⟩,
 ⟨(some 35), (some (26, true)), .call .strict (.func 61) [y 32, y 34]⟩,
 ⟨(some 36), (some (26, true)), .un .not (y 35)⟩,
 ⟨(some 37), (some (23, false)), .pick (y 26) (y 36) (.const (.bool false))⟩,
 o1 38 (.pick (y 23) (.const (.bool true)) (y 37)),
 o1 39 (.mv (y 38)),
 ⟨(some 40), (some (39, false)), .fieldA 1 (y 5)⟩,
 ⟨(some 41), (some (39, false)), .load (some 5) (y 40)⟩,
 ⟨(some 42), (some (39, false)), .call .strict (.func 48) [y 41]⟩,
 ⟨(some 43), (some (39, false)), .un .not (y 42)⟩,
 o1 44 (.pick (y 39) (.const (.bool true)) (y 43))]) (.keep [3, 12, 13, 14, 44] (.cond (y 44) (.seq (.region [
 o1 2 (.mv (.const (.bool false)))]) .ret) .skip)))))) (.keep [3, 12, 13, 14] (.region [
 o1 45 (.bin .add (y 14) (.const (.int .i64 1))),
 o1 14 (.mv (y 45))])))))
def F92_28 : ICode := .seq F92_10 F92_27
/-- (introit/value.one).table -/
def F92 : IFunc := ⟨(.seq (.region [
 o1 1 (.box (y 0)),
 o1 2 (.mv (.const (.bool false)))]) (.keep [1] (.seq (.region [
 o1 6 (.fieldA 4 (y 1)),
 o1 7 (.load none (y 6)),
 o1 3 (.mv (y 7))]) (.keep [1, 3] (.seq (.region [
 o1 8 (.fieldA 4 (y 1)),
 o0 (.store 1 (y 8) (.const (.nils)))]) (.keep [1, 3] (.seq (.seq (.region [
 o1 9 (.load (some 5) (y 1)),
 o1 10 (.call .pure (.func 84) [y 9]),
 o1 11 (.un .not (y 10))]) (.keep [3, 11] (.cond (y 11) (.seq (.region [
 o1 2 (.mv (.const (.bool false)))]) .ret) .skip))) (.keep [3] (.seq (.seq (.region [
 o1 12 (.mv (y 3)),
 o1 13 (.len false (y 12)),
 o1 14 (.mv (.const (.int .i64 0)))]) (.keep [3, 12, 13, 14] (.block 0 (.loop [3, 12, 13, 14] F92_28)))) (.keep [] (.seq (.region [
 o1 2 (.mv (.const (.bool true)))]) .ret))))))))))), [.tmp 2]⟩
/-- strings.Cut -/
def F75 : IFunc := ⟨(.seq (.region [
 o1 4 (.mv (.const (.str []))),
 o1 5 (.mv (.const (.str []))),
 o1 6 (.mv (.const (.bool false)))]) (.keep [0, 1] (.seq (.region [
 o1 7 (.mv (y 0)),
 o1 8 (.mv (y 1)),
 o1 9 (.call .pure (.func 93) [y 7, y 8]),
 o1 10 (.extract (y 9) 0),
 o1 11 (.extract (y 9) 1),
 o1 12 (.extract (y 9) 2),
 o1 4 (.mv (y 10)),
 o1 5 (.mv (y 11)),
 o1 6 (.mv (y 12))]) .ret))), [.tmp 4, .tmp 5, .tmp 6]⟩
def F76_2 : ICode := .region [
 o1 13 (.bin .lss (y 12) (y 11))]
def F76_19 : ICode := .keep [0, 1, 3, 6, 11, 12, 13] (.seq (.cond (y 13) .skip (.exit 0)) (.keep [0, 1, 3, 6, 11, 12] (.seq (.block 1 (.seq (.region [
 o1 14 (.mv (y 12)),
 o1 9 (.mv (y 14))]) (.keep [0, 1, 3, 6, 9, 11, 12] (.seq (.region [
 o1 15 (.mv (y 3)),
 o1 16 (.loadV (some 0) (y 6)),
 o1 17 (.mv (y 0)),
 o1 18 (.mv (y 9)),
 o1 19 (.idxS (y 17) (y 18)),
 o1 20 (.call .strict (y 15) [y 16, y 19]),
 o1 21 (.un .not (y 20))]) (.keep [0, 1, 3, 6, 11, 12, 21] (.cond (y 21) (.seq (.region [
 o1 8 (.mv (.const (.bool false)))]) .ret) .skip)))))) (.keep [0, 1, 3, 6, 11, 12] (.region [
 o1 22 (.bin .add (y 12) (.const (.int .i64 1))),
 o1 12 (.mv (y 22))])))))
def F76_20 : ICode := .seq F76_2 F76_19
/-- introit/ident.all[introit/ident.shown] -/
def F76 : IFunc := ⟨(.seq (.region [
 o1 6 (.boxV (y 2)),
 o1 8 (.mv (.const (.bool false)))]) (.keep [0, 1, 3, 6] (.seq (.seq (.region [
 o1 10 (.mv (y 0)),
 o1 11 (.len true (y 10)),
 o1 12 (.mv (.const (.int .i64 0)))]) (.keep [0, 1, 3, 6, 11, 12] (.block 0 (.loop [0, 1, 3, 6, 11, 12] F76_20)))) (.keep [0, 1] (.seq (.region [
 o1 23 (.mv (y 0)),
 o1 24 (.len true (y 23)),
 o1 25 (.bin .gtr (y 24) (.const (.int .i64 0))),
 o1 26 (.mv (y 25)),
 ⟨(some 27), (some (26, true)), .mv (y 0)⟩,
 ⟨(some 28), (some (26, true)), .len true (y 27)⟩,
 ⟨(some 29), (some (26, true)), .mv (y 1)⟩,
 ⟨(some 30), (some (26, true)), .bin .leq (y 28) (y 29)⟩,
 o1 31 (.pick (y 26) (y 30) (.const (.bool false))),
 o1 8 (.mv (y 31))]) .ret))))), [.tmp 8]⟩
/-- (introit/ident.shown).has -/
def F77 : IFunc := ⟨(.seq (.region [
 o1 2 (.boxV (y 0)),
 o1 4 (.mv (.const (.bool false)))]) (.keep [1] (.seq (.region [
 o1 5 (.mv (y 1)),
 o1 6 (.bin .geq (y 5) (.const (.int .u8 33))),
 o1 7 (.mv (y 6)),
 ⟨(some 8), (some (7, true)), .mv (y 1)⟩,
 ⟨(some 9), (some (7, true)), .bin .leq (y 8) (.const (.int .u8 126))⟩,
 o1 10 (.pick (y 7) (y 9) (.const (.bool false))),
 o1 11 (.mv (y 10)),
 ⟨(some 12), (some (11, true)), .mv (y 1)⟩,
 ⟨(some 13), (some (11, true)), .bin .neq (y 12) (.const (.int .u8 58))⟩,
 o1 14 (.pick (y 11) (y 13) (.const (.bool false))),
 o1 4 (.mv (y 14))]) .ret))), [.tmp 4]⟩
/-- introit/ident.Server -/
def F78 : IFunc := ⟨(.seq (.region [
 o1 2 (.mv (.const (.bool false)))]) (.keep [0] (.seq (.region [
 o1 7 (.mv (y 0)),
 o1 8 (.call .pure (.func 75) [y 7, (.const (.str [58]))]),
 o1 6 (.mv (y 8)),
 o1 9 (.extract (y 6) 0),
 o1 10 (.extract (y 6) 1),
 o1 11 (.extract (y 6) 2),
 o1 3 (.mv (y 9)),
 o1 4 (.mv (y 10)),
 o1 5 (.mv (y 11))]) (.keep [0, 3, 4, 5] (.seq (.seq (.region [
 o1 12 (.mv (y 5)),
 o1 13 (.mv (y 12)),
 ⟨(some 14), (some (13, true)), .mv (y 4)⟩,
 ⟨(some 15), (some (13, true)), .call .pure (.func 94) [y 14, (.const (.int .i64 5)), (.const (.str [48, 49, 50, 51, 52, 53, 54, 55, 56, 57])), (.func 95)]⟩,
 ⟨(some 16), (some (13, true)), .un .not (y 15)⟩,
 o1 17 (.pick (y 13) (y 16) (.const (.bool false)))]) (.keep [0, 3, 17] (.cond (y 17) (.seq (.region [
 o1 2 (.mv (.const (.bool false)))]) .ret) .skip))) (.keep [0, 3] (.seq (.region [
 o1 18 (.mv (y 0)),
 o1 19 (.len true (y 18)),
 o1 20 (.bin .leq (y 19) (.const (.int .i64 255))),
 o1 21 (.mv (y 20)),
 ⟨(some 22), (some (21, true)), .mv (y 3)⟩,
 ⟨(some 23), (some (21, true)), .call .pure (.func 94) [y 22, (.const (.int .i64 255)), (.const (.str [97, 98, 99, 100, 101, 102, 103, 104, 105, 106, 107, 108, 109, 110, 111, 112, 113, 114, 115, 116, 117, 118, 119, 120, 121, 122, 65, 66, 67, 68, 69, 70, 71, 72, 73, 74, 75, 76, 77, 78, 79, 80, 81, 82, 83, 84, 85, 86, 87, 88, 89, 90, 48, 49, 50, 51, 52, 53, 54, 55, 56, 57, 46, 45])), (.func 95)]⟩,
 o1 24 (.pick (y 21) (y 23) (.const (.bool false))),
 o1 2 (.mv (y 24))]) .ret))))))), [.tmp 2]⟩
/-- slices.rotateCmpFunc[introit/api.Member] -/
def F82 : IFunc := ⟨(.seq (.region [
 o1 12 (.mv (y 2)),
 o1 13 (.mv (y 1)),
 o1 14 (.bin .sub (y 12) (y 13)),
 o1 10 (.mv (y 14))]) (.keep [0, 2, 3, 4, 10] (.seq (.region [
 o1 15 (.mv (y 3)),
 o1 16 (.mv (y 2)),
 o1 17 (.bin .sub (y 15) (y 16)),
 o1 11 (.mv (y 17))]) (.keep [0, 2, 4, 10, 11] (.seq (.block 0 (.loop [0, 2, 4, 10, 11] (.seq (.seq (.region [
 o1 18 (.mv (y 10)),
 o1 19 (.mv (y 11)),
 o1 20 (.bin .neq (y 18) (y 19))]) (.keep [0, 2, 4, 10, 11, 20] (.cond (y 20) .skip (.exit 0)))) (.keep [0, 2, 4, 10, 11] (.block 1 (.seq (.region [
 o1 21 (.mv (y 10)),
 o1 22 (.mv (y 11)),
 o1 23 (.bin .gtr (y 21) (y 22))]) (.keep [0, 2, 4, 10, 11, 23] (.cond (y 23) (.seq (.region [
 o1 24 (.mv (y 0)),
 o1 25 (.mv (y 2)),
 o1 26 (.mv (y 10)),
 o1 27 (.bin .sub (y 25) (y 26)),
 o1 28 (.mv (y 2)),
 o1 29 (.mv (y 11)),
 o1 30 (.mv (y 4)),
 o1 31 (.call .shared (.func 98) [y 24, y 27, y 28, y 29, y 30])]) (.keep [0, 2, 4, 10, 11] (.region [
 o1 32 (.mv (y 10)),
 o1 33 (.mv (y 11)),
 o1 34 (.bin .sub (y 32) (y 33)),
 o1 10 (.mv (y 34))]))) (.seq (.region [
 o1 35 (.mv (y 0)),
 o1 36 (.mv (y 2)),
 o1 37 (.mv (y 10)),
 o1 38 (.bin .sub (y 36) (y 37)),
 o1 39 (.mv (y 2)),
 o1 40 (.mv (y 11)),
 o1 41 (.bin .add (y 39) (y 40)),
 o1 42 (.mv (y 10)),
 o1 43 (.bin .sub (y 41) (y 42)),
 o1 44 (.mv (y 10)),
 o1 45 (.mv (y 4)),
 o1 46 (.call .shared (.func 98) [y 35, y 38, y 43, y 44, y 45])]) (.keep [0, 2, 4, 10, 11] (.region [
 o1 47 (.mv (y 11)),
 o1 48 (.mv (y 10)),
 o1 49 (.bin .sub (y 47) (y 48)),
 o1 11 (.mv (y 49))]))))))))))) (.keep [0, 2, 4, 10] (.region [
 o1 50 (.mv (y 0)),
 o1 51 (.mv (y 2)),
 o1 52 (.mv (y 10)),
 o1 53 (.bin .sub (y 51) (y 52)),
 o1 54 (.mv (y 2)),
 o1 55 (.mv (y 10)),
 o1 56 (.mv (y 4)),
 o1 57 (.call .shared (.func 98) [y 50, y 53, y 54, y 55, y 56])]))))))), []⟩
def F83_6 : ICode := .seq (.region [
 o1 15 (.mv (y 9)),
 o1 16 (.mv (y 10)),
 o1 17 (.bin .lss (y 15) (y 16))]) (.keep [0, 2, 4, 8, 9, 10, 17] (.cond (y 17) .skip (.exit 0)))
def F83_17 : ICode := .keep [0, 2, 4, 8, 9, 10] (.block 1 (.seq (.region [
 o1 18 (.mv (y 9)),
 o1 19 (.mv (y 10)),
 o1 20 (.bin .add (y 18) (y 19)),
 o1 21 (.conv (.int .u64) (y 20)),
 o1 22 (.bin .shr (y 21) (.const (.int .u64 1))),
 o1 23 (.conv (.int .i64) (y 22)),
 o1 11 (.mv (y 23))]) (.keep [0, 2, 4, 8, 9, 10, 11] (.seq (.region [
 o1 24 (.mv (y 2)),
 o1 25 (.mv (y 0)),
 o1 26 (.mv (y 11)),
 o1 27 (.idxA 6 none (y 25) (y 26)),
 o1 28 (.load (some 6) (y 27)),
 o1 29 (.loadV (some 6) (y 4)),
 o1 30 (.call .strict (y 24) [y 28, y 29]),
 o1 31 (.bin .lss (y 30) (.const (.int .i64 0)))]) (.keep [0, 2, 4, 8, 9, 10, 11, 31] (.cond (y 31) (.region [
 o1 32 (.mv (y 11)),
 o1 33 (.bin .add (y 32) (.const (.int .i64 1))),
 o1 9 (.mv (y 33))]) (.region [
 o1 34 (.mv (y 11)),
 o1 10 (.mv (y 34))])))))))
def F83_18 : ICode := .seq F83_6 F83_17
/-- slices.BinarySearchFunc[[]introit/api.Member,introit/api.Member,introit/api.Member] -/
def F83 : IFunc := ⟨(.seq (.region [
 o1 4 (.boxV (y 1)),
 o1 6 (.mv (.const (.int .i64 0))),
 o1 7 (.mv (.const (.bool false)))]) (.keep [0, 2, 4] (.seq (.region [
 o1 12 (.mv (y 0)),
 o1 13 (.len false (y 12)),
 o1 8 (.mv (y 13))]) (.keep [0, 2, 4, 8] (.seq (.region [
 o1 14 (.mv (y 8)),
 o1 9 (.mv (.const (.int .i64 0))),
 o1 10 (.mv (y 14))]) (.keep [0, 2, 4, 8, 9, 10] (.seq (.block 0 (.loop [0, 2, 4, 8, 9, 10] F83_18)) (.keep [0, 2, 4, 8, 9] (.seq (.region [
 o1 35 (.mv (y 9)),
 o1 36 (.mv (y 9)),
 o1 37 (.mv (y 8)),
 o1 38 (.bin .lss (y 36) (y 37)),
 o1 39 (.mv (y 38)),
 ⟨(some 40), (some (39, true)), .mv (y 2)⟩,
 ⟨(some 41), (some (39, true)), .mv (y 0)⟩,
 ⟨(some 42), (some (39, true)), .mv (y 9)⟩,
 ⟨(some 43), (some (39, true)), .idxA 6 none (y 41) (y 42)⟩,
 ⟨(some 44), (some (39, true)), .load (some 6) (y 43)⟩,
 ⟨(some 45), (some (39, true)), .loadV (some 6) (y 4)⟩,
 ⟨(some 46), (some (39, true)), .call .strict (y 40) [y 44, y 45]⟩,
 ⟨(some 47), (some (39, true)), .bin .eql (y 46) (.const (.int .i64 0))⟩,
 o1 48 (.pick (y 39) (y 47) (.const (.bool false))),
 o1 6 (.mv (y 35)),
 o1 7 (.mv (y 48))]) .ret))))))))), [.tmp 6, .tmp 7]⟩
/-- introit/utf.Good -/
def F88 : IFunc := ⟨(.seq (.region [
 o1 2 (.mv (.const (.bool false)))]) (.keep [0] (.seq (.region [
 o1 3 (.mv (y 0)),
 o1 4 (.call .pure (.func 99) [y 3]),
 o1 2 (.mv (y 4))]) .ret))), [.tmp 2]⟩
/-- slices.ContainsFunc[[]introit/api.Value,introit/api.Value] -/
def F90 : IFunc := ⟨(.seq (.region [
 o1 4 (.mv (.const (.bool false)))]) (.keep [0, 1] (.seq (.region [
 o1 5 (.mv (y 0)),
 o1 6 (.mv (y 1)),
 o1 7 (.call .pure (.func 100) [y 5, y 6]),
 o1 8 (.bin .geq (y 7) (.const (.int .i64 0))),
 o1 4 (.mv (y 8))]) .ret))), [.tmp 4]⟩
/-- (introit/value.one).list$1 -/
def F91 : IFunc := ⟨(.seq (.region [
 o1 1 (.boxV (y 0)),
 o1 2 (.mv (.const (.bool false)))]) (.keep [1] (.seq (.region [
 o1 3 (.loadV (some 5) (y 1)),
 o1 4 (.call .pure (.func 48) [y 3]),
 o1 5 (.un .not (y 4)),
 o1 2 (.mv (y 5))]) .ret))), [.tmp 2]⟩
/-- internal/stringslite.Cut -/
def F93 : IFunc := ⟨(.seq (.region [
 o1 4 (.mv (.const (.str []))),
 o1 5 (.mv (.const (.str []))),
 o1 6 (.mv (.const (.bool false)))]) (.keep [0, 1] (.seq (.seq (.region [
 o1 8 (.mv (y 0)),
 o1 9 (.mv (y 1)),
 o1 10 (.call .pure (.func 101) [y 8, y 9]),
 o1 7 (.mv (y 10))]) (.keep [0, 1, 7] (.seq (.region [
 o1 11 (.mv (y 7)),
 o1 12 (.bin .geq (y 11) (.const (.int .i64 0)))]) (.keep [0, 1, 7, 12] (.cond (y 12) (.seq (.region [
 o1 13 (.mv (y 0)),
 o1 14 (.mv (y 7)),
 o1 15 (.sliceS (y 13) none (some (y 14))),
 o1 16 (.mv (y 0)),
 o1 17 (.mv (y 7)),
 o1 18 (.mv (y 1)),
 o1 19 (.len true (y 18)),
 o1 20 (.bin .add (y 17) (y 19)),
 o1 21 (.sliceS (y 16) (some (y 20)) none),
 o1 4 (.mv (y 15)),
 o1 5 (.mv (y 21)),
 o1 6 (.mv (.const (.bool true)))]) .ret) .skip))))) (.keep [0] (.seq (.region [
 o1 22 (.mv (y 0)),
 o1 4 (.mv (y 22)),
 o1 5 (.mv (.const (.str []))),
 o1 6 (.mv (.const (.bool false)))]) .ret))))), [.tmp 4, .tmp 5, .tmp 6]⟩
def F94_2 : ICode := .region [
 o1 13 (.bin .lss (y 12) (y 11))]
def F94_19 : ICode := .keep [0, 1, 2, 3, 11, 12, 13] (.seq (.cond (y 13) .skip (.exit 0)) (.keep [0, 1, 2, 3, 11, 12] (.seq (.block 1 (.seq (.region [
 o1 14 (.mv (y 12)),
 o1 9 (.mv (y 14))]) (.keep [0, 1, 2, 3, 9, 11, 12] (.seq (.region [
 o1 15 (.mv (y 3)),
 o1 16 (.mv (y 2)),
 o1 17 (.mv (y 0)),
 o1 18 (.mv (y 9)),
 o1 19 (.idxS (y 17) (y 18)),
 o1 20 (.call .pure (y 15) [y 16, y 19]),
 o1 21 (.un .not (y 20))]) (.keep [0, 1, 2, 3, 11, 12, 21] (.cond (y 21) (.seq (.region [
 o1 8 (.mv (.const (.bool false)))]) .ret) .skip)))))) (.keep [0, 1, 2, 3, 11, 12] (.region [
 o1 22 (.bin .add (y 12) (.const (.int .i64 1))),
 o1 12 (.mv (y 22))])))))
def F94_20 : ICode := .seq F94_2 F94_19
/-- introit/ident.all[introit/ident.set] -/
def F94 : IFunc := ⟨(.seq (.region [
 o1 8 (.mv (.const (.bool false)))]) (.keep [0, 1, 2, 3] (.seq (.seq (.region [
 o1 10 (.mv (y 0)),
 o1 11 (.len true (y 10)),
 o1 12 (.mv (.const (.int .i64 0)))]) (.keep [0, 1, 2, 3, 11, 12] (.block 0 (.loop [0, 1, 2, 3, 11, 12] F94_20)))) (.keep [0, 1] (.seq (.region [
 o1 23 (.mv (y 0)),
 o1 24 (.len true (y 23)),
 o1 25 (.bin .gtr (y 24) (.const (.int .i64 0))),
 o1 26 (.mv (y 25)),
 ⟨(some 27), (some (26, true)), .mv (y 0)⟩,
 ⟨(some 28), (some (26, true)), .len true (y 27)⟩,
 ⟨(some 29), (some (26, true)), .mv (y 1)⟩,
 ⟨(some 30), (some (26, true)), .bin .leq (y 28) (y 29)⟩,
 o1 31 (.pick (y 26) (y 30) (.const (.bool false))),
 o1 8 (.mv (y 31))]) .ret))))), [.tmp 8]⟩
/-- (introit/ident.set).has -/
def F95 : IFunc := ⟨(.seq (.region [
 o1 4 (.mv (.const (.bool false)))]) (.keep [0, 1] (.seq (.region [
 o1 5 (.mv (y 0)),
 o1 6 (.mv (y 1)),
 o1 7 (.call .pure (.func 102) [y 5, y 6]),
 o1 8 (.bin .geq (y 7) (.const (.int .i64 0))),
 o1 4 (.mv (y 8))]) .ret))), [.tmp 4]⟩
/-- slices.swapRangeCmpFunc[introit/api.Member] -/
def F98 : IFunc := ⟨(.seq (.region [
 o1 10 (.mv (.const (.int .i64 0)))]) (.keep [0, 1, 2, 3, 10] (.block 0 (.loop [0, 1, 2, 3, 10] (.seq (.seq (.region [
 o1 11 (.mv (y 10)),
 o1 12 (.mv (y 3)),
 o1 13 (.bin .lss (y 11) (y 12))]) (.keep [0, 1, 2, 3, 10, 13] (.cond (y 13) .skip (.exit 0)))) (.keep [0, 1, 2, 3, 10] (.seq (.block 1 (.region [
 o1 16 (.mv (y 0)),
 o1 17 (.mv (y 1)),
 o1 18 (.mv (y 10)),
 o1 19 (.bin .add (y 17) (y 18)),
 o1 20 (.mv (y 0)),
 o1 21 (.mv (y 2)),
 o1 22 (.mv (y 10)),
 o1 23 (.bin .add (y 21) (y 22)),
 o1 24 (.mv (y 0)),
 o1 25 (.mv (y 2)),
 o1 26 (.mv (y 10)),
 o1 27 (.bin .add (y 25) (y 26)),
 o1 28 (.idxA 6 none (y 24) (y 27)),
 o1 29 (.load (some 6) (y 28)),
 o1 30 (.mv (y 0)),
 o1 31 (.mv (y 1)),
 o1 32 (.mv (y 10)),
 o1 33 (.bin .add (y 31) (y 32)),
 o1 34 (.idxA 6 none (y 30) (y 33)),
 o1 35 (.load (some 6) (y 34)),
 o1 36 (.idxA 6 none (y 16) (y 19)),
 o0 (.store 6 (y 36) (y 29)),
 o1 37 (.idxA 6 none (y 20) (y 23)),
 o0 (.store 6 (y 37) (y 35))])) (.keep [0, 1, 2, 3, 10] (.region [
 o1 14 (.mv (y 10)),
 o1 15 (.bin .add (y 14) (.const (.int .i64 1))),
 o1 10 (.mv (y 15))]))))))))), []⟩
end Go.Ab
