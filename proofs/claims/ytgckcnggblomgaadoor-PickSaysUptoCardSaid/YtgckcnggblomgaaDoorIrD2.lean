/- The functions, as texts of the abstract machine. Conditions: none. -/
import Derived.Test.YtgckcnggblomgaaDoorIrD1
namespace Go.Ab

def F61_0 : ICode := .region [
  ⟨(some 4), none, .mv (.const (.bool false))⟩]
def F61_1 : ICode := .region [
  ⟨(some 5), none, .mv (.tmp 0)⟩,
  ⟨(some 6), none, .mv (.tmp 1)⟩,
  ⟨(some 7), none, .bin .lss (.tmp 5) (.tmp 6)⟩,
  ⟨(some 4), none, .mv (.tmp 7)⟩]
def F61_2 : ICode := .seq F61_1 .ret
def F61_3 : ICode := .keep [0, 1] F61_2
def F61_4 : ICode := .seq F61_0 F61_3
/-- introit/utf.Less -/
def F61 : IFunc := ⟨F61_4, [.tmp 4]⟩

def F62_0 : ICode := .region [
  ⟨(some 2), none, .mv (.const (.str []))⟩,
  ⟨(some 3), none, .mv (.const (.str []))⟩,
  ⟨(some 4), none, .mv (.const (.bool false))⟩]
def F62_1 : ICode := .region [
  ⟨(some 5), none, .mv (.tmp 0)⟩,
  ⟨(some 6), none, .call .pure (.func 68) [(.tmp 5), (.const (.int .u8 33))]⟩,
  ⟨(some 7), none, .extract (.tmp 6) 0⟩,
  ⟨(some 8), none, .extract (.tmp 6) 1⟩,
  ⟨(some 9), none, .extract (.tmp 6) 2⟩,
  ⟨(some 2), none, .mv (.tmp 7)⟩,
  ⟨(some 3), none, .mv (.tmp 8)⟩,
  ⟨(some 4), none, .mv (.tmp 9)⟩]
def F62_2 : ICode := .seq F62_1 .ret
def F62_3 : ICode := .keep [0] F62_2
def F62_4 : ICode := .seq F62_0 F62_3
/-- introit/ident.Room -/
def F62 : IFunc := ⟨F62_4, [.tmp 2, .tmp 3, .tmp 4]⟩

def F63_0 : ICode := .region [
  ⟨(some 2), none, .boxV (.tmp 0)⟩,
  ⟨(some 4), none, .new [.int .i64 0, .int .i64 0, .str [], .nils, .nils]⟩,
  ⟨(some 5), none, .mv (.const (.bool false))⟩]
def F63_1 : ICode := .region [
  ⟨(some 9), none, .loadV (some 5) (.tmp 2)⟩,
  ⟨(some 10), none, .mv (.tmp 1)⟩,
  ⟨(some 11), none, .call .pure (.func 74) [(.tmp 9), (.tmp 10)]⟩,
  ⟨(some 8), none, .mv (.tmp 11)⟩,
  ⟨(some 12), none, .extract (.tmp 8) 0⟩,
  ⟨(some 13), none, .extract (.tmp 8) 1⟩,
  ⟨(some 6), none, .mv (.tmp 12)⟩,
  ⟨(some 7), none, .mv (.tmp 13)⟩]
def F63_2 : ICode := .region [
  ⟨(some 14), none, .mv (.tmp 7)⟩,
  ⟨(some 15), none, .un .not (.tmp 14)⟩]
def F63_3 : ICode := .region [
  ⟨(some 16), none, .build [.int .i64 0, .int .i64 0, .str [], .nils, .nils] []⟩,
  ⟨none, none, .store 5 (.tmp 4) (.tmp 16)⟩,
  ⟨(some 5), none, .mv (.const (.bool false))⟩]
def F63_4 : ICode := .seq F63_3 .ret
def F63_5 : ICode := .cond (.tmp 15) F63_4 .skip
def F63_6 : ICode := .keep [2, 4, 6, 15] F63_5
def F63_7 : ICode := .seq F63_2 F63_6
def F63_8 : ICode := .region [
  ⟨(some 17), none, .fieldA 4 (.tmp 2)⟩,
  ⟨(some 18), none, .loadV none (.tmp 17)⟩,
  ⟨(some 19), none, .mv (.tmp 6)⟩,
  ⟨(some 20), none, .idxA 6 none (.tmp 18) (.tmp 19)⟩,
  ⟨(some 21), none, .fieldA 1 (.tmp 20)⟩,
  ⟨(some 22), none, .load (some 5) (.tmp 21)⟩,
  ⟨none, none, .store 5 (.tmp 4) (.tmp 22)⟩,
  ⟨(some 5), none, .mv (.const (.bool true))⟩]
def F63_9 : ICode := .seq F63_8 .ret
def F63_10 : ICode := .keep [2, 4, 6] F63_9
def F63_11 : ICode := .seq F63_7 F63_10
def F63_12 : ICode := .keep [2, 4, 6, 7] F63_11
def F63_13 : ICode := .seq F63_1 F63_12
def F63_14 : ICode := .keep [1, 2, 4] F63_13
def F63_15 : ICode := .seq F63_0 F63_14
/-- introit/value.Get -/
def F63 : IFunc := ⟨F63_15, [.cell 4 (some 5), .tmp 5]⟩

def F64_0 : ICode := .region [
  ⟨(some 4), none, .mv (.const (.int .i64 0))⟩]
def F64_1 : ICode := .region [
  ⟨(some 6), none, .mv (.tmp 0)⟩,
  ⟨(some 7), none, .len false (.tmp 6)⟩,
  ⟨(some 8), none, .mv (.const (.int .i64 0))⟩]
def F64_2 : ICode := .region [
  ⟨(some 9), none, .bin .lss (.tmp 8) (.tmp 7)⟩]
def F64_3 : ICode := .cond (.tmp 9) .skip (.exit 0)
def F64_4 : ICode := .region [
  ⟨(some 10), none, .mv (.tmp 8)⟩,
  ⟨(some 5), none, .mv (.tmp 10)⟩]
def F64_5 : ICode := .region [
  ⟨(some 11), none, .mv (.tmp 1)⟩,
  ⟨(some 12), none, .mv (.tmp 0)⟩,
  ⟨(some 13), none, .mv (.tmp 5)⟩,
  ⟨(some 14), none, .idxA 1 none (.tmp 12) (.tmp 13)⟩,
  ⟨(some 15), none, .load none (.tmp 14)⟩,
  ⟨(some 16), none, .bin .eql (.tmp 11) (.tmp 15)⟩]
def F64_6 : ICode := .region [
  ⟨(some 17), none, .mv (.tmp 5)⟩,
  ⟨(some 4), none, .mv (.tmp 17)⟩]
def F64_7 : ICode := .seq F64_6 .ret
def F64_8 : ICode := .cond (.tmp 16) F64_7 .skip
def F64_9 : ICode := .keep [0, 1, 5, 7, 8, 16] F64_8
def F64_10 : ICode := .seq F64_5 F64_9
def F64_11 : ICode := .keep [0, 1, 5, 7, 8] F64_10
def F64_12 : ICode := .seq F64_4 F64_11
def F64_13 : ICode := .block 1 F64_12
def F64_14 : ICode := .region [
  ⟨(some 18), none, .bin .add (.tmp 8) (.const (.int .i64 1))⟩,
  ⟨(some 8), none, .mv (.tmp 18)⟩]
def F64_15 : ICode := .keep [0, 1, 7, 8] F64_14
def F64_16 : ICode := .seq F64_13 F64_15
def F64_17 : ICode := .keep [0, 1, 7, 8] F64_16
def F64_18 : ICode := .seq F64_3 F64_17
def F64_19 : ICode := .keep [0, 1, 7, 8, 9] F64_18
def F64_20 : ICode := .seq F64_2 F64_19
def F64_21 : ICode := .loop [0, 1, 7, 8] F64_20
def F64_22 : ICode := .block 0 F64_21
def F64_23 : ICode := .keep [0, 1, 7, 8] F64_22
def F64_24 : ICode := .seq F64_1 F64_23
def F64_25 : ICode := .region [
  ⟨(some 4), none, .mv (.const (.int .i64 (-1)))⟩]
def F64_26 : ICode := .seq F64_25 .ret
def F64_27 : ICode := .keep [] F64_26
def F64_28 : ICode := .seq F64_24 F64_27
def F64_29 : ICode := .keep [0, 1] F64_28
def F64_30 : ICode := .seq F64_0 F64_29
/-- slices.Index[[]string,string] -/
def F64 : IFunc := ⟨F64_30, [.tmp 4]⟩

def F65_0 : ICode := .region [
  ⟨(some 2), none, .mv (.const (.lit .nilFunc))⟩,
  ⟨(some 3), none, .mv (.const (.bool false))⟩]
def F65_1 : ICode := .region [
  ⟨(some 5), none, .buildA 1 [.lit .nilFunc, .lit .nilFunc, .lit .nilFunc, .lit .nilFunc, .lit .nilFunc, .lit .nilFunc] [(0, (.func 84)), (1, (.func 85)), (2, (.func 86)), (3, (.func 87)), (4, (.func 89)), (5, (.func 92))]⟩,
  ⟨(some 4), none, .new [.lit .nilFunc, .lit .nilFunc, .lit .nilFunc, .lit .nilFunc, .lit .nilFunc, .lit .nilFunc]⟩,
  ⟨none, none, .store 6 (.tmp 4) (.tmp 5)⟩]
def F65_2 : ICode := .region [
  ⟨(some 6), none, .mv (.tmp 0)⟩,
  ⟨(some 7), none, .bin .lss (.tmp 6) (.const (.int .i64 0))⟩,
  ⟨(some 8), none, .mv (.tmp 7)⟩,
  ⟨(some 9), (some (8, false)), .mv (.tmp 0)⟩,
  ⟨(some 10), (some (8, false)), .bin .geq (.tmp 9) (.const (.int .i64 6))⟩,
  ⟨(some 11), none, .pick (.tmp 8) (.const (.bool true)) (.tmp 10)⟩]
def F65_3 : ICode := .region [
  ⟨(some 2), none, .mv (.const (.lit .nilFunc))⟩,
  ⟨(some 3), none, .mv (.const (.bool false))⟩]
def F65_4 : ICode := .seq F65_3 .ret
def F65_5 : ICode := .cond (.tmp 11) F65_4 .skip
def F65_6 : ICode := .keep [0, 4, 11] F65_5
def F65_7 : ICode := .seq F65_2 F65_6
def F65_8 : ICode := .region [
  ⟨(some 12), none, .mv (.tmp 0)⟩,
  ⟨(some 13), none, .idxA 1 (some 6) (.tmp 4) (.tmp 12)⟩,
  ⟨(some 14), none, .load none (.tmp 13)⟩,
  ⟨(some 2), none, .mv (.tmp 14)⟩,
  ⟨(some 3), none, .mv (.const (.bool true))⟩]
def F65_9 : ICode := .seq F65_8 .ret
def F65_10 : ICode := .keep [0, 4] F65_9
def F65_11 : ICode := .seq F65_7 F65_10
def F65_12 : ICode := .keep [0, 4] F65_11
def F65_13 : ICode := .seq F65_1 F65_12
def F65_14 : ICode := .keep [0] F65_13
def F65_15 : ICode := .seq F65_0 F65_14
/-- introit/value.ask -/
def F65 : IFunc := ⟨F65_15, [.tmp 2, .tmp 3]⟩

def F66_0 : ICode := .region [
  ⟨(some 2), none, .mv (.const (.nils))⟩]
def F66_1 : ICode := .region [
  ⟨(some 3), none, .mv (.tmp 0)⟩,
  ⟨(some 4), none, .eqn .sl false (.tmp 3)⟩]
def F66_2 : ICode := .region [
  ⟨(some 2), none, .mv (.const (.nils))⟩]
def F66_3 : ICode := .seq F66_2 .ret
def F66_4 : ICode := .cond (.tmp 4) F66_3 .skip
def F66_5 : ICode := .keep [0, 4] F66_4
def F66_6 : ICode := .seq F66_1 F66_5
def F66_7 : ICode := .region [
  ⟨(some 5), none, .buildSl false 1 0 [.str []] []⟩,
  ⟨(some 6), none, .mv (.tmp 0)⟩,
  ⟨(some 7), none, .append 1 16 false (.tmp 5) (.tmp 6)⟩,
  ⟨(some 2), none, .mv (.tmp 7)⟩]
def F66_8 : ICode := .seq F66_7 .ret
def F66_9 : ICode := .keep [0] F66_8
def F66_10 : ICode := .seq F66_6 F66_9
def F66_11 : ICode := .keep [0] F66_10
def F66_12 : ICode := .seq F66_0 F66_11
/-- slices.Clone[[]string,string] -/
def F66 : IFunc := ⟨F66_12, [.tmp 2]⟩

def F67_0 : ICode := .region [
  ⟨(some 2), none, .boxV (.tmp 0)⟩,
  ⟨(some 4), none, .new [.int .i64 0, .int .i64 0, .str [], .nils, .nils]⟩,
  ⟨(some 5), none, .mv (.const (.bool false))⟩]
def F67_1 : ICode := .region [
  ⟨(some 9), none, .loadV (some 5) (.tmp 2)⟩,
  ⟨(some 10), none, .mv (.tmp 1)⟩,
  ⟨(some 11), none, .call .pure (.func 63) [(.tmp 9), (.tmp 10)]⟩,
  ⟨(some 8), none, .mv (.tmp 11)⟩,
  ⟨(some 12), none, .extract (.tmp 8) 0⟩,
  ⟨(some 13), none, .extract (.tmp 8) 1⟩,
  ⟨(some 6), none, .new [.int .i64 0, .int .i64 0, .str [], .nils, .nils]⟩,
  ⟨none, none, .store 5 (.tmp 6) (.tmp 12)⟩,
  ⟨(some 7), none, .mv (.tmp 13)⟩]
def F67_2 : ICode := .region [
  ⟨(some 14), none, .mv (.tmp 7)⟩,
  ⟨(some 15), none, .un .not (.tmp 14)⟩,
  ⟨(some 16), none, .mv (.tmp 15)⟩,
  ⟨(some 17), (some (16, false)), .fieldA 0 (.tmp 6)⟩,
  ⟨(some 18), (some (16, false)), .load none (.tmp 17)⟩,
  ⟨(some 19), (some (16, false)), .bin .neq (.tmp 18) (.const (.int .i64 5))⟩,
  ⟨(some 20), none, .pick (.tmp 16) (.const (.bool true)) (.tmp 19)⟩]
def F67_3 : ICode := .region [
  ⟨(some 21), none, .build [.int .i64 0, .int .i64 0, .str [], .nils, .nils] []⟩,
  ⟨none, none, .store 5 (.tmp 4) (.tmp 21)⟩,
  ⟨(some 5), none, .mv (.const (.bool false))⟩]
def F67_4 : ICode := .seq F67_3 .ret
def F67_5 : ICode := .cond (.tmp 20) F67_4 .skip
def F67_6 : ICode := .keep [4, 6, 20] F67_5
def F67_7 : ICode := .seq F67_2 F67_6
def F67_8 : ICode := .region [
  ⟨(some 22), none, .load (some 5) (.tmp 6)⟩,
  ⟨none, none, .store 5 (.tmp 4) (.tmp 22)⟩,
  ⟨(some 5), none, .mv (.const (.bool true))⟩]
def F67_9 : ICode := .seq F67_8 .ret
def F67_10 : ICode := .keep [4, 6] F67_9
def F67_11 : ICode := .seq F67_7 F67_10
def F67_12 : ICode := .keep [4, 6, 7] F67_11
def F67_13 : ICode := .seq F67_1 F67_12
def F67_14 : ICode := .keep [1, 2, 4] F67_13
def F67_15 : ICode := .seq F67_0 F67_14
/-- introit/rules.table -/
def F67 : IFunc := ⟨F67_15, [.cell 4 (some 5), .tmp 5]⟩

def F68_0 : ICode := .region [
  ⟨(some 4), none, .mv (.const (.str []))⟩,
  ⟨(some 5), none, .mv (.const (.str []))⟩,
  ⟨(some 6), none, .mv (.const (.bool false))⟩]
def F68_1 : ICode := .region [
  ⟨(some 10), none, .mv (.tmp 0)⟩,
  ⟨(some 11), none, .bin .eql (.tmp 10) (.const (.str []))⟩,
  ⟨(some 12), none, .mv (.tmp 11)⟩,
  ⟨(some 13), (some (12, false)), .mv (.tmp 0)⟩,
  ⟨(some 14), (some (12, false)), .idxS (.tmp 13) (.const (.int .i64 0))⟩,
  ⟨(some 15), (some (12, false)), .mv (.tmp 1)⟩,
  ⟨(some 16), (some (12, false)), .bin .neq (.tmp 14) (.tmp 15)⟩,
  ⟨(some 17), none, .pick (.tmp 12) (.const (.bool true)) (.tmp 16)⟩,
  ⟨(some 18), none, .mv (.tmp 17)⟩,
  ⟨(some 19), (some (18, false)), .mv (.tmp 0)⟩,
  ⟨(some 20), (some (18, false)), .len true (.tmp 19)⟩,
  ⟨(some 21), (some (18, false)), .bin .gtr (.tmp 20) (.const (.int .i64 255))⟩,
  ⟨(some 22), none, .pick (.tmp 18) (.const (.bool true)) (.tmp 21)⟩]
def F68_2 : ICode := .region [
  ⟨(some 4), none, .mv (.const (.str []))⟩,
  ⟨(some 5), none, .mv (.const (.str []))⟩,
  ⟨(some 6), none, .mv (.const (.bool false))⟩]
def F68_3 : ICode := .seq F68_2 .ret
def F68_4 : ICode := .cond (.tmp 22) F68_3 .skip
def F68_5 : ICode := .keep [0, 22] F68_4
def F68_6 : ICode := .seq F68_1 F68_5
def F68_7 : ICode := .region [
  ⟨(some 24), none, .mv (.tmp 0)⟩,
  ⟨(some 25), none, .sliceS (.tmp 24) (some (.const (.int .i64 1))) none⟩,
  ⟨(some 26), none, .call .pure (.func 75) [(.tmp 25), (.const (.str [58]))]⟩,
  ⟨(some 23), none, .mv (.tmp 26)⟩,
  ⟨(some 27), none, .extract (.tmp 23) 0⟩,
  ⟨(some 28), none, .extract (.tmp 23) 1⟩,
  ⟨(some 29), none, .extract (.tmp 23) 2⟩,
  ⟨(some 7), none, .mv (.tmp 27)⟩,
  ⟨(some 8), none, .mv (.tmp 28)⟩,
  ⟨(some 9), none, .mv (.tmp 29)⟩]
def F68_8 : ICode := .region [
  ⟨(some 30), none, .mv (.tmp 9)⟩,
  ⟨(some 31), none, .un .not (.tmp 30)⟩,
  ⟨(some 32), none, .mv (.tmp 31)⟩,
  ⟨(some 33), (some (32, false)), .mv (.tmp 7)⟩,
  ⟨(some 34), (some (32, false)), .build [] []⟩,
  ⟨(some 35), (some (32, false)), .call .pure (.func 76) [(.tmp 33), (.const (.int .i64 255)), (.tmp 34), (.func 77)]⟩,
  ⟨(some 36), (some (32, false)), .un .not (.tmp 35)⟩,
  ⟨(some 37), none, .pick (.tmp 32) (.const (.bool true)) (.tmp 36)⟩,
  ⟨(some 38), none, .mv (.tmp 37)⟩,
  ⟨(some 39), (some (38, false)), .mv (.tmp 8)⟩,
  ⟨(some 40), (some (38, false)), .call .pure (.func 78) [(.tmp 39)]⟩,
  ⟨(some 41), (some (38, false)), .un .not (.tmp 40)⟩,
  ⟨(some 42), none, .pick (.tmp 38) (.const (.bool true)) (.tmp 41)⟩]
def F68_9 : ICode := .region [
  ⟨(some 4), none, .mv (.const (.str []))⟩,
  ⟨(some 5), none, .mv (.const (.str []))⟩,
  ⟨(some 6), none, .mv (.const (.bool false))⟩]
def F68_10 : ICode := .seq F68_9 .ret
def F68_11 : ICode := .cond (.tmp 42) F68_10 .skip
def F68_12 : ICode := .keep [7, 8, 42] F68_11
def F68_13 : ICode := .seq F68_8 F68_12
def F68_14 : ICode := .region [
  ⟨(some 43), none, .mv (.tmp 7)⟩,
  ⟨(some 44), none, .mv (.tmp 8)⟩,
  ⟨(some 4), none, .mv (.tmp 43)⟩,
  ⟨(some 5), none, .mv (.tmp 44)⟩,
  ⟨(some 6), none, .mv (.const (.bool true))⟩]
def F68_15 : ICode := .seq F68_14 .ret
def F68_16 : ICode := .keep [7, 8] F68_15
def F68_17 : ICode := .seq F68_13 F68_16
def F68_18 : ICode := .keep [7, 8, 9] F68_17
def F68_19 : ICode := .seq F68_7 F68_18
def F68_20 : ICode := .keep [0] F68_19
def F68_21 : ICode := .seq F68_6 F68_20
def F68_22 : ICode := .keep [0, 1] F68_21
def F68_23 : ICode := .seq F68_0 F68_22
/-- introit/ident.parts -/
def F68 : IFunc := ⟨F68_23, [.tmp 4, .tmp 5, .tmp 6]⟩

def F69_0 : ICode := .region [
  ⟨(some 1), none, .boxV (.tmp 0)⟩,
  ⟨(some 2), none, .mv (.const (.bool false))⟩]
def F69_1 : ICode := .region [
  ⟨(some 3), none, .loadV (some 5) (.tmp 1)⟩,
  ⟨(some 4), none, .call .pure (.func 79) [(.tmp 3)]⟩,
  ⟨(some 5), none, .bin .leq (.tmp 4) (.const (.int .i64 50))⟩,
  ⟨(some 6), none, .mv (.tmp 5)⟩,
  ⟨(some 7), (some (6, true)), .loadV (some 5) (.tmp 1)⟩,
  ⟨(some 8), (some (6, true)), .call .pure (.func 80) [(.tmp 7)]⟩,
  ⟨(some 9), none, .pick (.tmp 6) (.tmp 8) (.const (.bool false))⟩,
  ⟨(some 2), none, .mv (.tmp 9)⟩]
def F69_2 : ICode := .seq F69_1 .ret
def F69_3 : ICode := .keep [1] F69_2
def F69_4 : ICode := .seq F69_0 F69_3
/-- introit/introitref1.GoodValue -/
def F69 : IFunc := ⟨F69_4, [.tmp 2]⟩

def F70_0 : ICode := .region [
  ⟨(some 2), none, .boxV (.tmp 0)⟩,
  ⟨(some 4), none, .new [.int .i64 0, .int .i64 0, .str [], .nils, .nils]⟩,
  ⟨(some 5), none, .mv (.const (.bool false))⟩]
def F70_1 : ICode := .region [
  ⟨(some 7), none, .fieldA 0 (.tmp 2)⟩,
  ⟨(some 8), none, .loadV none (.tmp 7)⟩,
  ⟨(some 9), none, .bin .neq (.tmp 8) (.const (.int .i64 5))⟩]
def F70_2 : ICode := .region [
  ⟨(some 10), none, .build [.int .i64 0, .int .i64 0, .str [], .nils, .nils] []⟩,
  ⟨none, none, .store 5 (.tmp 4) (.tmp 10)⟩,
  ⟨(some 5), none, .mv (.const (.bool false))⟩]
def F70_3 : ICode := .seq F70_2 .ret
def F70_4 : ICode := .cond (.tmp 9) F70_3 .skip
def F70_5 : ICode := .keep [1, 2, 4, 9] F70_4
def F70_6 : ICode := .seq F70_1 F70_5
def F70_7 : ICode := .region [
  ⟨(some 6), none, .mv (.const (.int .i64 0))⟩]
def F70_8 : ICode := .region [
  ⟨(some 11), none, .mv (.tmp 6)⟩,
  ⟨(some 12), none, .fieldA 4 (.tmp 2)⟩,
  ⟨(some 13), none, .loadV none (.tmp 12)⟩,
  ⟨(some 14), none, .len false (.tmp 13)⟩,
  ⟨(some 15), none, .bin .lss (.tmp 11) (.tmp 14)⟩]
def F70_9 : ICode := .cond (.tmp 15) .skip (.exit 0)
def F70_10 : ICode := .keep [1, 2, 4, 6, 15] F70_9
def F70_11 : ICode := .seq F70_8 F70_10
def F70_12 : ICode := .region [
  ⟨(some 18), none, .fieldA 4 (.tmp 2)⟩,
  ⟨(some 19), none, .loadV none (.tmp 18)⟩,
  ⟨(some 20), none, .mv (.tmp 6)⟩,
  ⟨(some 21), none, .idxA 6 none (.tmp 19) (.tmp 20)⟩,
  ⟨(some 22), none, .fieldA 0 (.tmp 21)⟩,
  ⟨(some 23), none, .load none (.tmp 22)⟩,
  ⟨(some 24), none, .mv (.tmp 1)⟩,
  ⟨(some 25), none, .bin .eql (.tmp 23) (.tmp 24)⟩]
def F70_13 : ICode := .region [
  ⟨(some 26), none, .fieldA 4 (.tmp 2)⟩,
  ⟨(some 27), none, .loadV none (.tmp 26)⟩,
  ⟨(some 28), none, .mv (.tmp 6)⟩,
  ⟨(some 29), none, .idxA 6 none (.tmp 27) (.tmp 28)⟩,
  ⟨(some 30), none, .fieldA 1 (.tmp 29)⟩,
  ⟨(some 31), none, .load (some 5) (.tmp 30)⟩,
  ⟨none, none, .store 5 (.tmp 4) (.tmp 31)⟩,
  ⟨(some 5), none, .mv (.const (.bool true))⟩]
def F70_14 : ICode := .seq F70_13 .ret
def F70_15 : ICode := .cond (.tmp 25) F70_14 .skip
def F70_16 : ICode := .keep [1, 2, 4, 6, 25] F70_15
def F70_17 : ICode := .seq F70_12 F70_16
def F70_18 : ICode := .block 1 F70_17
def F70_19 : ICode := .region [
  ⟨(some 16), none, .mv (.tmp 6)⟩,
  ⟨(some 17), none, .bin .add (.tmp 16) (.const (.int .i64 1))⟩,
  ⟨(some 6), none, .mv (.tmp 17)⟩]
def F70_20 : ICode := .keep [1, 2, 4, 6] F70_19
def F70_21 : ICode := .seq F70_18 F70_20
def F70_22 : ICode := .keep [1, 2, 4, 6] F70_21
def F70_23 : ICode := .seq F70_11 F70_22
def F70_24 : ICode := .loop [1, 2, 4, 6] F70_23
def F70_25 : ICode := .block 0 F70_24
def F70_26 : ICode := .keep [1, 2, 4, 6] F70_25
def F70_27 : ICode := .seq F70_7 F70_26
def F70_28 : ICode := .region [
  ⟨(some 32), none, .build [.int .i64 0, .int .i64 0, .str [], .nils, .nils] []⟩,
  ⟨none, none, .store 5 (.tmp 4) (.tmp 32)⟩,
  ⟨(some 5), none, .mv (.const (.bool false))⟩]
def F70_29 : ICode := .seq F70_28 .ret
def F70_30 : ICode := .keep [4] F70_29
def F70_31 : ICode := .seq F70_27 F70_30
def F70_32 : ICode := .keep [1, 2, 4] F70_31
def F70_33 : ICode := .seq F70_6 F70_32
def F70_34 : ICode := .keep [1, 2, 4] F70_33
def F70_35 : ICode := .seq F70_0 F70_34
/-- introit/introitref1.Get -/
def F70 : IFunc := ⟨F70_35, [.cell 4 (some 5), .tmp 5]⟩

def F71_0 : ICode := .region [
  ⟨(some 2), none, .mv (.const (.str []))⟩,
  ⟨(some 3), none, .mv (.const (.str []))⟩,
  ⟨(some 4), none, .mv (.const (.bool false))⟩]
def F71_1 : ICode := .region [
  ⟨(some 5), none, .mv (.tmp 0)⟩,
  ⟨(some 6), none, .call .pure (.func 81) [(.tmp 5), (.const (.int .u8 64))]⟩,
  ⟨(some 7), none, .extract (.tmp 6) 0⟩,
  ⟨(some 8), none, .extract (.tmp 6) 1⟩,
  ⟨(some 9), none, .extract (.tmp 6) 2⟩,
  ⟨(some 2), none, .mv (.tmp 7)⟩,
  ⟨(some 3), none, .mv (.tmp 8)⟩,
  ⟨(some 4), none, .mv (.tmp 9)⟩]
def F71_2 : ICode := .seq F71_1 .ret
def F71_3 : ICode := .keep [0] F71_2
def F71_4 : ICode := .seq F71_0 F71_3
/-- introit/introitref1.User -/
def F71 : IFunc := ⟨F71_4, [.tmp 2, .tmp 3, .tmp 4]⟩

def F72_0 : ICode := .region [
  ⟨(some 10), none, .mv (.tmp 1)⟩,
  ⟨(some 11), none, .bin .add (.tmp 10) (.const (.int .i64 1))⟩,
  ⟨(some 8), none, .mv (.tmp 11)⟩]
def F72_1 : ICode := .region [
  ⟨(some 12), none, .mv (.tmp 8)⟩,
  ⟨(some 13), none, .mv (.tmp 2)⟩,
  ⟨(some 14), none, .bin .lss (.tmp 12) (.tmp 13)⟩]
def F72_2 : ICode := .cond (.tmp 14) .skip (.exit 0)
def F72_3 : ICode := .keep [0, 1, 2, 3, 8, 14] F72_2
def F72_4 : ICode := .seq F72_1 F72_3
def F72_5 : ICode := .region [
  ⟨(some 17), none, .mv (.tmp 8)⟩,
  ⟨(some 9), none, .mv (.tmp 17)⟩]
def F72_6 : ICode := .region [
  ⟨(some 18), none, .mv (.tmp 9)⟩,
  ⟨(some 19), none, .mv (.tmp 1)⟩,
  ⟨(some 20), none, .bin .gtr (.tmp 18) (.tmp 19)⟩,
  ⟨(some 21), none, .mv (.tmp 20)⟩,
  ⟨(some 22), (some (21, true)), .mv (.tmp 3)⟩,
  ⟨(some 23), (some (21, true)), .mv (.tmp 0)⟩,
  ⟨(some 24), (some (21, true)), .mv (.tmp 9)⟩,
  ⟨(some 25), (some (21, true)), .idxA 6 none (.tmp 23) (.tmp 24)⟩,
  ⟨(some 26), (some (21, true)), .load (some 6) (.tmp 25)⟩,
  ⟨(some 27), (some (21, true)), .mv (.tmp 0)⟩,
  ⟨(some 28), (some (21, true)), .mv (.tmp 9)⟩,
  ⟨(some 29), (some (21, true)), .bin .sub (.tmp 28) (.const (.int .i64 1))⟩,
  ⟨(some 30), (some (21, true)), .idxA 6 none (.tmp 27) (.tmp 29)⟩,
  ⟨(some 31), (some (21, true)), .load (some 6) (.tmp 30)⟩,
  ⟨(some 32), (some (21, true)), .call .strict (.tmp 22) [(.tmp 26), (.tmp 31)]⟩,
  ⟨(some 33), (some (21, true)), .bin .lss (.tmp 32) (.const (.int .i64 0))⟩,
  ⟨(some 34), none, .pick (.tmp 21) (.tmp 33) (.const (.bool false))⟩]
def F72_7 : ICode := .cond (.tmp 34) .skip (.exit 2)
def F72_8 : ICode := .keep [0, 1, 2, 3, 8, 9, 34] F72_7
def F72_9 : ICode := .seq F72_6 F72_8
def F72_10 : ICode := .region [
  ⟨(some 37), none, .mv (.tmp 0)⟩,
  ⟨(some 38), none, .mv (.tmp 9)⟩,
  ⟨(some 39), none, .mv (.tmp 0)⟩,
  ⟨(some 40), none, .mv (.tmp 9)⟩,
  ⟨(some 41), none, .bin .sub (.tmp 40) (.const (.int .i64 1))⟩,
  ⟨(some 42), none, .mv (.tmp 0)⟩,
  ⟨(some 43), none, .mv (.tmp 9)⟩,
  ⟨(some 44), none, .bin .sub (.tmp 43) (.const (.int .i64 1))⟩,
  ⟨(some 45), none, .idxA 6 none (.tmp 42) (.tmp 44)⟩,
  ⟨(some 46), none, .load (some 6) (.tmp 45)⟩,
  ⟨(some 47), none, .mv (.tmp 0)⟩,
  ⟨(some 48), none, .mv (.tmp 9)⟩,
  ⟨(some 49), none, .idxA 6 none (.tmp 47) (.tmp 48)⟩,
  ⟨(some 50), none, .load (some 6) (.tmp 49)⟩,
  ⟨(some 51), none, .idxA 6 none (.tmp 37) (.tmp 38)⟩,
  ⟨none, none, .store 6 (.tmp 51) (.tmp 46)⟩,
  ⟨(some 52), none, .idxA 6 none (.tmp 39) (.tmp 41)⟩,
  ⟨none, none, .store 6 (.tmp 52) (.tmp 50)⟩]
def F72_11 : ICode := .block 3 F72_10
def F72_12 : ICode := .region [
  ⟨(some 35), none, .mv (.tmp 9)⟩,
  ⟨(some 36), none, .bin .sub (.tmp 35) (.const (.int .i64 1))⟩,
  ⟨(some 9), none, .mv (.tmp 36)⟩]
def F72_13 : ICode := .keep [0, 1, 2, 3, 8, 9] F72_12
def F72_14 : ICode := .seq F72_11 F72_13
def F72_15 : ICode := .keep [0, 1, 2, 3, 8, 9] F72_14
def F72_16 : ICode := .seq F72_9 F72_15
def F72_17 : ICode := .loop [0, 1, 2, 3, 8, 9] F72_16
def F72_18 : ICode := .block 2 F72_17
def F72_19 : ICode := .keep [0, 1, 2, 3, 8, 9] F72_18
def F72_20 : ICode := .seq F72_5 F72_19
def F72_21 : ICode := .block 1 F72_20
def F72_22 : ICode := .region [
  ⟨(some 15), none, .mv (.tmp 8)⟩,
  ⟨(some 16), none, .bin .add (.tmp 15) (.const (.int .i64 1))⟩,
  ⟨(some 8), none, .mv (.tmp 16)⟩]
def F72_23 : ICode := .keep [0, 1, 2, 3, 8] F72_22
def F72_24 : ICode := .seq F72_21 F72_23
def F72_25 : ICode := .keep [0, 1, 2, 3, 8] F72_24
def F72_26 : ICode := .seq F72_4 F72_25
def F72_27 : ICode := .loop [0, 1, 2, 3, 8] F72_26
def F72_28 : ICode := .block 0 F72_27
def F72_29 : ICode := .keep [0, 1, 2, 3, 8] F72_28
def F72_30 : ICode := .seq F72_0 F72_29
/-- slices.insertionSortCmpFunc[introit/api.Member] -/
def F72 : IFunc := ⟨F72_30, []⟩

def F73_0 : ICode := .region [
  ⟨(some 25), none, .mv (.tmp 2)⟩,
  ⟨(some 26), none, .mv (.tmp 1)⟩,
  ⟨(some 27), none, .bin .sub (.tmp 25) (.tmp 26)⟩,
  ⟨(some 28), none, .bin .eql (.tmp 27) (.const (.int .i64 1))⟩]
def F73_1 : ICode := .region [
  ⟨(some 29), none, .mv (.tmp 2)⟩,
  ⟨(some 10), none, .mv (.tmp 29)⟩]
def F73_2 : ICode := .region [
  ⟨(some 30), none, .mv (.tmp 3)⟩,
  ⟨(some 11), none, .mv (.tmp 30)⟩]
def F73_3 : ICode := .region [
  ⟨(some 31), none, .mv (.tmp 10)⟩,
  ⟨(some 32), none, .mv (.tmp 11)⟩,
  ⟨(some 33), none, .bin .lss (.tmp 31) (.tmp 32)⟩]
def F73_4 : ICode := .cond (.tmp 33) .skip (.exit 0)
def F73_5 : ICode := .keep [0, 1, 4, 10, 11, 33] F73_4
def F73_6 : ICode := .seq F73_3 F73_5
def F73_7 : ICode := .region [
  ⟨(some 34), none, .mv (.tmp 10)⟩,
  ⟨(some 35), none, .mv (.tmp 11)⟩,
  ⟨(some 36), none, .bin .add (.tmp 34) (.tmp 35)⟩,
  ⟨(some 37), none, .conv (.int .u64) (.tmp 36)⟩,
  ⟨(some 38), none, .bin .shr (.tmp 37) (.const (.int .u64 1))⟩,
  ⟨(some 39), none, .conv (.int .i64) (.tmp 38)⟩,
  ⟨(some 12), none, .mv (.tmp 39)⟩]
def F73_8 : ICode := .region [
  ⟨(some 40), none, .mv (.tmp 4)⟩,
  ⟨(some 41), none, .mv (.tmp 0)⟩,
  ⟨(some 42), none, .mv (.tmp 12)⟩,
  ⟨(some 43), none, .idxA 6 none (.tmp 41) (.tmp 42)⟩,
  ⟨(some 44), none, .load (some 6) (.tmp 43)⟩,
  ⟨(some 45), none, .mv (.tmp 0)⟩,
  ⟨(some 46), none, .mv (.tmp 1)⟩,
  ⟨(some 47), none, .idxA 6 none (.tmp 45) (.tmp 46)⟩,
  ⟨(some 48), none, .load (some 6) (.tmp 47)⟩,
  ⟨(some 49), none, .call .strict (.tmp 40) [(.tmp 44), (.tmp 48)]⟩,
  ⟨(some 50), none, .bin .lss (.tmp 49) (.const (.int .i64 0))⟩]
def F73_9 : ICode := .region [
  ⟨(some 51), none, .mv (.tmp 12)⟩,
  ⟨(some 52), none, .bin .add (.tmp 51) (.const (.int .i64 1))⟩,
  ⟨(some 10), none, .mv (.tmp 52)⟩]
def F73_10 : ICode := .region [
  ⟨(some 53), none, .mv (.tmp 12)⟩,
  ⟨(some 11), none, .mv (.tmp 53)⟩]
def F73_11 : ICode := .cond (.tmp 50) F73_9 F73_10
def F73_12 : ICode := .keep [0, 1, 4, 10, 11, 12, 50] F73_11
def F73_13 : ICode := .seq F73_8 F73_12
def F73_14 : ICode := .keep [0, 1, 4, 10, 11, 12] F73_13
def F73_15 : ICode := .seq F73_7 F73_14
def F73_16 : ICode := .block 1 F73_15
def F73_17 : ICode := .keep [0, 1, 4, 10, 11] F73_16
def F73_18 : ICode := .seq F73_6 F73_17
def F73_19 : ICode := .loop [0, 1, 4, 10, 11] F73_18
def F73_20 : ICode := .block 0 F73_19
def F73_21 : ICode := .region [
  ⟨(some 54), none, .mv (.tmp 1)⟩,
  ⟨(some 13), none, .mv (.tmp 54)⟩]
def F73_22 : ICode := .region [
  ⟨(some 55), none, .mv (.tmp 13)⟩,
  ⟨(some 56), none, .mv (.tmp 10)⟩,
  ⟨(some 57), none, .bin .sub (.tmp 56) (.const (.int .i64 1))⟩,
  ⟨(some 58), none, .bin .lss (.tmp 55) (.tmp 57)⟩]
def F73_23 : ICode := .cond (.tmp 58) .skip (.exit 2)
def F73_24 : ICode := .keep [0, 10, 13, 58] F73_23
def F73_25 : ICode := .seq F73_22 F73_24
def F73_26 : ICode := .region [
  ⟨(some 61), none, .mv (.tmp 0)⟩,
  ⟨(some 62), none, .mv (.tmp 13)⟩,
  ⟨(some 63), none, .mv (.tmp 0)⟩,
  ⟨(some 64), none, .mv (.tmp 13)⟩,
  ⟨(some 65), none, .bin .add (.tmp 64) (.const (.int .i64 1))⟩,
  ⟨(some 66), none, .mv (.tmp 0)⟩,
  ⟨(some 67), none, .mv (.tmp 13)⟩,
  ⟨(some 68), none, .bin .add (.tmp 67) (.const (.int .i64 1))⟩,
  ⟨(some 69), none, .idxA 6 none (.tmp 66) (.tmp 68)⟩,
  ⟨(some 70), none, .load (some 6) (.tmp 69)⟩,
  ⟨(some 71), none, .mv (.tmp 0)⟩,
  ⟨(some 72), none, .mv (.tmp 13)⟩,
  ⟨(some 73), none, .idxA 6 none (.tmp 71) (.tmp 72)⟩,
  ⟨(some 74), none, .load (some 6) (.tmp 73)⟩,
  ⟨(some 75), none, .idxA 6 none (.tmp 61) (.tmp 62)⟩,
  ⟨none, none, .store 6 (.tmp 75) (.tmp 70)⟩,
  ⟨(some 76), none, .idxA 6 none (.tmp 63) (.tmp 65)⟩,
  ⟨none, none, .store 6 (.tmp 76) (.tmp 74)⟩]
def F73_27 : ICode := .block 3 F73_26
def F73_28 : ICode := .region [
  ⟨(some 59), none, .mv (.tmp 13)⟩,
  ⟨(some 60), none, .bin .add (.tmp 59) (.const (.int .i64 1))⟩,
  ⟨(some 13), none, .mv (.tmp 60)⟩]
def F73_29 : ICode := .keep [0, 10, 13] F73_28
def F73_30 : ICode := .seq F73_27 F73_29
def F73_31 : ICode := .keep [0, 10, 13] F73_30
def F73_32 : ICode := .seq F73_25 F73_31
def F73_33 : ICode := .loop [0, 10, 13] F73_32
def F73_34 : ICode := .block 2 F73_33
def F73_35 : ICode := .keep [0, 10, 13] F73_34
def F73_36 : ICode := .seq F73_21 F73_35
def F73_37 : ICode := .seq F73_36 .ret
def F73_38 : ICode := .keep [0, 1, 10] F73_37
def F73_39 : ICode := .seq F73_20 F73_38
def F73_40 : ICode := .keep [0, 1, 4, 10, 11] F73_39
def F73_41 : ICode := .seq F73_2 F73_40
def F73_42 : ICode := .keep [0, 1, 3, 4, 10] F73_41
def F73_43 : ICode := .seq F73_1 F73_42
def F73_44 : ICode := .cond (.tmp 28) F73_43 .skip
def F73_45 : ICode := .keep [0, 1, 2, 3, 4, 28] F73_44
def F73_46 : ICode := .seq F73_0 F73_45
def F73_47 : ICode := .region [
  ⟨(some 77), none, .mv (.tmp 3)⟩,
  ⟨(some 78), none, .mv (.tmp 2)⟩,
  ⟨(some 79), none, .bin .sub (.tmp 77) (.tmp 78)⟩,
  ⟨(some 80), none, .bin .eql (.tmp 79) (.const (.int .i64 1))⟩]
def F73_48 : ICode := .region [
  ⟨(some 81), none, .mv (.tmp 1)⟩,
  ⟨(some 14), none, .mv (.tmp 81)⟩]
def F73_49 : ICode := .region [
  ⟨(some 82), none, .mv (.tmp 2)⟩,
  ⟨(some 15), none, .mv (.tmp 82)⟩]
def F73_50 : ICode := .region [
  ⟨(some 83), none, .mv (.tmp 14)⟩,
  ⟨(some 84), none, .mv (.tmp 15)⟩,
  ⟨(some 85), none, .bin .lss (.tmp 83) (.tmp 84)⟩]
def F73_51 : ICode := .cond (.tmp 85) .skip (.exit 4)
def F73_52 : ICode := .keep [0, 2, 4, 14, 15, 85] F73_51
def F73_53 : ICode := .seq F73_50 F73_52
def F73_54 : ICode := .region [
  ⟨(some 86), none, .mv (.tmp 14)⟩,
  ⟨(some 87), none, .mv (.tmp 15)⟩,
  ⟨(some 88), none, .bin .add (.tmp 86) (.tmp 87)⟩,
  ⟨(some 89), none, .conv (.int .u64) (.tmp 88)⟩,
  ⟨(some 90), none, .bin .shr (.tmp 89) (.const (.int .u64 1))⟩,
  ⟨(some 91), none, .conv (.int .i64) (.tmp 90)⟩,
  ⟨(some 16), none, .mv (.tmp 91)⟩]
def F73_55 : ICode := .region [
  ⟨(some 92), none, .mv (.tmp 4)⟩,
  ⟨(some 93), none, .mv (.tmp 0)⟩,
  ⟨(some 94), none, .mv (.tmp 2)⟩,
  ⟨(some 95), none, .idxA 6 none (.tmp 93) (.tmp 94)⟩,
  ⟨(some 96), none, .load (some 6) (.tmp 95)⟩,
  ⟨(some 97), none, .mv (.tmp 0)⟩,
  ⟨(some 98), none, .mv (.tmp 16)⟩,
  ⟨(some 99), none, .idxA 6 none (.tmp 97) (.tmp 98)⟩,
  ⟨(some 100), none, .load (some 6) (.tmp 99)⟩,
  ⟨(some 101), none, .call .strict (.tmp 92) [(.tmp 96), (.tmp 100)]⟩,
  ⟨(some 102), none, .bin .lss (.tmp 101) (.const (.int .i64 0))⟩,
  ⟨(some 103), none, .un .not (.tmp 102)⟩]
def F73_56 : ICode := .region [
  ⟨(some 104), none, .mv (.tmp 16)⟩,
  ⟨(some 105), none, .bin .add (.tmp 104) (.const (.int .i64 1))⟩,
  ⟨(some 14), none, .mv (.tmp 105)⟩]
def F73_57 : ICode := .region [
  ⟨(some 106), none, .mv (.tmp 16)⟩,
  ⟨(some 15), none, .mv (.tmp 106)⟩]
def F73_58 : ICode := .cond (.tmp 103) F73_56 F73_57
def F73_59 : ICode := .keep [0, 2, 4, 14, 15, 16, 103] F73_58
def F73_60 : ICode := .seq F73_55 F73_59
def F73_61 : ICode := .keep [0, 2, 4, 14, 15, 16] F73_60
def F73_62 : ICode := .seq F73_54 F73_61
def F73_63 : ICode := .block 5 F73_62
def F73_64 : ICode := .keep [0, 2, 4, 14, 15] F73_63
def F73_65 : ICode := .seq F73_53 F73_64
def F73_66 : ICode := .loop [0, 2, 4, 14, 15] F73_65
def F73_67 : ICode := .block 4 F73_66
def F73_68 : ICode := .region [
  ⟨(some 107), none, .mv (.tmp 2)⟩,
  ⟨(some 17), none, .mv (.tmp 107)⟩]
def F73_69 : ICode := .region [
  ⟨(some 108), none, .mv (.tmp 17)⟩,
  ⟨(some 109), none, .mv (.tmp 14)⟩,
  ⟨(some 110), none, .bin .gtr (.tmp 108) (.tmp 109)⟩]
def F73_70 : ICode := .cond (.tmp 110) .skip (.exit 6)
def F73_71 : ICode := .keep [0, 14, 17, 110] F73_70
def F73_72 : ICode := .seq F73_69 F73_71
def F73_73 : ICode := .region [
  ⟨(some 113), none, .mv (.tmp 0)⟩,
  ⟨(some 114), none, .mv (.tmp 17)⟩,
  ⟨(some 115), none, .mv (.tmp 0)⟩,
  ⟨(some 116), none, .mv (.tmp 17)⟩,
  ⟨(some 117), none, .bin .sub (.tmp 116) (.const (.int .i64 1))⟩,
  ⟨(some 118), none, .mv (.tmp 0)⟩,
  ⟨(some 119), none, .mv (.tmp 17)⟩,
  ⟨(some 120), none, .bin .sub (.tmp 119) (.const (.int .i64 1))⟩,
  ⟨(some 121), none, .idxA 6 none (.tmp 118) (.tmp 120)⟩,
  ⟨(some 122), none, .load (some 6) (.tmp 121)⟩,
  ⟨(some 123), none, .mv (.tmp 0)⟩,
  ⟨(some 124), none, .mv (.tmp 17)⟩,
  ⟨(some 125), none, .idxA 6 none (.tmp 123) (.tmp 124)⟩,
  ⟨(some 126), none, .load (some 6) (.tmp 125)⟩,
  ⟨(some 127), none, .idxA 6 none (.tmp 113) (.tmp 114)⟩,
  ⟨none, none, .store 6 (.tmp 127) (.tmp 122)⟩,
  ⟨(some 128), none, .idxA 6 none (.tmp 115) (.tmp 117)⟩,
  ⟨none, none, .store 6 (.tmp 128) (.tmp 126)⟩]
def F73_74 : ICode := .block 7 F73_73
def F73_75 : ICode := .region [
  ⟨(some 111), none, .mv (.tmp 17)⟩,
  ⟨(some 112), none, .bin .sub (.tmp 111) (.const (.int .i64 1))⟩,
  ⟨(some 17), none, .mv (.tmp 112)⟩]
def F73_76 : ICode := .keep [0, 14, 17] F73_75
def F73_77 : ICode := .seq F73_74 F73_76
def F73_78 : ICode := .keep [0, 14, 17] F73_77
def F73_79 : ICode := .seq F73_72 F73_78
def F73_80 : ICode := .loop [0, 14, 17] F73_79
def F73_81 : ICode := .block 6 F73_80
def F73_82 : ICode := .keep [0, 14, 17] F73_81
def F73_83 : ICode := .seq F73_68 F73_82
def F73_84 : ICode := .seq F73_83 .ret
def F73_85 : ICode := .keep [0, 2, 14] F73_84
def F73_86 : ICode := .seq F73_67 F73_85
def F73_87 : ICode := .keep [0, 2, 4, 14, 15] F73_86
def F73_88 : ICode := .seq F73_49 F73_87
def F73_89 : ICode := .keep [0, 2, 4, 14] F73_88
def F73_90 : ICode := .seq F73_48 F73_89
def F73_91 : ICode := .cond (.tmp 80) F73_90 .skip
def F73_92 : ICode := .keep [0, 1, 2, 3, 4, 80] F73_91
def F73_93 : ICode := .seq F73_47 F73_92
def F73_94 : ICode := .region [
  ⟨(some 129), none, .mv (.tmp 1)⟩,
  ⟨(some 130), none, .mv (.tmp 3)⟩,
  ⟨(some 131), none, .bin .add (.tmp 129) (.tmp 130)⟩,
  ⟨(some 132), none, .conv (.int .u64) (.tmp 131)⟩,
  ⟨(some 133), none, .bin .shr (.tmp 132) (.const (.int .u64 1))⟩,
  ⟨(some 134), none, .conv (.int .i64) (.tmp 133)⟩,
  ⟨(some 18), none, .mv (.tmp 134)⟩]
def F73_95 : ICode := .region [
  ⟨(some 135), none, .mv (.tmp 18)⟩,
  ⟨(some 136), none, .mv (.tmp 2)⟩,
  ⟨(some 137), none, .bin .add (.tmp 135) (.tmp 136)⟩,
  ⟨(some 19), none, .mv (.tmp 137)⟩]
def F73_96 : ICode := .region [
  ⟨(some 20), none, .mv (.const (.int .i64 0))⟩,
  ⟨(some 21), none, .mv (.const (.int .i64 0))⟩]
def F73_97 : ICode := .region [
  ⟨(some 138), none, .mv (.tmp 2)⟩,
  ⟨(some 139), none, .mv (.tmp 18)⟩,
  ⟨(some 140), none, .bin .gtr (.tmp 138) (.tmp 139)⟩]
def F73_98 : ICode := .region [
  ⟨(some 141), none, .mv (.tmp 19)⟩,
  ⟨(some 142), none, .mv (.tmp 3)⟩,
  ⟨(some 143), none, .bin .sub (.tmp 141) (.tmp 142)⟩,
  ⟨(some 20), none, .mv (.tmp 143)⟩]
def F73_99 : ICode := .region [
  ⟨(some 144), none, .mv (.tmp 18)⟩,
  ⟨(some 21), none, .mv (.tmp 144)⟩]
def F73_100 : ICode := .keep [0, 1, 2, 3, 4, 18, 19, 20] F73_99
def F73_101 : ICode := .seq F73_98 F73_100
def F73_102 : ICode := .region [
  ⟨(some 145), none, .mv (.tmp 1)⟩,
  ⟨(some 20), none, .mv (.tmp 145)⟩]
def F73_103 : ICode := .region [
  ⟨(some 146), none, .mv (.tmp 2)⟩,
  ⟨(some 21), none, .mv (.tmp 146)⟩]
def F73_104 : ICode := .keep [0, 1, 2, 3, 4, 18, 19, 20] F73_103
def F73_105 : ICode := .seq F73_102 F73_104
def F73_106 : ICode := .cond (.tmp 140) F73_101 F73_105
def F73_107 : ICode := .keep [0, 1, 2, 3, 4, 18, 19, 140] F73_106
def F73_108 : ICode := .seq F73_97 F73_107
def F73_109 : ICode := .region [
  ⟨(some 147), none, .mv (.tmp 19)⟩,
  ⟨(some 148), none, .bin .sub (.tmp 147) (.const (.int .i64 1))⟩,
  ⟨(some 22), none, .mv (.tmp 148)⟩]
def F73_110 : ICode := .region [
  ⟨(some 149), none, .mv (.tmp 20)⟩,
  ⟨(some 150), none, .mv (.tmp 21)⟩,
  ⟨(some 151), none, .bin .lss (.tmp 149) (.tmp 150)⟩]
def F73_111 : ICode := .cond (.tmp 151) .skip (.exit 8)
def F73_112 : ICode := .keep [0, 1, 2, 3, 4, 18, 19, 20, 21, 22, 151] F73_111
def F73_113 : ICode := .seq F73_110 F73_112
def F73_114 : ICode := .region [
  ⟨(some 152), none, .mv (.tmp 20)⟩,
  ⟨(some 153), none, .mv (.tmp 21)⟩,
  ⟨(some 154), none, .bin .add (.tmp 152) (.tmp 153)⟩,
  ⟨(some 155), none, .conv (.int .u64) (.tmp 154)⟩,
  ⟨(some 156), none, .bin .shr (.tmp 155) (.const (.int .u64 1))⟩,
  ⟨(some 157), none, .conv (.int .i64) (.tmp 156)⟩,
  ⟨(some 23), none, .mv (.tmp 157)⟩]
def F73_115 : ICode := .region [
  ⟨(some 158), none, .mv (.tmp 4)⟩,
  ⟨(some 159), none, .mv (.tmp 0)⟩,
  ⟨(some 160), none, .mv (.tmp 22)⟩,
  ⟨(some 161), none, .mv (.tmp 23)⟩,
  ⟨(some 162), none, .bin .sub (.tmp 160) (.tmp 161)⟩,
  ⟨(some 163), none, .idxA 6 none (.tmp 159) (.tmp 162)⟩,
  ⟨(some 164), none, .load (some 6) (.tmp 163)⟩,
  ⟨(some 165), none, .mv (.tmp 0)⟩,
  ⟨(some 166), none, .mv (.tmp 23)⟩,
  ⟨(some 167), none, .idxA 6 none (.tmp 165) (.tmp 166)⟩,
  ⟨(some 168), none, .load (some 6) (.tmp 167)⟩,
  ⟨(some 169), none, .call .strict (.tmp 158) [(.tmp 164), (.tmp 168)]⟩,
  ⟨(some 170), none, .bin .lss (.tmp 169) (.const (.int .i64 0))⟩,
  ⟨(some 171), none, .un .not (.tmp 170)⟩]
def F73_116 : ICode := .region [
  ⟨(some 172), none, .mv (.tmp 23)⟩,
  ⟨(some 173), none, .bin .add (.tmp 172) (.const (.int .i64 1))⟩,
  ⟨(some 20), none, .mv (.tmp 173)⟩]
def F73_117 : ICode := .region [
  ⟨(some 174), none, .mv (.tmp 23)⟩,
  ⟨(some 21), none, .mv (.tmp 174)⟩]
def F73_118 : ICode := .cond (.tmp 171) F73_116 F73_117
def F73_119 : ICode := .keep [0, 1, 2, 3, 4, 18, 19, 20, 21, 22, 23, 171] F73_118
def F73_120 : ICode := .seq F73_115 F73_119
def F73_121 : ICode := .keep [0, 1, 2, 3, 4, 18, 19, 20, 21, 22, 23] F73_120
def F73_122 : ICode := .seq F73_114 F73_121
def F73_123 : ICode := .block 9 F73_122
def F73_124 : ICode := .keep [0, 1, 2, 3, 4, 18, 19, 20, 21, 22] F73_123
def F73_125 : ICode := .seq F73_113 F73_124
def F73_126 : ICode := .loop [0, 1, 2, 3, 4, 18, 19, 20, 21, 22] F73_125
def F73_127 : ICode := .block 8 F73_126
def F73_128 : ICode := .region [
  ⟨(some 175), none, .mv (.tmp 19)⟩,
  ⟨(some 176), none, .mv (.tmp 20)⟩,
  ⟨(some 177), none, .bin .sub (.tmp 175) (.tmp 176)⟩,
  ⟨(some 24), none, .mv (.tmp 177)⟩]
def F73_129 : ICode := .region [
  ⟨(some 178), none, .mv (.tmp 20)⟩,
  ⟨(some 179), none, .mv (.tmp 2)⟩,
  ⟨(some 180), none, .bin .lss (.tmp 178) (.tmp 179)⟩,
  ⟨(some 181), none, .mv (.tmp 180)⟩,
  ⟨(some 182), (some (181, true)), .mv (.tmp 2)⟩,
  ⟨(some 183), (some (181, true)), .mv (.tmp 24)⟩,
  ⟨(some 184), (some (181, true)), .bin .lss (.tmp 182) (.tmp 183)⟩,
  ⟨(some 185), none, .pick (.tmp 181) (.tmp 184) (.const (.bool false))⟩]
def F73_130 : ICode := .region [
  ⟨(some 186), none, .mv (.tmp 0)⟩,
  ⟨(some 187), none, .mv (.tmp 20)⟩,
  ⟨(some 188), none, .mv (.tmp 2)⟩,
  ⟨(some 189), none, .mv (.tmp 24)⟩,
  ⟨(some 190), none, .mv (.tmp 4)⟩,
  ⟨(some 191), none, .call .shared (.func 82) [(.tmp 186), (.tmp 187), (.tmp 188), (.tmp 189), (.tmp 190)]⟩]
def F73_131 : ICode := .cond (.tmp 185) F73_130 .skip
def F73_132 : ICode := .keep [0, 1, 2, 3, 4, 18, 20, 24, 185] F73_131
def F73_133 : ICode := .seq F73_129 F73_132
def F73_134 : ICode := .region [
  ⟨(some 192), none, .mv (.tmp 1)⟩,
  ⟨(some 193), none, .mv (.tmp 20)⟩,
  ⟨(some 194), none, .bin .lss (.tmp 192) (.tmp 193)⟩,
  ⟨(some 195), none, .mv (.tmp 194)⟩,
  ⟨(some 196), (some (195, true)), .mv (.tmp 20)⟩,
  ⟨(some 197), (some (195, true)), .mv (.tmp 18)⟩,
  ⟨(some 198), (some (195, true)), .bin .lss (.tmp 196) (.tmp 197)⟩,
  ⟨(some 199), none, .pick (.tmp 195) (.tmp 198) (.const (.bool false))⟩]
def F73_135 : ICode := .region [
  ⟨(some 200), none, .mv (.tmp 0)⟩,
  ⟨(some 201), none, .mv (.tmp 1)⟩,
  ⟨(some 202), none, .mv (.tmp 20)⟩,
  ⟨(some 203), none, .mv (.tmp 18)⟩,
  ⟨(some 204), none, .mv (.tmp 4)⟩,
  ⟨(some 205), none, .call .shared (.func 73) [(.tmp 200), (.tmp 201), (.tmp 202), (.tmp 203), (.tmp 204)]⟩]
def F73_136 : ICode := .cond (.tmp 199) F73_135 .skip
def F73_137 : ICode := .keep [0, 1, 3, 4, 18, 20, 24, 199] F73_136
def F73_138 : ICode := .seq F73_134 F73_137
def F73_139 : ICode := .region [
  ⟨(some 206), none, .mv (.tmp 18)⟩,
  ⟨(some 207), none, .mv (.tmp 24)⟩,
  ⟨(some 208), none, .bin .lss (.tmp 206) (.tmp 207)⟩,
  ⟨(some 209), none, .mv (.tmp 208)⟩,
  ⟨(some 210), (some (209, true)), .mv (.tmp 24)⟩,
  ⟨(some 211), (some (209, true)), .mv (.tmp 3)⟩,
  ⟨(some 212), (some (209, true)), .bin .lss (.tmp 210) (.tmp 211)⟩,
  ⟨(some 213), none, .pick (.tmp 209) (.tmp 212) (.const (.bool false))⟩]
def F73_140 : ICode := .region [
  ⟨(some 214), none, .mv (.tmp 0)⟩,
  ⟨(some 215), none, .mv (.tmp 18)⟩,
  ⟨(some 216), none, .mv (.tmp 24)⟩,
  ⟨(some 217), none, .mv (.tmp 3)⟩,
  ⟨(some 218), none, .mv (.tmp 4)⟩,
  ⟨(some 219), none, .call .shared (.func 73) [(.tmp 214), (.tmp 215), (.tmp 216), (.tmp 217), (.tmp 218)]⟩]
def F73_141 : ICode := .cond (.tmp 213) F73_140 .skip
def F73_142 : ICode := .keep [0, 3, 4, 18, 24, 213] F73_141
def F73_143 : ICode := .seq F73_139 F73_142
def F73_144 : ICode := .keep [0, 3, 4, 18, 24] F73_143
def F73_145 : ICode := .seq F73_138 F73_144
def F73_146 : ICode := .keep [0, 1, 3, 4, 18, 20, 24] F73_145
def F73_147 : ICode := .seq F73_133 F73_146
def F73_148 : ICode := .keep [0, 1, 2, 3, 4, 18, 20, 24] F73_147
def F73_149 : ICode := .seq F73_128 F73_148
def F73_150 : ICode := .keep [0, 1, 2, 3, 4, 18, 19, 20] F73_149
def F73_151 : ICode := .seq F73_127 F73_150
def F73_152 : ICode := .keep [0, 1, 2, 3, 4, 18, 19, 20, 21, 22] F73_151
def F73_153 : ICode := .seq F73_109 F73_152
def F73_154 : ICode := .keep [0, 1, 2, 3, 4, 18, 19, 20, 21] F73_153
def F73_155 : ICode := .seq F73_108 F73_154
def F73_156 : ICode := .keep [0, 1, 2, 3, 4, 18, 19] F73_155
def F73_157 : ICode := .seq F73_96 F73_156
def F73_158 : ICode := .keep [0, 1, 2, 3, 4, 18, 19] F73_157
def F73_159 : ICode := .seq F73_95 F73_158
def F73_160 : ICode := .keep [0, 1, 2, 3, 4, 18] F73_159
def F73_161 : ICode := .seq F73_94 F73_160
def F73_162 : ICode := .keep [0, 1, 2, 3, 4] F73_161
def F73_163 : ICode := .seq F73_93 F73_162
def F73_164 : ICode := .keep [0, 1, 2, 3, 4] F73_163
def F73_165 : ICode := .seq F73_46 F73_164
/-- slices.symMergeCmpFunc[introit/api.Member] -/
def F73 : IFunc := ⟨F73_165, []⟩

def F74_0 : ICode := .region [
  ⟨(some 2), none, .boxV (.tmp 0)⟩,
  ⟨(some 4), none, .mv (.const (.int .i64 0))⟩,
  ⟨(some 5), none, .mv (.const (.bool false))⟩]
def F74_1 : ICode := .region [
  ⟨(some 6), none, .fieldA 0 (.tmp 2)⟩,
  ⟨(some 7), none, .loadV none (.tmp 6)⟩,
  ⟨(some 8), none, .bin .neq (.tmp 7) (.const (.int .i64 5))⟩]
def F74_2 : ICode := .region [
  ⟨(some 4), none, .mv (.const (.int .i64 0))⟩,
  ⟨(some 5), none, .mv (.const (.bool false))⟩]
def F74_3 : ICode := .seq F74_2 .ret
def F74_4 : ICode := .cond (.tmp 8) F74_3 .skip
def F74_5 : ICode := .keep [1, 2, 8] F74_4
def F74_6 : ICode := .seq F74_1 F74_5
def F74_7 : ICode := .region [
  ⟨(some 9), none, .fieldA 4 (.tmp 2)⟩,
  ⟨(some 10), none, .loadV none (.tmp 9)⟩,
  ⟨(some 11), none, .mv (.tmp 1)⟩,
  ⟨(some 12), none, .build [.str [], .int .i64 0, .int .i64 0, .str [], .nils, .nils] [(0, 1, (.tmp 11))]⟩,
  ⟨(some 13), none, .call .pure (.func 83) [(.tmp 10), (.tmp 12), (.func 40)]⟩,
  ⟨(some 14), none, .extract (.tmp 13) 0⟩,
  ⟨(some 15), none, .extract (.tmp 13) 1⟩,
  ⟨(some 4), none, .mv (.tmp 14)⟩,
  ⟨(some 5), none, .mv (.tmp 15)⟩]
def F74_8 : ICode := .seq F74_7 .ret
def F74_9 : ICode := .keep [1, 2] F74_8
def F74_10 : ICode := .seq F74_6 F74_9
def F74_11 : ICode := .keep [1, 2] F74_10
def F74_12 : ICode := .seq F74_0 F74_11
/-- introit/value.place -/
def F74 : IFunc := ⟨F74_12, [.tmp 4, .tmp 5]⟩

def F84_0 : ICode := .region [
  ⟨(some 1), none, .boxV (.tmp 0)⟩,
  ⟨(some 2), none, .mv (.const (.bool false))⟩]
def F84_1 : ICode := .region [
  ⟨(some 3), none, .fieldA 1 (.tmp 1)⟩,
  ⟨(some 4), none, .loadV none (.tmp 3)⟩,
  ⟨(some 5), none, .bin .eql (.tmp 4) (.const (.int .i64 0))⟩,
  ⟨(some 6), none, .mv (.tmp 5)⟩,
  ⟨(some 7), (some (6, true)), .fieldA 2 (.tmp 1)⟩,
  ⟨(some 8), (some (6, true)), .loadV none (.tmp 7)⟩,
  ⟨(some 9), (some (6, true)), .bin .eql (.tmp 8) (.const (.str []))⟩,
  ⟨(some 10), none, .pick (.tmp 6) (.tmp 9) (.const (.bool false))⟩,
  ⟨(some 11), none, .mv (.tmp 10)⟩,
  ⟨(some 12), (some (11, true)), .fieldA 3 (.tmp 1)⟩,
  ⟨(some 13), (some (11, true)), .loadV none (.tmp 12)⟩,
  ⟨(some 14), (some (11, true)), .len false (.tmp 13)⟩,
  ⟨(some 15), (some (11, true)), .bin .eql (.tmp 14) (.const (.int .i64 0))⟩,
  ⟨(some 16), none, .pick (.tmp 11) (.tmp 15) (.const (.bool false))⟩,
  ⟨(some 17), none, .mv (.tmp 16)⟩,
  ⟨(some 18), (some (17, true)), .fieldA 4 (.tmp 1)⟩,
  ⟨(some 19), (some (17, true)), .loadV none (.tmp 18)⟩,
  ⟨(some 20), (some (17, true)), .len false (.tmp 19)⟩,
  ⟨(some 21), (some (17, true)), .bin .eql (.tmp 20) (.const (.int .i64 0))⟩,
  ⟨(some 22), none, .pick (.tmp 17) (.tmp 21) (.const (.bool false))⟩,
  ⟨(some 2), none, .mv (.tmp 22)⟩]
def F84_2 : ICode := .seq F84_1 .ret
def F84_3 : ICode := .keep [1] F84_2
def F84_4 : ICode := .seq F84_0 F84_3
/-- (introit/value.one).bare -/
def F84 : IFunc := ⟨F84_4, [.tmp 2]⟩

def F85_0 : ICode := .region [
  ⟨(some 1), none, .box (.tmp 0)⟩,
  ⟨(some 2), none, .mv (.const (.bool false))⟩]
def F85_1 : ICode := .region [
  ⟨(some 4), none, .fieldA 1 (.tmp 1)⟩,
  ⟨(some 5), none, .load none (.tmp 4)⟩,
  ⟨(some 3), none, .mv (.tmp 5)⟩]
def F85_2 : ICode := .region [
  ⟨(some 6), none, .fieldA 1 (.tmp 1)⟩,
  ⟨none, none, .store 1 (.tmp 6) (.const (.int .i64 0))⟩]
def F85_3 : ICode := .region [
  ⟨(some 7), none, .load (some 5) (.tmp 1)⟩,
  ⟨(some 8), none, .call .pure (.func 84) [(.tmp 7)]⟩,
  ⟨(some 9), none, .mv (.tmp 8)⟩,
  ⟨(some 10), (some (9, true)), .mv (.tmp 3)⟩,
  ⟨(some 11), (some (9, true)), .bin .eql (.tmp 10) (.const (.int .i64 0))⟩,
  ⟨(some 12), (some (9, true)), .mv (.tmp 11)⟩,
  ⟨(some 13), (some (12, false)), .mv (.tmp 3)⟩,
  ⟨(some 14), (some (12, false)), .bin .eql (.tmp 13) (.const (.int .i64 1))⟩,
  ⟨(some 15), (some (9, true)), .pick (.tmp 12) (.const (.bool true)) (.tmp 14)⟩,
  ⟨(some 16), none, .pick (.tmp 9) (.tmp 15) (.const (.bool false))⟩,
  ⟨(some 2), none, .mv (.tmp 16)⟩]
def F85_4 : ICode := .seq F85_3 .ret
def F85_5 : ICode := .keep [1, 3] F85_4
def F85_6 : ICode := .seq F85_2 F85_5
def F85_7 : ICode := .keep [1, 3] F85_6
def F85_8 : ICode := .seq F85_1 F85_7
def F85_9 : ICode := .keep [1] F85_8
def F85_10 : ICode := .seq F85_0 F85_9
/-- (introit/value.one).bit -/
def F85 : IFunc := ⟨F85_10, [.tmp 2]⟩

def F86_0 : ICode := .region [
  ⟨(some 1), none, .box (.tmp 0)⟩,
  ⟨(some 2), none, .mv (.const (.bool false))⟩]
def F86_1 : ICode := .region [
  ⟨(some 4), none, .fieldA 1 (.tmp 1)⟩,
  ⟨(some 5), none, .load none (.tmp 4)⟩,
  ⟨(some 3), none, .mv (.tmp 5)⟩]
def F86_2 : ICode := .region [
  ⟨(some 6), none, .fieldA 1 (.tmp 1)⟩,
  ⟨none, none, .store 1 (.tmp 6) (.const (.int .i64 0))⟩]
def F86_3 : ICode := .region [
  ⟨(some 7), none, .load (some 5) (.tmp 1)⟩,
  ⟨(some 8), none, .call .pure (.func 84) [(.tmp 7)]⟩,
  ⟨(some 9), none, .mv (.tmp 8)⟩,
  ⟨(some 10), (some (9, true)), .mv (.tmp 3)⟩,
  ⟨(some 11), (some (9, true)), .bin .geq (.tmp 10) (.const (.int .i64 (-9007199254740991)))⟩,
  ⟨(some 12), none, .pick (.tmp 9) (.tmp 11) (.const (.bool false))⟩,
  ⟨(some 13), none, .mv (.tmp 12)⟩,
  ⟨(some 14), (some (13, true)), .mv (.tmp 3)⟩,
  ⟨(some 15), (some (13, true)), .bin .leq (.tmp 14) (.const (.int .i64 9007199254740991))⟩,
  ⟨(some 16), none, .pick (.tmp 13) (.tmp 15) (.const (.bool false))⟩,
  ⟨(some 2), none, .mv (.tmp 16)⟩]
def F86_4 : ICode := .seq F86_3 .ret
def F86_5 : ICode := .keep [1, 3] F86_4
def F86_6 : ICode := .seq F86_2 F86_5
def F86_7 : ICode := .keep [1, 3] F86_6
def F86_8 : ICode := .seq F86_1 F86_7
def F86_9 : ICode := .keep [1] F86_8
def F86_10 : ICode := .seq F86_0 F86_9
/-- (introit/value.one).number -/
def F86 : IFunc := ⟨F86_10, [.tmp 2]⟩

def F87_0 : ICode := .region [
  ⟨(some 1), none, .box (.tmp 0)⟩,
  ⟨(some 2), none, .mv (.const (.bool false))⟩]
def F87_1 : ICode := .region [
  ⟨(some 4), none, .fieldA 2 (.tmp 1)⟩,
  ⟨(some 5), none, .load none (.tmp 4)⟩,
  ⟨(some 3), none, .mv (.tmp 5)⟩]
def F87_2 : ICode := .region [
  ⟨(some 6), none, .fieldA 2 (.tmp 1)⟩,
  ⟨none, none, .store 1 (.tmp 6) (.const (.str []))⟩]
def F87_3 : ICode := .region [
  ⟨(some 7), none, .load (some 5) (.tmp 1)⟩,
  ⟨(some 8), none, .call .pure (.func 84) [(.tmp 7)]⟩,
  ⟨(some 9), none, .mv (.tmp 8)⟩,
  ⟨(some 10), (some (9, true)), .mv (.tmp 3)⟩,
  ⟨(some 11), (some (9, true)), .call .pure (.func 88) [(.tmp 10)]⟩,
  ⟨(some 12), none, .pick (.tmp 9) (.tmp 11) (.const (.bool false))⟩,
  ⟨(some 2), none, .mv (.tmp 12)⟩]
def F87_4 : ICode := .seq F87_3 .ret
def F87_5 : ICode := .keep [1, 3] F87_4
def F87_6 : ICode := .seq F87_2 F87_5
def F87_7 : ICode := .keep [1, 3] F87_6
def F87_8 : ICode := .seq F87_1 F87_7
def F87_9 : ICode := .keep [1] F87_8
def F87_10 : ICode := .seq F87_0 F87_9
/-- (introit/value.one).text -/
def F87 : IFunc := ⟨F87_10, [.tmp 2]⟩

def F89_0 : ICode := .region [
  ⟨(some 1), none, .box (.tmp 0)⟩,
  ⟨(some 2), none, .mv (.const (.bool false))⟩]
def F89_1 : ICode := .region [
  ⟨(some 4), none, .fieldA 3 (.tmp 1)⟩,
  ⟨(some 5), none, .load none (.tmp 4)⟩,
  ⟨(some 3), none, .mv (.tmp 5)⟩]
def F89_2 : ICode := .region [
  ⟨(some 6), none, .fieldA 3 (.tmp 1)⟩,
  ⟨none, none, .store 1 (.tmp 6) (.const (.nils))⟩]
def F89_3 : ICode := .region [
  ⟨(some 7), none, .load (some 5) (.tmp 1)⟩,
  ⟨(some 8), none, .call .pure (.func 84) [(.tmp 7)]⟩,
  ⟨(some 9), none, .mv (.tmp 8)⟩,
  ⟨(some 10), (some (9, true)), .mv (.tmp 3)⟩,
  ⟨(some 11), (some (9, true)), .call .pure (.func 90) [(.tmp 10), (.func 91)]⟩,
  ⟨(some 12), (some (9, true)), .un .not (.tmp 11)⟩,
  ⟨(some 13), none, .pick (.tmp 9) (.tmp 12) (.const (.bool false))⟩,
  ⟨(some 2), none, .mv (.tmp 13)⟩]
def F89_4 : ICode := .seq F89_3 .ret
def F89_5 : ICode := .keep [1, 3] F89_4
def F89_6 : ICode := .seq F89_2 F89_5
def F89_7 : ICode := .keep [1, 3] F89_6
def F89_8 : ICode := .seq F89_1 F89_7
def F89_9 : ICode := .keep [1] F89_8
def F89_10 : ICode := .seq F89_0 F89_9
/-- (introit/value.one).list -/
def F89 : IFunc := ⟨F89_10, [.tmp 2]⟩

def F92_0 : ICode := .region [
  ⟨(some 1), none, .box (.tmp 0)⟩,
  ⟨(some 2), none, .mv (.const (.bool false))⟩]
def F92_1 : ICode := .region [
  ⟨(some 6), none, .fieldA 4 (.tmp 1)⟩,
  ⟨(some 7), none, .load none (.tmp 6)⟩,
  ⟨(some 3), none, .mv (.tmp 7)⟩]
def F92_2 : ICode := .region [
  ⟨(some 8), none, .fieldA 4 (.tmp 1)⟩,
  ⟨none, none, .store 1 (.tmp 8) (.const (.nils))⟩]
def F92_3 : ICode := .region [
  ⟨(some 9), none, .load (some 5) (.tmp 1)⟩,
  ⟨(some 10), none, .call .pure (.func 84) [(.tmp 9)]⟩,
  ⟨(some 11), none, .un .not (.tmp 10)⟩]
def F92_4 : ICode := .region [
  ⟨(some 2), none, .mv (.const (.bool false))⟩]
def F92_5 : ICode := .seq F92_4 .ret
def F92_6 : ICode := .cond (.tmp 11) F92_5 .skip
def F92_7 : ICode := .keep [3, 11] F92_6
def F92_8 : ICode := .seq F92_3 F92_7
def F92_9 : ICode := .region [
  ⟨(some 12), none, .mv (.tmp 3)⟩,
  ⟨(some 13), none, .len false (.tmp 12)⟩,
  ⟨(some 14), none, .mv (.const (.int .i64 0))⟩]
def F92_10 : ICode := .region [
  ⟨(some 15), none, .bin .lss (.tmp 14) (.tmp 13)⟩]
def F92_11 : ICode := .cond (.tmp 15) .skip (.exit 0)
def F92_12 : ICode := .region [
  ⟨(some 16), none, .mv (.tmp 14)⟩,
  ⟨(some 17), none, .idxA 6 none (.tmp 12) (.tmp 14)⟩,
  ⟨(some 18), none, .load (some 6) (.tmp 17)⟩,
  ⟨(some 5), none, .new [.str [], .int .i64 0, .int .i64 0, .str [], .nils, .nils]⟩,
  ⟨(some 4), none, .mv (.tmp 16)⟩,
  ⟨none, none, .store 6 (.tmp 5) (.tmp 18)⟩]
def F92_13 : ICode := .region [
  ⟨(some 19), none, .fieldA 0 (.tmp 5)⟩,
  ⟨(some 20), none, .load none (.tmp 19)⟩,
  ⟨(some 21), none, .call .strict (.func 88) [(.tmp 20)]⟩,
  ⟨(some 22), none, .un .not (.tmp 21)⟩,
  ⟨(some 23), none, .mv (.tmp 22)⟩,
  ⟨(some 24), (some (23, false)), .mv (.tmp 4)⟩,
  ⟨(some 25), (some (23, false)), .bin .gtr (.tmp 24) (.const (.int .i64 0))⟩,
  ⟨(some 26), (some (23, false)), .mv (.tmp 25)⟩,
  ⟨(some 27), (some (26, true)), .mv (.tmp 3)⟩,
  ⟨(some 28), (some (26, true)), .mv (.tmp 4)⟩,
  ⟨(some 29), (some (26, true)), .bin .sub (.tmp 28) (.const (.int .i64 1))⟩,
  ⟨(some 30), (some (26, true)), .idxA 6 none (.tmp 27) (.tmp 29)⟩,
  ⟨(some 31), (some (26, true)), .fieldA 0 (.tmp 30)⟩,
  ⟨(some 32), (some (26, true)), .load none (.tmp 31)⟩,
  ⟨(some 33), (some (26, true)), .fieldA 0 (.tmp 5)⟩,
  ⟨(some 34), (some (26, true)), .load none (.tmp 33)⟩,
  ⟨(some 35), (some (26, true)), .call .strict (.func 61) [(.tmp 32), (.tmp 34)]⟩,
  ⟨(some 36), (some (26, true)), .un .not (.tmp 35)⟩,
  ⟨(some 37), (some (23, false)), .pick (.tmp 26) (.tmp 36) (.const (.bool false))⟩,
  ⟨(some 38), none, .pick (.tmp 23) (.const (.bool true)) (.tmp 37)⟩,
  ⟨(some 39), none, .mv (.tmp 38)⟩,
  ⟨(some 40), (some (39, false)), .fieldA 1 (.tmp 5)⟩,
  ⟨(some 41), (some (39, false)), .load (some 5) (.tmp 40)⟩,
  ⟨(some 42), (some (39, false)), .call .strict (.func 48) [(.tmp 41)]⟩,
  ⟨(some 43), (some (39, false)), .un .not (.tmp 42)⟩,
  ⟨(some 44), none, .pick (.tmp 39) (.const (.bool true)) (.tmp 43)⟩]
def F92_14 : ICode := .region [
  ⟨(some 2), none, .mv (.const (.bool false))⟩]
def F92_15 : ICode := .seq F92_14 .ret
def F92_16 : ICode := .cond (.tmp 44) F92_15 .skip
def F92_17 : ICode := .keep [3, 12, 13, 14, 44] F92_16
def F92_18 : ICode := .seq F92_13 F92_17
def F92_19 : ICode := .keep [3, 4, 5, 12, 13, 14] F92_18
def F92_20 : ICode := .seq F92_12 F92_19
def F92_21 : ICode := .block 1 F92_20
def F92_22 : ICode := .region [
  ⟨(some 45), none, .bin .add (.tmp 14) (.const (.int .i64 1))⟩,
  ⟨(some 14), none, .mv (.tmp 45)⟩]
def F92_23 : ICode := .keep [3, 12, 13, 14] F92_22
def F92_24 : ICode := .seq F92_21 F92_23
def F92_25 : ICode := .keep [3, 12, 13, 14] F92_24
def F92_26 : ICode := .seq F92_11 F92_25
def F92_27 : ICode := .keep [3, 12, 13, 14, 15] F92_26
def F92_28 : ICode := .seq F92_10 F92_27
def F92_29 : ICode := .loop [3, 12, 13, 14] F92_28
def F92_30 : ICode := .block 0 F92_29
def F92_31 : ICode := .keep [3, 12, 13, 14] F92_30
def F92_32 : ICode := .seq F92_9 F92_31
def F92_33 : ICode := .region [
  ⟨(some 2), none, .mv (.const (.bool true))⟩]
def F92_34 : ICode := .seq F92_33 .ret
def F92_35 : ICode := .keep [] F92_34
def F92_36 : ICode := .seq F92_32 F92_35
def F92_37 : ICode := .keep [3] F92_36
def F92_38 : ICode := .seq F92_8 F92_37
def F92_39 : ICode := .keep [1, 3] F92_38
def F92_40 : ICode := .seq F92_2 F92_39
def F92_41 : ICode := .keep [1, 3] F92_40
def F92_42 : ICode := .seq F92_1 F92_41
def F92_43 : ICode := .keep [1] F92_42
def F92_44 : ICode := .seq F92_0 F92_43
/-- (introit/value.one).table -/
def F92 : IFunc := ⟨F92_44, [.tmp 2]⟩

def F75_0 : ICode := .region [
  ⟨(some 4), none, .mv (.const (.str []))⟩,
  ⟨(some 5), none, .mv (.const (.str []))⟩,
  ⟨(some 6), none, .mv (.const (.bool false))⟩]
def F75_1 : ICode := .region [
  ⟨(some 7), none, .mv (.tmp 0)⟩,
  ⟨(some 8), none, .mv (.tmp 1)⟩,
  ⟨(some 9), none, .call .pure (.func 93) [(.tmp 7), (.tmp 8)]⟩,
  ⟨(some 10), none, .extract (.tmp 9) 0⟩,
  ⟨(some 11), none, .extract (.tmp 9) 1⟩,
  ⟨(some 12), none, .extract (.tmp 9) 2⟩,
  ⟨(some 4), none, .mv (.tmp 10)⟩,
  ⟨(some 5), none, .mv (.tmp 11)⟩,
  ⟨(some 6), none, .mv (.tmp 12)⟩]
def F75_2 : ICode := .seq F75_1 .ret
def F75_3 : ICode := .keep [0, 1] F75_2
def F75_4 : ICode := .seq F75_0 F75_3
/-- strings.Cut -/
def F75 : IFunc := ⟨F75_4, [.tmp 4, .tmp 5, .tmp 6]⟩

def F76_0 : ICode := .region [
  ⟨(some 6), none, .boxV (.tmp 2)⟩,
  ⟨(some 8), none, .mv (.const (.bool false))⟩]
def F76_1 : ICode := .region [
  ⟨(some 10), none, .mv (.tmp 0)⟩,
  ⟨(some 11), none, .len true (.tmp 10)⟩,
  ⟨(some 12), none, .mv (.const (.int .i64 0))⟩]
def F76_2 : ICode := .region [
  ⟨(some 13), none, .bin .lss (.tmp 12) (.tmp 11)⟩]
def F76_3 : ICode := .cond (.tmp 13) .skip (.exit 0)
def F76_4 : ICode := .region [
  ⟨(some 14), none, .mv (.tmp 12)⟩,
  ⟨(some 9), none, .mv (.tmp 14)⟩]
def F76_5 : ICode := .region [
  ⟨(some 15), none, .mv (.tmp 3)⟩,
  ⟨(some 16), none, .loadV (some 0) (.tmp 6)⟩,
  ⟨(some 17), none, .mv (.tmp 0)⟩,
  ⟨(some 18), none, .mv (.tmp 9)⟩,
  ⟨(some 19), none, .idxS (.tmp 17) (.tmp 18)⟩,
  ⟨(some 20), none, .call .strict (.tmp 15) [(.tmp 16), (.tmp 19)]⟩,
  ⟨(some 21), none, .un .not (.tmp 20)⟩]
def F76_6 : ICode := .region [
  ⟨(some 8), none, .mv (.const (.bool false))⟩]
def F76_7 : ICode := .seq F76_6 .ret
def F76_8 : ICode := .cond (.tmp 21) F76_7 .skip
def F76_9 : ICode := .keep [0, 1, 3, 6, 11, 12, 21] F76_8
def F76_10 : ICode := .seq F76_5 F76_9
def F76_11 : ICode := .keep [0, 1, 3, 6, 9, 11, 12] F76_10
def F76_12 : ICode := .seq F76_4 F76_11
def F76_13 : ICode := .block 1 F76_12
def F76_14 : ICode := .region [
  ⟨(some 22), none, .bin .add (.tmp 12) (.const (.int .i64 1))⟩,
  ⟨(some 12), none, .mv (.tmp 22)⟩]
def F76_15 : ICode := .keep [0, 1, 3, 6, 11, 12] F76_14
def F76_16 : ICode := .seq F76_13 F76_15
def F76_17 : ICode := .keep [0, 1, 3, 6, 11, 12] F76_16
def F76_18 : ICode := .seq F76_3 F76_17
def F76_19 : ICode := .keep [0, 1, 3, 6, 11, 12, 13] F76_18
def F76_20 : ICode := .seq F76_2 F76_19
def F76_21 : ICode := .loop [0, 1, 3, 6, 11, 12] F76_20
def F76_22 : ICode := .block 0 F76_21
def F76_23 : ICode := .keep [0, 1, 3, 6, 11, 12] F76_22
def F76_24 : ICode := .seq F76_1 F76_23
def F76_25 : ICode := .region [
  ⟨(some 23), none, .mv (.tmp 0)⟩,
  ⟨(some 24), none, .len true (.tmp 23)⟩,
  ⟨(some 25), none, .bin .gtr (.tmp 24) (.const (.int .i64 0))⟩,
  ⟨(some 26), none, .mv (.tmp 25)⟩,
  ⟨(some 27), (some (26, true)), .mv (.tmp 0)⟩,
  ⟨(some 28), (some (26, true)), .len true (.tmp 27)⟩,
  ⟨(some 29), (some (26, true)), .mv (.tmp 1)⟩,
  ⟨(some 30), (some (26, true)), .bin .leq (.tmp 28) (.tmp 29)⟩,
  ⟨(some 31), none, .pick (.tmp 26) (.tmp 30) (.const (.bool false))⟩,
  ⟨(some 8), none, .mv (.tmp 31)⟩]
def F76_26 : ICode := .seq F76_25 .ret
def F76_27 : ICode := .keep [0, 1] F76_26
def F76_28 : ICode := .seq F76_24 F76_27
def F76_29 : ICode := .keep [0, 1, 3, 6] F76_28
def F76_30 : ICode := .seq F76_0 F76_29
/-- introit/ident.all[introit/ident.shown] -/
def F76 : IFunc := ⟨F76_30, [.tmp 8]⟩

def F77_0 : ICode := .region [
  ⟨(some 2), none, .boxV (.tmp 0)⟩,
  ⟨(some 4), none, .mv (.const (.bool false))⟩]
def F77_1 : ICode := .region [
  ⟨(some 5), none, .mv (.tmp 1)⟩,
  ⟨(some 6), none, .bin .geq (.tmp 5) (.const (.int .u8 33))⟩,
  ⟨(some 7), none, .mv (.tmp 6)⟩,
  ⟨(some 8), (some (7, true)), .mv (.tmp 1)⟩,
  ⟨(some 9), (some (7, true)), .bin .leq (.tmp 8) (.const (.int .u8 126))⟩,
  ⟨(some 10), none, .pick (.tmp 7) (.tmp 9) (.const (.bool false))⟩,
  ⟨(some 11), none, .mv (.tmp 10)⟩,
  ⟨(some 12), (some (11, true)), .mv (.tmp 1)⟩,
  ⟨(some 13), (some (11, true)), .bin .neq (.tmp 12) (.const (.int .u8 58))⟩,
  ⟨(some 14), none, .pick (.tmp 11) (.tmp 13) (.const (.bool false))⟩,
  ⟨(some 4), none, .mv (.tmp 14)⟩]
def F77_2 : ICode := .seq F77_1 .ret
def F77_3 : ICode := .keep [1] F77_2
def F77_4 : ICode := .seq F77_0 F77_3
/-- (introit/ident.shown).has -/
def F77 : IFunc := ⟨F77_4, [.tmp 4]⟩

def F78_0 : ICode := .region [
  ⟨(some 2), none, .mv (.const (.bool false))⟩]
def F78_1 : ICode := .region [
  ⟨(some 7), none, .mv (.tmp 0)⟩,
  ⟨(some 8), none, .call .pure (.func 75) [(.tmp 7), (.const (.str [58]))]⟩,
  ⟨(some 6), none, .mv (.tmp 8)⟩,
  ⟨(some 9), none, .extract (.tmp 6) 0⟩,
  ⟨(some 10), none, .extract (.tmp 6) 1⟩,
  ⟨(some 11), none, .extract (.tmp 6) 2⟩,
  ⟨(some 3), none, .mv (.tmp 9)⟩,
  ⟨(some 4), none, .mv (.tmp 10)⟩,
  ⟨(some 5), none, .mv (.tmp 11)⟩]
def F78_2 : ICode := .region [
  ⟨(some 12), none, .mv (.tmp 5)⟩,
  ⟨(some 13), none, .mv (.tmp 12)⟩,
  ⟨(some 14), (some (13, true)), .mv (.tmp 4)⟩,
  ⟨(some 15), (some (13, true)), .call .pure (.func 94) [(.tmp 14), (.const (.int .i64 5)), (.const (.str [48, 49, 50, 51, 52, 53, 54, 55, 56, 57])), (.func 95)]⟩,
  ⟨(some 16), (some (13, true)), .un .not (.tmp 15)⟩,
  ⟨(some 17), none, .pick (.tmp 13) (.tmp 16) (.const (.bool false))⟩]
def F78_3 : ICode := .region [
  ⟨(some 2), none, .mv (.const (.bool false))⟩]
def F78_4 : ICode := .seq F78_3 .ret
def F78_5 : ICode := .cond (.tmp 17) F78_4 .skip
def F78_6 : ICode := .keep [0, 3, 17] F78_5
def F78_7 : ICode := .seq F78_2 F78_6
def F78_8 : ICode := .region [
  ⟨(some 18), none, .mv (.tmp 0)⟩,
  ⟨(some 19), none, .len true (.tmp 18)⟩,
  ⟨(some 20), none, .bin .leq (.tmp 19) (.const (.int .i64 255))⟩,
  ⟨(some 21), none, .mv (.tmp 20)⟩,
  ⟨(some 22), (some (21, true)), .mv (.tmp 3)⟩,
  ⟨(some 23), (some (21, true)), .call .pure (.func 94) [(.tmp 22), (.const (.int .i64 255)), (.const (.str [97, 98, 99, 100, 101, 102, 103, 104, 105, 106, 107, 108, 109, 110, 111, 112, 113, 114, 115, 116, 117, 118, 119, 120, 121, 122, 65, 66, 67, 68, 69, 70, 71, 72, 73, 74, 75, 76, 77, 78, 79, 80, 81, 82, 83, 84, 85, 86, 87, 88, 89, 90, 48, 49, 50, 51, 52, 53, 54, 55, 56, 57, 46, 45])), (.func 95)]⟩,
  ⟨(some 24), none, .pick (.tmp 21) (.tmp 23) (.const (.bool false))⟩,
  ⟨(some 2), none, .mv (.tmp 24)⟩]
def F78_9 : ICode := .seq F78_8 .ret
def F78_10 : ICode := .keep [0, 3] F78_9
def F78_11 : ICode := .seq F78_7 F78_10
def F78_12 : ICode := .keep [0, 3, 4, 5] F78_11
def F78_13 : ICode := .seq F78_1 F78_12
def F78_14 : ICode := .keep [0] F78_13
def F78_15 : ICode := .seq F78_0 F78_14
/-- introit/ident.Server -/
def F78 : IFunc := ⟨F78_15, [.tmp 2]⟩

def F79_0 : ICode := .region [
  ⟨(some 1), none, .boxV (.tmp 0)⟩,
  ⟨(some 2), none, .mv (.const (.int .i64 0))⟩]
def F79_1 : ICode := .region [
  ⟨(some 3), none, .mv (.const (.int .i64 0))⟩]
def F79_2 : ICode := .region [
  ⟨(some 6), none, .fieldA 0 (.tmp 1)⟩,
  ⟨(some 7), none, .loadV none (.tmp 6)⟩]
def F79_3 : ICode := .region [
  ⟨(some 9), none, .bin .eql (.tmp 7) (.const (.int .i64 4))⟩,
  ⟨(some 8), none, .mv (.tmp 9)⟩]
def F79_4 : ICode := .region [
  ⟨(some 4), none, .mv (.const (.int .i64 0))⟩]
def F79_5 : ICode := .region [
  ⟨(some 10), none, .mv (.tmp 4)⟩,
  ⟨(some 11), none, .fieldA 3 (.tmp 1)⟩,
  ⟨(some 12), none, .loadV none (.tmp 11)⟩,
  ⟨(some 13), none, .len false (.tmp 12)⟩,
  ⟨(some 14), none, .bin .lss (.tmp 10) (.tmp 13)⟩]
def F79_6 : ICode := .cond (.tmp 14) .skip (.exit 1)
def F79_7 : ICode := .keep [1, 3, 4, 14] F79_6
def F79_8 : ICode := .seq F79_5 F79_7
def F79_9 : ICode := .region [
  ⟨(some 17), none, .mv (.tmp 3)⟩,
  ⟨(some 18), none, .fieldA 3 (.tmp 1)⟩,
  ⟨(some 19), none, .loadV none (.tmp 18)⟩,
  ⟨(some 20), none, .mv (.tmp 4)⟩,
  ⟨(some 21), none, .idxA 5 none (.tmp 19) (.tmp 20)⟩,
  ⟨(some 22), none, .load (some 5) (.tmp 21)⟩,
  ⟨(some 23), none, .call .pure (.func 79) [(.tmp 22)]⟩,
  ⟨(some 24), none, .max2 false (.tmp 17) (.tmp 23)⟩,
  ⟨(some 3), none, .mv (.tmp 24)⟩]
def F79_10 : ICode := .block 2 F79_9
def F79_11 : ICode := .region [
  ⟨(some 15), none, .mv (.tmp 4)⟩,
  ⟨(some 16), none, .bin .add (.tmp 15) (.const (.int .i64 1))⟩,
  ⟨(some 4), none, .mv (.tmp 16)⟩]
def F79_12 : ICode := .keep [1, 3, 4] F79_11
def F79_13 : ICode := .seq F79_10 F79_12
def F79_14 : ICode := .keep [1, 3, 4] F79_13
def F79_15 : ICode := .seq F79_8 F79_14
def F79_16 : ICode := .loop [1, 3, 4] F79_15
def F79_17 : ICode := .block 1 F79_16
def F79_18 : ICode := .keep [1, 3, 4] F79_17
def F79_19 : ICode := .seq F79_4 F79_18
def F79_20 : ICode := .region [
  ⟨(some 25), none, .mv (.tmp 3)⟩,
  ⟨(some 26), none, .bin .add (.tmp 25) (.const (.int .i64 1))⟩,
  ⟨(some 2), none, .mv (.tmp 26)⟩]
def F79_21 : ICode := .seq F79_20 .ret
def F79_22 : ICode := .keep [3] F79_21
def F79_23 : ICode := .seq F79_19 F79_22
def F79_24 : ICode := .region [
  ⟨(some 28), none, .bin .eql (.tmp 7) (.const (.int .i64 5))⟩,
  ⟨(some 27), none, .mv (.tmp 28)⟩]
def F79_25 : ICode := .region [
  ⟨(some 5), none, .mv (.const (.int .i64 0))⟩]
def F79_26 : ICode := .region [
  ⟨(some 29), none, .mv (.tmp 5)⟩,
  ⟨(some 30), none, .fieldA 4 (.tmp 1)⟩,
  ⟨(some 31), none, .loadV none (.tmp 30)⟩,
  ⟨(some 32), none, .len false (.tmp 31)⟩,
  ⟨(some 33), none, .bin .lss (.tmp 29) (.tmp 32)⟩]
def F79_27 : ICode := .cond (.tmp 33) .skip (.exit 3)
def F79_28 : ICode := .keep [1, 3, 5, 33] F79_27
def F79_29 : ICode := .seq F79_26 F79_28
def F79_30 : ICode := .region [
  ⟨(some 36), none, .mv (.tmp 3)⟩,
  ⟨(some 37), none, .fieldA 4 (.tmp 1)⟩,
  ⟨(some 38), none, .loadV none (.tmp 37)⟩,
  ⟨(some 39), none, .mv (.tmp 5)⟩,
  ⟨(some 40), none, .idxA 6 none (.tmp 38) (.tmp 39)⟩,
  ⟨(some 41), none, .fieldA 1 (.tmp 40)⟩,
  ⟨(some 42), none, .load (some 5) (.tmp 41)⟩,
  ⟨(some 43), none, .call .pure (.func 79) [(.tmp 42)]⟩,
  ⟨(some 44), none, .max2 false (.tmp 36) (.tmp 43)⟩,
  ⟨(some 3), none, .mv (.tmp 44)⟩]
def F79_31 : ICode := .block 4 F79_30
def F79_32 : ICode := .region [
  ⟨(some 34), none, .mv (.tmp 5)⟩,
  ⟨(some 35), none, .bin .add (.tmp 34) (.const (.int .i64 1))⟩,
  ⟨(some 5), none, .mv (.tmp 35)⟩]
def F79_33 : ICode := .keep [1, 3, 5] F79_32
def F79_34 : ICode := .seq F79_31 F79_33
def F79_35 : ICode := .keep [1, 3, 5] F79_34
def F79_36 : ICode := .seq F79_29 F79_35
def F79_37 : ICode := .loop [1, 3, 5] F79_36
def F79_38 : ICode := .block 3 F79_37
def F79_39 : ICode := .keep [1, 3, 5] F79_38
def F79_40 : ICode := .seq F79_25 F79_39
def F79_41 : ICode := .region [
  ⟨(some 45), none, .mv (.tmp 3)⟩,
  ⟨(some 46), none, .bin .add (.tmp 45) (.const (.int .i64 1))⟩,
  ⟨(some 2), none, .mv (.tmp 46)⟩]
def F79_42 : ICode := .seq F79_41 .ret
def F79_43 : ICode := .keep [3] F79_42
def F79_44 : ICode := .seq F79_40 F79_43
def F79_45 : ICode := .cond (.tmp 27) F79_44 .skip
def F79_46 : ICode := .keep [1, 3, 27] F79_45
def F79_47 : ICode := .seq F79_24 F79_46
def F79_48 : ICode := .cond (.tmp 8) F79_23 F79_47
def F79_49 : ICode := .keep [1, 3, 7, 8] F79_48
def F79_50 : ICode := .seq F79_3 F79_49
def F79_51 : ICode := .block 0 F79_50
def F79_52 : ICode := .keep [1, 3, 7] F79_51
def F79_53 : ICode := .seq F79_2 F79_52
def F79_54 : ICode := .region [
  ⟨(some 2), none, .mv (.const (.int .i64 0))⟩]
def F79_55 : ICode := .seq F79_54 .ret
def F79_56 : ICode := .keep [] F79_55
def F79_57 : ICode := .seq F79_53 F79_56
def F79_58 : ICode := .keep [1, 3] F79_57
def F79_59 : ICode := .seq F79_1 F79_58
def F79_60 : ICode := .keep [1] F79_59
def F79_61 : ICode := .seq F79_0 F79_60
/-- introit/introitref1.Depth -/
def F79 : IFunc := ⟨F79_61, [.tmp 2]⟩

def F80_0 : ICode := .region [
  ⟨(some 1), none, .boxV (.tmp 0)⟩,
  ⟨(some 2), none, .mv (.const (.bool false))⟩]
def F80_1 : ICode := .region [
  ⟨(some 5), none, .fieldA 0 (.tmp 1)⟩,
  ⟨(some 6), none, .loadV none (.tmp 5)⟩]
def F80_2 : ICode := .region [
  ⟨(some 8), none, .bin .eql (.tmp 6) (.const (.int .i64 0))⟩,
  ⟨(some 7), none, .mv (.tmp 8)⟩]
def F80_3 : ICode := .region [
  ⟨(some 9), none, .fieldA 1 (.tmp 1)⟩,
  ⟨(some 10), none, .loadV none (.tmp 9)⟩,
  ⟨(some 11), none, .bin .eql (.tmp 10) (.const (.int .i64 0))⟩,
  ⟨(some 12), none, .mv (.tmp 11)⟩,
  ⟨(some 13), (some (12, true)), .fieldA 2 (.tmp 1)⟩,
  ⟨(some 14), (some (12, true)), .loadV none (.tmp 13)⟩,
  ⟨(some 15), (some (12, true)), .bin .eql (.tmp 14) (.const (.str []))⟩,
  ⟨(some 16), none, .pick (.tmp 12) (.tmp 15) (.const (.bool false))⟩,
  ⟨(some 17), none, .mv (.tmp 16)⟩,
  ⟨(some 18), (some (17, true)), .fieldA 3 (.tmp 1)⟩,
  ⟨(some 19), (some (17, true)), .loadV none (.tmp 18)⟩,
  ⟨(some 20), (some (17, true)), .len false (.tmp 19)⟩,
  ⟨(some 21), (some (17, true)), .bin .eql (.tmp 20) (.const (.int .i64 0))⟩,
  ⟨(some 22), none, .pick (.tmp 17) (.tmp 21) (.const (.bool false))⟩,
  ⟨(some 23), none, .mv (.tmp 22)⟩,
  ⟨(some 24), (some (23, true)), .fieldA 4 (.tmp 1)⟩,
  ⟨(some 25), (some (23, true)), .loadV none (.tmp 24)⟩,
  ⟨(some 26), (some (23, true)), .len false (.tmp 25)⟩,
  ⟨(some 27), (some (23, true)), .bin .eql (.tmp 26) (.const (.int .i64 0))⟩,
  ⟨(some 28), none, .pick (.tmp 23) (.tmp 27) (.const (.bool false))⟩,
  ⟨(some 2), none, .mv (.tmp 28)⟩]
def F80_4 : ICode := .seq F80_3 .ret
def F80_5 : ICode := .region [
  ⟨(some 30), none, .bin .eql (.tmp 6) (.const (.int .i64 1))⟩,
  ⟨(some 29), none, .mv (.tmp 30)⟩]
def F80_6 : ICode := .region [
  ⟨(some 31), none, .fieldA 1 (.tmp 1)⟩,
  ⟨(some 32), none, .loadV none (.tmp 31)⟩,
  ⟨(some 33), none, .bin .eql (.tmp 32) (.const (.int .i64 0))⟩,
  ⟨(some 34), none, .mv (.tmp 33)⟩,
  ⟨(some 35), (some (34, false)), .fieldA 1 (.tmp 1)⟩,
  ⟨(some 36), (some (34, false)), .loadV none (.tmp 35)⟩,
  ⟨(some 37), (some (34, false)), .bin .eql (.tmp 36) (.const (.int .i64 1))⟩,
  ⟨(some 38), none, .pick (.tmp 34) (.const (.bool true)) (.tmp 37)⟩,
  ⟨(some 39), none, .mv (.tmp 38)⟩,
  ⟨(some 40), (some (39, true)), .fieldA 2 (.tmp 1)⟩,
  ⟨(some 41), (some (39, true)), .loadV none (.tmp 40)⟩,
  ⟨(some 42), (some (39, true)), .bin .eql (.tmp 41) (.const (.str []))⟩,
  ⟨(some 43), none, .pick (.tmp 39) (.tmp 42) (.const (.bool false))⟩,
  ⟨(some 44), none, .mv (.tmp 43)⟩,
  ⟨(some 45), (some (44, true)), .fieldA 3 (.tmp 1)⟩,
  ⟨(some 46), (some (44, true)), .loadV none (.tmp 45)⟩,
  ⟨(some 47), (some (44, true)), .len false (.tmp 46)⟩,
  ⟨(some 48), (some (44, true)), .bin .eql (.tmp 47) (.const (.int .i64 0))⟩,
  ⟨(some 49), none, .pick (.tmp 44) (.tmp 48) (.const (.bool false))⟩,
  ⟨(some 50), none, .mv (.tmp 49)⟩,
  ⟨(some 51), (some (50, true)), .fieldA 4 (.tmp 1)⟩,
  ⟨(some 52), (some (50, true)), .loadV none (.tmp 51)⟩,
  ⟨(some 53), (some (50, true)), .len false (.tmp 52)⟩,
  ⟨(some 54), (some (50, true)), .bin .eql (.tmp 53) (.const (.int .i64 0))⟩,
  ⟨(some 55), none, .pick (.tmp 50) (.tmp 54) (.const (.bool false))⟩,
  ⟨(some 2), none, .mv (.tmp 55)⟩]
def F80_7 : ICode := .seq F80_6 .ret
def F80_8 : ICode := .region [
  ⟨(some 57), none, .bin .eql (.tmp 6) (.const (.int .i64 2))⟩,
  ⟨(some 56), none, .mv (.tmp 57)⟩]
def F80_9 : ICode := .region [
  ⟨(some 58), none, .fieldA 1 (.tmp 1)⟩,
  ⟨(some 59), none, .loadV none (.tmp 58)⟩,
  ⟨(some 60), none, .bin .geq (.tmp 59) (.const (.int .i64 (-9007199254740991)))⟩,
  ⟨(some 61), none, .mv (.tmp 60)⟩,
  ⟨(some 62), (some (61, true)), .fieldA 1 (.tmp 1)⟩,
  ⟨(some 63), (some (61, true)), .loadV none (.tmp 62)⟩,
  ⟨(some 64), (some (61, true)), .bin .leq (.tmp 63) (.const (.int .i64 9007199254740991))⟩,
  ⟨(some 65), none, .pick (.tmp 61) (.tmp 64) (.const (.bool false))⟩,
  ⟨(some 66), none, .mv (.tmp 65)⟩,
  ⟨(some 67), (some (66, true)), .fieldA 2 (.tmp 1)⟩,
  ⟨(some 68), (some (66, true)), .loadV none (.tmp 67)⟩,
  ⟨(some 69), (some (66, true)), .bin .eql (.tmp 68) (.const (.str []))⟩,
  ⟨(some 70), none, .pick (.tmp 66) (.tmp 69) (.const (.bool false))⟩,
  ⟨(some 71), none, .mv (.tmp 70)⟩,
  ⟨(some 72), (some (71, true)), .fieldA 3 (.tmp 1)⟩,
  ⟨(some 73), (some (71, true)), .loadV none (.tmp 72)⟩,
  ⟨(some 74), (some (71, true)), .len false (.tmp 73)⟩,
  ⟨(some 75), (some (71, true)), .bin .eql (.tmp 74) (.const (.int .i64 0))⟩,
  ⟨(some 76), none, .pick (.tmp 71) (.tmp 75) (.const (.bool false))⟩,
  ⟨(some 77), none, .mv (.tmp 76)⟩,
  ⟨(some 78), (some (77, true)), .fieldA 4 (.tmp 1)⟩,
  ⟨(some 79), (some (77, true)), .loadV none (.tmp 78)⟩,
  ⟨(some 80), (some (77, true)), .len false (.tmp 79)⟩,
  ⟨(some 81), (some (77, true)), .bin .eql (.tmp 80) (.const (.int .i64 0))⟩,
  ⟨(some 82), none, .pick (.tmp 77) (.tmp 81) (.const (.bool false))⟩,
  ⟨(some 2), none, .mv (.tmp 82)⟩]
def F80_10 : ICode := .seq F80_9 .ret
def F80_11 : ICode := .region [
  ⟨(some 84), none, .bin .eql (.tmp 6) (.const (.int .i64 3))⟩,
  ⟨(some 83), none, .mv (.tmp 84)⟩]
def F80_12 : ICode := .region [
  ⟨(some 85), none, .fieldA 1 (.tmp 1)⟩,
  ⟨(some 86), none, .loadV none (.tmp 85)⟩,
  ⟨(some 87), none, .bin .eql (.tmp 86) (.const (.int .i64 0))⟩,
  ⟨(some 88), none, .mv (.tmp 87)⟩,
  ⟨(some 89), (some (88, true)), .fieldA 2 (.tmp 1)⟩,
  ⟨(some 90), (some (88, true)), .loadV none (.tmp 89)⟩,
  ⟨(some 91), (some (88, true)), .call .pure (.func 96) [(.tmp 90)]⟩,
  ⟨(some 92), none, .pick (.tmp 88) (.tmp 91) (.const (.bool false))⟩,
  ⟨(some 93), none, .mv (.tmp 92)⟩,
  ⟨(some 94), (some (93, true)), .fieldA 3 (.tmp 1)⟩,
  ⟨(some 95), (some (93, true)), .loadV none (.tmp 94)⟩,
  ⟨(some 96), (some (93, true)), .len false (.tmp 95)⟩,
  ⟨(some 97), (some (93, true)), .bin .eql (.tmp 96) (.const (.int .i64 0))⟩,
  ⟨(some 98), none, .pick (.tmp 93) (.tmp 97) (.const (.bool false))⟩,
  ⟨(some 99), none, .mv (.tmp 98)⟩,
  ⟨(some 100), (some (99, true)), .fieldA 4 (.tmp 1)⟩,
  ⟨(some 101), (some (99, true)), .loadV none (.tmp 100)⟩,
  ⟨(some 102), (some (99, true)), .len false (.tmp 101)⟩,
  ⟨(some 103), (some (99, true)), .bin .eql (.tmp 102) (.const (.int .i64 0))⟩,
  ⟨(some 104), none, .pick (.tmp 99) (.tmp 103) (.const (.bool false))⟩,
  ⟨(some 2), none, .mv (.tmp 104)⟩]
def F80_13 : ICode := .seq F80_12 .ret
def F80_14 : ICode := .region [
  ⟨(some 106), none, .bin .eql (.tmp 6) (.const (.int .i64 4))⟩,
  ⟨(some 105), none, .mv (.tmp 106)⟩]
def F80_15 : ICode := .region [
  ⟨(some 3), none, .mv (.const (.int .i64 0))⟩]
def F80_16 : ICode := .region [
  ⟨(some 107), none, .mv (.tmp 3)⟩,
  ⟨(some 108), none, .fieldA 3 (.tmp 1)⟩,
  ⟨(some 109), none, .loadV none (.tmp 108)⟩,
  ⟨(some 110), none, .len false (.tmp 109)⟩,
  ⟨(some 111), none, .bin .lss (.tmp 107) (.tmp 110)⟩]
def F80_17 : ICode := .cond (.tmp 111) .skip (.exit 1)
def F80_18 : ICode := .keep [1, 3, 111] F80_17
def F80_19 : ICode := .seq F80_16 F80_18
def F80_20 : ICode := .region [
  ⟨(some 114), none, .fieldA 3 (.tmp 1)⟩,
  ⟨(some 115), none, .loadV none (.tmp 114)⟩,
  ⟨(some 116), none, .mv (.tmp 3)⟩,
  ⟨(some 117), none, .idxA 5 none (.tmp 115) (.tmp 116)⟩,
  ⟨(some 118), none, .load (some 5) (.tmp 117)⟩,
  ⟨(some 119), none, .call .pure (.func 80) [(.tmp 118)]⟩,
  ⟨(some 120), none, .un .not (.tmp 119)⟩]
def F80_21 : ICode := .region [
  ⟨(some 2), none, .mv (.const (.bool false))⟩]
def F80_22 : ICode := .seq F80_21 .ret
def F80_23 : ICode := .cond (.tmp 120) F80_22 .skip
def F80_24 : ICode := .keep [1, 3, 120] F80_23
def F80_25 : ICode := .seq F80_20 F80_24
def F80_26 : ICode := .block 2 F80_25
def F80_27 : ICode := .region [
  ⟨(some 112), none, .mv (.tmp 3)⟩,
  ⟨(some 113), none, .bin .add (.tmp 112) (.const (.int .i64 1))⟩,
  ⟨(some 3), none, .mv (.tmp 113)⟩]
def F80_28 : ICode := .keep [1, 3] F80_27
def F80_29 : ICode := .seq F80_26 F80_28
def F80_30 : ICode := .keep [1, 3] F80_29
def F80_31 : ICode := .seq F80_19 F80_30
def F80_32 : ICode := .loop [1, 3] F80_31
def F80_33 : ICode := .block 1 F80_32
def F80_34 : ICode := .keep [1, 3] F80_33
def F80_35 : ICode := .seq F80_15 F80_34
def F80_36 : ICode := .region [
  ⟨(some 121), none, .fieldA 1 (.tmp 1)⟩,
  ⟨(some 122), none, .loadV none (.tmp 121)⟩,
  ⟨(some 123), none, .bin .eql (.tmp 122) (.const (.int .i64 0))⟩,
  ⟨(some 124), none, .mv (.tmp 123)⟩,
  ⟨(some 125), (some (124, true)), .fieldA 2 (.tmp 1)⟩,
  ⟨(some 126), (some (124, true)), .loadV none (.tmp 125)⟩,
  ⟨(some 127), (some (124, true)), .bin .eql (.tmp 126) (.const (.str []))⟩,
  ⟨(some 128), none, .pick (.tmp 124) (.tmp 127) (.const (.bool false))⟩,
  ⟨(some 129), none, .mv (.tmp 128)⟩,
  ⟨(some 130), (some (129, true)), .fieldA 4 (.tmp 1)⟩,
  ⟨(some 131), (some (129, true)), .loadV none (.tmp 130)⟩,
  ⟨(some 132), (some (129, true)), .len false (.tmp 131)⟩,
  ⟨(some 133), (some (129, true)), .bin .eql (.tmp 132) (.const (.int .i64 0))⟩,
  ⟨(some 134), none, .pick (.tmp 129) (.tmp 133) (.const (.bool false))⟩,
  ⟨(some 2), none, .mv (.tmp 134)⟩]
def F80_37 : ICode := .seq F80_36 .ret
def F80_38 : ICode := .keep [1] F80_37
def F80_39 : ICode := .seq F80_35 F80_38
def F80_40 : ICode := .region [
  ⟨(some 136), none, .bin .eql (.tmp 6) (.const (.int .i64 5))⟩,
  ⟨(some 135), none, .mv (.tmp 136)⟩]
def F80_41 : ICode := .region [
  ⟨(some 4), none, .mv (.const (.int .i64 0))⟩]
def F80_42 : ICode := .region [
  ⟨(some 137), none, .mv (.tmp 4)⟩,
  ⟨(some 138), none, .fieldA 4 (.tmp 1)⟩,
  ⟨(some 139), none, .loadV none (.tmp 138)⟩,
  ⟨(some 140), none, .len false (.tmp 139)⟩,
  ⟨(some 141), none, .bin .lss (.tmp 137) (.tmp 140)⟩]
def F80_43 : ICode := .cond (.tmp 141) .skip (.exit 3)
def F80_44 : ICode := .keep [1, 4, 141] F80_43
def F80_45 : ICode := .seq F80_42 F80_44
def F80_46 : ICode := .region [
  ⟨(some 144), none, .fieldA 4 (.tmp 1)⟩,
  ⟨(some 145), none, .loadV none (.tmp 144)⟩,
  ⟨(some 146), none, .mv (.tmp 4)⟩,
  ⟨(some 147), none, .idxA 6 none (.tmp 145) (.tmp 146)⟩,
  ⟨(some 148), none, .fieldA 0 (.tmp 147)⟩,
  ⟨(some 149), none, .load none (.tmp 148)⟩,
  ⟨(some 150), none, .call .strict (.func 96) [(.tmp 149)]⟩,
  ⟨(some 151), none, .un .not (.tmp 150)⟩,
  ⟨(some 152), none, .mv (.tmp 151)⟩,
  ⟨(some 153), (some (152, false)), .mv (.tmp 4)⟩,
  ⟨(some 154), (some (152, false)), .bin .gtr (.tmp 153) (.const (.int .i64 0))⟩,
  ⟨(some 155), (some (152, false)), .mv (.tmp 154)⟩,
  ⟨(some 156), (some (155, true)), .fieldA 4 (.tmp 1)⟩,
  ⟨(some 157), (some (155, true)), .loadV none (.tmp 156)⟩,
  ⟨(some 158), (some (155, true)), .mv (.tmp 4)⟩,
  ⟨(some 159), (some (155, true)), .idxA 6 none (.tmp 157) (.tmp 158)⟩,
  ⟨(some 160), (some (155, true)), .fieldA 0 (.tmp 159)⟩,
  ⟨(some 161), (some (155, true)), .load none (.tmp 160)⟩,
  ⟨(some 162), (some (155, true)), .fieldA 4 (.tmp 1)⟩,
  ⟨(some 163), (some (155, true)), .loadV none (.tmp 162)⟩,
  ⟨(some 164), (some (155, true)), .mv (.tmp 4)⟩,
  ⟨(some 165), (some (155, true)), .bin .sub (.tmp 164) (.const (.int .i64 1))⟩,
  ⟨(some 166), (some (155, true)), .idxA 6 none (.tmp 163) (.tmp 165)⟩,
  ⟨(some 167), (some (155, true)), .fieldA 0 (.tmp 166)⟩,
  ⟨(some 168), (some (155, true)), .load none (.tmp 167)⟩,
  ⟨(some 169), (some (155, true)), .bin .leq (.tmp 161) (.tmp 168)⟩,
  ⟨(some 170), (some (152, false)), .pick (.tmp 155) (.tmp 169) (.const (.bool false))⟩,
  ⟨(some 171), none, .pick (.tmp 152) (.const (.bool true)) (.tmp 170)⟩,
  ⟨(some 172), none, .mv (.tmp 171)⟩,
  ⟨(some 173), (some (172, false)), .fieldA 4 (.tmp 1)⟩,
  ⟨(some 174), (some (172, false)), .loadV none (.tmp 173)⟩,
  ⟨(some 175), (some (172, false)), .mv (.tmp 4)⟩,
  ⟨(some 176), (some (172, false)), .idxA 6 none (.tmp 174) (.tmp 175)⟩,
  ⟨(some 177), (some (172, false)), .fieldA 1 (.tmp 176)⟩,
  ⟨(some 178), (some (172, false)), .load (some 5) (.tmp 177)⟩,
  ⟨(some 179), (some (172, false)), .call .strict (.func 80) [(.tmp 178)]⟩,
  ⟨(some 180), (some (172, false)), .un .not (.tmp 179)⟩,
  ⟨(some 181), none, .pick (.tmp 172) (.const (.bool true)) (.tmp 180)⟩]
def F80_47 : ICode := .region [
  ⟨(some 2), none, .mv (.const (.bool false))⟩]
def F80_48 : ICode := .seq F80_47 .ret
def F80_49 : ICode := .cond (.tmp 181) F80_48 .skip
def F80_50 : ICode := .keep [1, 4, 181] F80_49
def F80_51 : ICode := .seq F80_46 F80_50
def F80_52 : ICode := .block 4 F80_51
def F80_53 : ICode := .region [
  ⟨(some 142), none, .mv (.tmp 4)⟩,
  ⟨(some 143), none, .bin .add (.tmp 142) (.const (.int .i64 1))⟩,
  ⟨(some 4), none, .mv (.tmp 143)⟩]
def F80_54 : ICode := .keep [1, 4] F80_53
def F80_55 : ICode := .seq F80_52 F80_54
def F80_56 : ICode := .keep [1, 4] F80_55
def F80_57 : ICode := .seq F80_45 F80_56
def F80_58 : ICode := .loop [1, 4] F80_57
def F80_59 : ICode := .block 3 F80_58
def F80_60 : ICode := .keep [1, 4] F80_59
def F80_61 : ICode := .seq F80_41 F80_60
def F80_62 : ICode := .region [
  ⟨(some 182), none, .fieldA 1 (.tmp 1)⟩,
  ⟨(some 183), none, .loadV none (.tmp 182)⟩,
  ⟨(some 184), none, .bin .eql (.tmp 183) (.const (.int .i64 0))⟩,
  ⟨(some 185), none, .mv (.tmp 184)⟩,
  ⟨(some 186), (some (185, true)), .fieldA 2 (.tmp 1)⟩,
  ⟨(some 187), (some (185, true)), .loadV none (.tmp 186)⟩,
  ⟨(some 188), (some (185, true)), .bin .eql (.tmp 187) (.const (.str []))⟩,
  ⟨(some 189), none, .pick (.tmp 185) (.tmp 188) (.const (.bool false))⟩,
  ⟨(some 190), none, .mv (.tmp 189)⟩,
  ⟨(some 191), (some (190, true)), .fieldA 3 (.tmp 1)⟩,
  ⟨(some 192), (some (190, true)), .loadV none (.tmp 191)⟩,
  ⟨(some 193), (some (190, true)), .len false (.tmp 192)⟩,
  ⟨(some 194), (some (190, true)), .bin .eql (.tmp 193) (.const (.int .i64 0))⟩,
  ⟨(some 195), none, .pick (.tmp 190) (.tmp 194) (.const (.bool false))⟩,
  ⟨(some 2), none, .mv (.tmp 195)⟩]
def F80_63 : ICode := .seq F80_62 .ret
def F80_64 : ICode := .keep [1] F80_63
def F80_65 : ICode := .seq F80_61 F80_64
def F80_66 : ICode := .cond (.tmp 135) F80_65 .skip
def F80_67 : ICode := .keep [1, 135] F80_66
def F80_68 : ICode := .seq F80_40 F80_67
def F80_69 : ICode := .cond (.tmp 105) F80_39 F80_68
def F80_70 : ICode := .keep [1, 6, 105] F80_69
def F80_71 : ICode := .seq F80_14 F80_70
def F80_72 : ICode := .cond (.tmp 83) F80_13 F80_71
def F80_73 : ICode := .keep [1, 6, 83] F80_72
def F80_74 : ICode := .seq F80_11 F80_73
def F80_75 : ICode := .cond (.tmp 56) F80_10 F80_74
def F80_76 : ICode := .keep [1, 6, 56] F80_75
def F80_77 : ICode := .seq F80_8 F80_76
def F80_78 : ICode := .cond (.tmp 29) F80_7 F80_77
def F80_79 : ICode := .keep [1, 6, 29] F80_78
def F80_80 : ICode := .seq F80_5 F80_79
def F80_81 : ICode := .cond (.tmp 7) F80_4 F80_80
def F80_82 : ICode := .keep [1, 6, 7] F80_81
def F80_83 : ICode := .seq F80_2 F80_82
def F80_84 : ICode := .block 0 F80_83
def F80_85 : ICode := .keep [1, 6] F80_84
def F80_86 : ICode := .seq F80_1 F80_85
def F80_87 : ICode := .region [
  ⟨(some 2), none, .mv (.const (.bool false))⟩]
def F80_88 : ICode := .seq F80_87 .ret
def F80_89 : ICode := .keep [] F80_88
def F80_90 : ICode := .seq F80_86 F80_89
def F80_91 : ICode := .keep [1] F80_90
def F80_92 : ICode := .seq F80_0 F80_91
/-- introit/introitref1.may -/
def F80 : IFunc := ⟨F80_92, [.tmp 2]⟩

def F81_0 : ICode := .region [
  ⟨(some 4), none, .mv (.const (.str []))⟩,
  ⟨(some 5), none, .mv (.const (.str []))⟩,
  ⟨(some 6), none, .mv (.const (.bool false))⟩]
def F81_1 : ICode := .region [
  ⟨(some 8), none, .mv (.tmp 0)⟩,
  ⟨(some 9), none, .len true (.tmp 8)⟩,
  ⟨(some 10), none, .bin .eql (.tmp 9) (.const (.int .i64 0))⟩,
  ⟨(some 11), none, .mv (.tmp 10)⟩,
  ⟨(some 12), (some (11, false)), .mv (.tmp 0)⟩,
  ⟨(some 13), (some (11, false)), .idxS (.tmp 12) (.const (.int .i64 0))⟩,
  ⟨(some 14), (some (11, false)), .mv (.tmp 1)⟩,
  ⟨(some 15), (some (11, false)), .bin .neq (.tmp 13) (.tmp 14)⟩,
  ⟨(some 16), none, .pick (.tmp 11) (.const (.bool true)) (.tmp 15)⟩,
  ⟨(some 17), none, .mv (.tmp 16)⟩,
  ⟨(some 18), (some (17, false)), .mv (.tmp 0)⟩,
  ⟨(some 19), (some (17, false)), .len true (.tmp 18)⟩,
  ⟨(some 20), (some (17, false)), .bin .gtr (.tmp 19) (.const (.int .i64 255))⟩,
  ⟨(some 21), none, .pick (.tmp 17) (.const (.bool true)) (.tmp 20)⟩]
def F81_2 : ICode := .region [
  ⟨(some 4), none, .mv (.const (.str []))⟩,
  ⟨(some 5), none, .mv (.const (.str []))⟩,
  ⟨(some 6), none, .mv (.const (.bool false))⟩]
def F81_3 : ICode := .seq F81_2 .ret
def F81_4 : ICode := .cond (.tmp 21) F81_3 .skip
def F81_5 : ICode := .keep [0, 21] F81_4
def F81_6 : ICode := .seq F81_1 F81_5
def F81_7 : ICode := .region [
  ⟨(some 7), none, .mv (.const (.int .i64 1))⟩]
def F81_8 : ICode := .region [
  ⟨(some 22), none, .mv (.tmp 7)⟩,
  ⟨(some 23), none, .mv (.tmp 0)⟩,
  ⟨(some 24), none, .len true (.tmp 23)⟩,
  ⟨(some 25), none, .bin .lss (.tmp 22) (.tmp 24)⟩]
def F81_9 : ICode := .cond (.tmp 25) .skip (.exit 0)
def F81_10 : ICode := .keep [0, 7, 25] F81_9
def F81_11 : ICode := .seq F81_8 F81_10
def F81_12 : ICode := .region [
  ⟨(some 28), none, .mv (.tmp 0)⟩,
  ⟨(some 29), none, .mv (.tmp 7)⟩,
  ⟨(some 30), none, .idxS (.tmp 28) (.tmp 29)⟩,
  ⟨(some 31), none, .bin .eql (.tmp 30) (.const (.int .u8 58))⟩]
def F81_13 : ICode := .region [
  ⟨(some 32), none, .mv (.tmp 7)⟩,
  ⟨(some 33), none, .bin .eql (.tmp 32) (.const (.int .i64 1))⟩,
  ⟨(some 34), none, .mv (.tmp 33)⟩,
  ⟨(some 35), (some (34, false)), .mv (.tmp 0)⟩,
  ⟨(some 36), (some (34, false)), .mv (.tmp 7)⟩,
  ⟨(some 37), (some (34, false)), .bin .add (.tmp 36) (.const (.int .i64 1))⟩,
  ⟨(some 38), (some (34, false)), .sliceS (.tmp 35) (some (.tmp 37)) none⟩,
  ⟨(some 39), (some (34, false)), .call .pure (.func 97) [(.tmp 38)]⟩,
  ⟨(some 40), (some (34, false)), .un .not (.tmp 39)⟩,
  ⟨(some 41), none, .pick (.tmp 34) (.const (.bool true)) (.tmp 40)⟩]
def F81_14 : ICode := .region [
  ⟨(some 4), none, .mv (.const (.str []))⟩,
  ⟨(some 5), none, .mv (.const (.str []))⟩,
  ⟨(some 6), none, .mv (.const (.bool false))⟩]
def F81_15 : ICode := .seq F81_14 .ret
def F81_16 : ICode := .cond (.tmp 41) F81_15 .skip
def F81_17 : ICode := .keep [0, 7, 41] F81_16
def F81_18 : ICode := .seq F81_13 F81_17
def F81_19 : ICode := .region [
  ⟨(some 42), none, .mv (.tmp 0)⟩,
  ⟨(some 43), none, .mv (.tmp 7)⟩,
  ⟨(some 44), none, .sliceS (.tmp 42) (some (.const (.int .i64 1))) (some (.tmp 43))⟩,
  ⟨(some 45), none, .mv (.tmp 0)⟩,
  ⟨(some 46), none, .mv (.tmp 7)⟩,
  ⟨(some 47), none, .bin .add (.tmp 46) (.const (.int .i64 1))⟩,
  ⟨(some 48), none, .sliceS (.tmp 45) (some (.tmp 47)) none⟩,
  ⟨(some 4), none, .mv (.tmp 44)⟩,
  ⟨(some 5), none, .mv (.tmp 48)⟩,
  ⟨(some 6), none, .mv (.const (.bool true))⟩]
def F81_20 : ICode := .seq F81_19 .ret
def F81_21 : ICode := .keep [0, 7] F81_20
def F81_22 : ICode := .seq F81_18 F81_21
def F81_23 : ICode := .cond (.tmp 31) F81_22 .skip
def F81_24 : ICode := .keep [0, 7, 31] F81_23
def F81_25 : ICode := .seq F81_12 F81_24
def F81_26 : ICode := .region [
  ⟨(some 49), none, .mv (.tmp 0)⟩,
  ⟨(some 50), none, .mv (.tmp 7)⟩,
  ⟨(some 51), none, .idxS (.tmp 49) (.tmp 50)⟩,
  ⟨(some 52), none, .bin .lss (.tmp 51) (.const (.int .u8 33))⟩,
  ⟨(some 53), none, .mv (.tmp 52)⟩,
  ⟨(some 54), (some (53, false)), .mv (.tmp 0)⟩,
  ⟨(some 55), (some (53, false)), .mv (.tmp 7)⟩,
  ⟨(some 56), (some (53, false)), .idxS (.tmp 54) (.tmp 55)⟩,
  ⟨(some 57), (some (53, false)), .bin .gtr (.tmp 56) (.const (.int .u8 126))⟩,
  ⟨(some 58), none, .pick (.tmp 53) (.const (.bool true)) (.tmp 57)⟩]
def F81_27 : ICode := .region [
  ⟨(some 4), none, .mv (.const (.str []))⟩,
  ⟨(some 5), none, .mv (.const (.str []))⟩,
  ⟨(some 6), none, .mv (.const (.bool false))⟩]
def F81_28 : ICode := .seq F81_27 .ret
def F81_29 : ICode := .cond (.tmp 58) F81_28 .skip
def F81_30 : ICode := .keep [0, 7, 58] F81_29
def F81_31 : ICode := .seq F81_26 F81_30
def F81_32 : ICode := .keep [0, 7] F81_31
def F81_33 : ICode := .seq F81_25 F81_32
def F81_34 : ICode := .block 1 F81_33
def F81_35 : ICode := .region [
  ⟨(some 26), none, .mv (.tmp 7)⟩,
  ⟨(some 27), none, .bin .add (.tmp 26) (.const (.int .i64 1))⟩,
  ⟨(some 7), none, .mv (.tmp 27)⟩]
def F81_36 : ICode := .keep [0, 7] F81_35
def F81_37 : ICode := .seq F81_34 F81_36
def F81_38 : ICode := .keep [0, 7] F81_37
def F81_39 : ICode := .seq F81_11 F81_38
def F81_40 : ICode := .loop [0, 7] F81_39
def F81_41 : ICode := .block 0 F81_40
def F81_42 : ICode := .keep [0, 7] F81_41
def F81_43 : ICode := .seq F81_7 F81_42
def F81_44 : ICode := .region [
  ⟨(some 4), none, .mv (.const (.str []))⟩,
  ⟨(some 5), none, .mv (.const (.str []))⟩,
  ⟨(some 6), none, .mv (.const (.bool false))⟩]
def F81_45 : ICode := .seq F81_44 .ret
def F81_46 : ICode := .keep [] F81_45
def F81_47 : ICode := .seq F81_43 F81_46
def F81_48 : ICode := .keep [0] F81_47
def F81_49 : ICode := .seq F81_6 F81_48
def F81_50 : ICode := .keep [0, 1] F81_49
def F81_51 : ICode := .seq F81_0 F81_50
/-- introit/introitref1.parted -/
def F81 : IFunc := ⟨F81_51, [.tmp 4, .tmp 5, .tmp 6]⟩

def F82_0 : ICode := .region [
  ⟨(some 12), none, .mv (.tmp 2)⟩,
  ⟨(some 13), none, .mv (.tmp 1)⟩,
  ⟨(some 14), none, .bin .sub (.tmp 12) (.tmp 13)⟩,
  ⟨(some 10), none, .mv (.tmp 14)⟩]
def F82_1 : ICode := .region [
  ⟨(some 15), none, .mv (.tmp 3)⟩,
  ⟨(some 16), none, .mv (.tmp 2)⟩,
  ⟨(some 17), none, .bin .sub (.tmp 15) (.tmp 16)⟩,
  ⟨(some 11), none, .mv (.tmp 17)⟩]
def F82_2 : ICode := .region [
  ⟨(some 18), none, .mv (.tmp 10)⟩,
  ⟨(some 19), none, .mv (.tmp 11)⟩,
  ⟨(some 20), none, .bin .neq (.tmp 18) (.tmp 19)⟩]
def F82_3 : ICode := .cond (.tmp 20) .skip (.exit 0)
def F82_4 : ICode := .keep [0, 2, 4, 10, 11, 20] F82_3
def F82_5 : ICode := .seq F82_2 F82_4
def F82_6 : ICode := .region [
  ⟨(some 21), none, .mv (.tmp 10)⟩,
  ⟨(some 22), none, .mv (.tmp 11)⟩,
  ⟨(some 23), none, .bin .gtr (.tmp 21) (.tmp 22)⟩]
def F82_7 : ICode := .region [
  ⟨(some 24), none, .mv (.tmp 0)⟩,
  ⟨(some 25), none, .mv (.tmp 2)⟩,
  ⟨(some 26), none, .mv (.tmp 10)⟩,
  ⟨(some 27), none, .bin .sub (.tmp 25) (.tmp 26)⟩,
  ⟨(some 28), none, .mv (.tmp 2)⟩,
  ⟨(some 29), none, .mv (.tmp 11)⟩,
  ⟨(some 30), none, .mv (.tmp 4)⟩,
  ⟨(some 31), none, .call .shared (.func 98) [(.tmp 24), (.tmp 27), (.tmp 28), (.tmp 29), (.tmp 30)]⟩]
def F82_8 : ICode := .region [
  ⟨(some 32), none, .mv (.tmp 10)⟩,
  ⟨(some 33), none, .mv (.tmp 11)⟩,
  ⟨(some 34), none, .bin .sub (.tmp 32) (.tmp 33)⟩,
  ⟨(some 10), none, .mv (.tmp 34)⟩]
def F82_9 : ICode := .keep [0, 2, 4, 10, 11] F82_8
def F82_10 : ICode := .seq F82_7 F82_9
def F82_11 : ICode := .region [
  ⟨(some 35), none, .mv (.tmp 0)⟩,
  ⟨(some 36), none, .mv (.tmp 2)⟩,
  ⟨(some 37), none, .mv (.tmp 10)⟩,
  ⟨(some 38), none, .bin .sub (.tmp 36) (.tmp 37)⟩,
  ⟨(some 39), none, .mv (.tmp 2)⟩,
  ⟨(some 40), none, .mv (.tmp 11)⟩,
  ⟨(some 41), none, .bin .add (.tmp 39) (.tmp 40)⟩,
  ⟨(some 42), none, .mv (.tmp 10)⟩,
  ⟨(some 43), none, .bin .sub (.tmp 41) (.tmp 42)⟩,
  ⟨(some 44), none, .mv (.tmp 10)⟩,
  ⟨(some 45), none, .mv (.tmp 4)⟩,
  ⟨(some 46), none, .call .shared (.func 98) [(.tmp 35), (.tmp 38), (.tmp 43), (.tmp 44), (.tmp 45)]⟩]
def F82_12 : ICode := .region [
  ⟨(some 47), none, .mv (.tmp 11)⟩,
  ⟨(some 48), none, .mv (.tmp 10)⟩,
  ⟨(some 49), none, .bin .sub (.tmp 47) (.tmp 48)⟩,
  ⟨(some 11), none, .mv (.tmp 49)⟩]
def F82_13 : ICode := .keep [0, 2, 4, 10, 11] F82_12
def F82_14 : ICode := .seq F82_11 F82_13
def F82_15 : ICode := .cond (.tmp 23) F82_10 F82_14
def F82_16 : ICode := .keep [0, 2, 4, 10, 11, 23] F82_15
def F82_17 : ICode := .seq F82_6 F82_16
def F82_18 : ICode := .block 1 F82_17
def F82_19 : ICode := .keep [0, 2, 4, 10, 11] F82_18
def F82_20 : ICode := .seq F82_5 F82_19
def F82_21 : ICode := .loop [0, 2, 4, 10, 11] F82_20
def F82_22 : ICode := .block 0 F82_21
def F82_23 : ICode := .region [
  ⟨(some 50), none, .mv (.tmp 0)⟩,
  ⟨(some 51), none, .mv (.tmp 2)⟩,
  ⟨(some 52), none, .mv (.tmp 10)⟩,
  ⟨(some 53), none, .bin .sub (.tmp 51) (.tmp 52)⟩,
  ⟨(some 54), none, .mv (.tmp 2)⟩,
  ⟨(some 55), none, .mv (.tmp 10)⟩,
  ⟨(some 56), none, .mv (.tmp 4)⟩,
  ⟨(some 57), none, .call .shared (.func 98) [(.tmp 50), (.tmp 53), (.tmp 54), (.tmp 55), (.tmp 56)]⟩]
def F82_24 : ICode := .keep [0, 2, 4, 10] F82_23
def F82_25 : ICode := .seq F82_22 F82_24
def F82_26 : ICode := .keep [0, 2, 4, 10, 11] F82_25
def F82_27 : ICode := .seq F82_1 F82_26
def F82_28 : ICode := .keep [0, 2, 3, 4, 10] F82_27
def F82_29 : ICode := .seq F82_0 F82_28
/-- slices.rotateCmpFunc[introit/api.Member] -/
def F82 : IFunc := ⟨F82_29, []⟩

def F83_0 : ICode := .region [
  ⟨(some 4), none, .boxV (.tmp 1)⟩,
  ⟨(some 6), none, .mv (.const (.int .i64 0))⟩,
  ⟨(some 7), none, .mv (.const (.bool false))⟩]
def F83_1 : ICode := .region [
  ⟨(some 12), none, .mv (.tmp 0)⟩,
  ⟨(some 13), none, .len false (.tmp 12)⟩,
  ⟨(some 8), none, .mv (.tmp 13)⟩]
def F83_2 : ICode := .region [
  ⟨(some 14), none, .mv (.tmp 8)⟩,
  ⟨(some 9), none, .mv (.const (.int .i64 0))⟩,
  ⟨(some 10), none, .mv (.tmp 14)⟩]
def F83_3 : ICode := .region [
  ⟨(some 15), none, .mv (.tmp 9)⟩,
  ⟨(some 16), none, .mv (.tmp 10)⟩,
  ⟨(some 17), none, .bin .lss (.tmp 15) (.tmp 16)⟩]
def F83_4 : ICode := .cond (.tmp 17) .skip (.exit 0)
def F83_5 : ICode := .keep [0, 2, 4, 8, 9, 10, 17] F83_4
def F83_6 : ICode := .seq F83_3 F83_5
def F83_7 : ICode := .region [
  ⟨(some 18), none, .mv (.tmp 9)⟩,
  ⟨(some 19), none, .mv (.tmp 10)⟩,
  ⟨(some 20), none, .bin .add (.tmp 18) (.tmp 19)⟩,
  ⟨(some 21), none, .conv (.int .u64) (.tmp 20)⟩,
  ⟨(some 22), none, .bin .shr (.tmp 21) (.const (.int .u64 1))⟩,
  ⟨(some 23), none, .conv (.int .i64) (.tmp 22)⟩,
  ⟨(some 11), none, .mv (.tmp 23)⟩]
def F83_8 : ICode := .region [
  ⟨(some 24), none, .mv (.tmp 2)⟩,
  ⟨(some 25), none, .mv (.tmp 0)⟩,
  ⟨(some 26), none, .mv (.tmp 11)⟩,
  ⟨(some 27), none, .idxA 6 none (.tmp 25) (.tmp 26)⟩,
  ⟨(some 28), none, .load (some 6) (.tmp 27)⟩,
  ⟨(some 29), none, .loadV (some 6) (.tmp 4)⟩,
  ⟨(some 30), none, .call .strict (.tmp 24) [(.tmp 28), (.tmp 29)]⟩,
  ⟨(some 31), none, .bin .lss (.tmp 30) (.const (.int .i64 0))⟩]
def F83_9 : ICode := .region [
  ⟨(some 32), none, .mv (.tmp 11)⟩,
  ⟨(some 33), none, .bin .add (.tmp 32) (.const (.int .i64 1))⟩,
  ⟨(some 9), none, .mv (.tmp 33)⟩]
def F83_10 : ICode := .region [
  ⟨(some 34), none, .mv (.tmp 11)⟩,
  ⟨(some 10), none, .mv (.tmp 34)⟩]
def F83_11 : ICode := .cond (.tmp 31) F83_9 F83_10
def F83_12 : ICode := .keep [0, 2, 4, 8, 9, 10, 11, 31] F83_11
def F83_13 : ICode := .seq F83_8 F83_12
def F83_14 : ICode := .keep [0, 2, 4, 8, 9, 10, 11] F83_13
def F83_15 : ICode := .seq F83_7 F83_14
def F83_16 : ICode := .block 1 F83_15
def F83_17 : ICode := .keep [0, 2, 4, 8, 9, 10] F83_16
def F83_18 : ICode := .seq F83_6 F83_17
def F83_19 : ICode := .loop [0, 2, 4, 8, 9, 10] F83_18
def F83_20 : ICode := .block 0 F83_19
def F83_21 : ICode := .region [
  ⟨(some 35), none, .mv (.tmp 9)⟩,
  ⟨(some 36), none, .mv (.tmp 9)⟩,
  ⟨(some 37), none, .mv (.tmp 8)⟩,
  ⟨(some 38), none, .bin .lss (.tmp 36) (.tmp 37)⟩,
  ⟨(some 39), none, .mv (.tmp 38)⟩,
  ⟨(some 40), (some (39, true)), .mv (.tmp 2)⟩,
  ⟨(some 41), (some (39, true)), .mv (.tmp 0)⟩,
  ⟨(some 42), (some (39, true)), .mv (.tmp 9)⟩,
  ⟨(some 43), (some (39, true)), .idxA 6 none (.tmp 41) (.tmp 42)⟩,
  ⟨(some 44), (some (39, true)), .load (some 6) (.tmp 43)⟩,
  ⟨(some 45), (some (39, true)), .loadV (some 6) (.tmp 4)⟩,
  ⟨(some 46), (some (39, true)), .call .strict (.tmp 40) [(.tmp 44), (.tmp 45)]⟩,
  ⟨(some 47), (some (39, true)), .bin .eql (.tmp 46) (.const (.int .i64 0))⟩,
  ⟨(some 48), none, .pick (.tmp 39) (.tmp 47) (.const (.bool false))⟩,
  ⟨(some 6), none, .mv (.tmp 35)⟩,
  ⟨(some 7), none, .mv (.tmp 48)⟩]
def F83_22 : ICode := .seq F83_21 .ret
def F83_23 : ICode := .keep [0, 2, 4, 8, 9] F83_22
def F83_24 : ICode := .seq F83_20 F83_23
def F83_25 : ICode := .keep [0, 2, 4, 8, 9, 10] F83_24
def F83_26 : ICode := .seq F83_2 F83_25
def F83_27 : ICode := .keep [0, 2, 4, 8] F83_26
def F83_28 : ICode := .seq F83_1 F83_27
def F83_29 : ICode := .keep [0, 2, 4] F83_28
def F83_30 : ICode := .seq F83_0 F83_29
/-- slices.BinarySearchFunc[[]introit/api.Member,introit/api.Member,introit/api.Member] -/
def F83 : IFunc := ⟨F83_30, [.tmp 6, .tmp 7]⟩

def F88_0 : ICode := .region [
  ⟨(some 2), none, .mv (.const (.bool false))⟩]
def F88_1 : ICode := .region [
  ⟨(some 3), none, .mv (.tmp 0)⟩,
  ⟨(some 4), none, .call .pure (.func 99) [(.tmp 3)]⟩,
  ⟨(some 2), none, .mv (.tmp 4)⟩]
def F88_2 : ICode := .seq F88_1 .ret
def F88_3 : ICode := .keep [0] F88_2
def F88_4 : ICode := .seq F88_0 F88_3
/-- introit/utf.Good -/
def F88 : IFunc := ⟨F88_4, [.tmp 2]⟩

def F90_0 : ICode := .region [
  ⟨(some 4), none, .mv (.const (.bool false))⟩]
def F90_1 : ICode := .region [
  ⟨(some 5), none, .mv (.tmp 0)⟩,
  ⟨(some 6), none, .mv (.tmp 1)⟩,
  ⟨(some 7), none, .call .pure (.func 100) [(.tmp 5), (.tmp 6)]⟩,
  ⟨(some 8), none, .bin .geq (.tmp 7) (.const (.int .i64 0))⟩,
  ⟨(some 4), none, .mv (.tmp 8)⟩]
def F90_2 : ICode := .seq F90_1 .ret
def F90_3 : ICode := .keep [0, 1] F90_2
def F90_4 : ICode := .seq F90_0 F90_3
/-- slices.ContainsFunc[[]introit/api.Value,introit/api.Value] -/
def F90 : IFunc := ⟨F90_4, [.tmp 4]⟩

def F91_0 : ICode := .region [
  ⟨(some 1), none, .boxV (.tmp 0)⟩,
  ⟨(some 2), none, .mv (.const (.bool false))⟩]
def F91_1 : ICode := .region [
  ⟨(some 3), none, .loadV (some 5) (.tmp 1)⟩,
  ⟨(some 4), none, .call .pure (.func 48) [(.tmp 3)]⟩,
  ⟨(some 5), none, .un .not (.tmp 4)⟩,
  ⟨(some 2), none, .mv (.tmp 5)⟩]
def F91_2 : ICode := .seq F91_1 .ret
def F91_3 : ICode := .keep [1] F91_2
def F91_4 : ICode := .seq F91_0 F91_3
/-- (introit/value.one).list$1 -/
def F91 : IFunc := ⟨F91_4, [.tmp 2]⟩

def F93_0 : ICode := .region [
  ⟨(some 4), none, .mv (.const (.str []))⟩,
  ⟨(some 5), none, .mv (.const (.str []))⟩,
  ⟨(some 6), none, .mv (.const (.bool false))⟩]
def F93_1 : ICode := .region [
  ⟨(some 8), none, .mv (.tmp 0)⟩,
  ⟨(some 9), none, .mv (.tmp 1)⟩,
  ⟨(some 10), none, .call .pure (.func 101) [(.tmp 8), (.tmp 9)]⟩,
  ⟨(some 7), none, .mv (.tmp 10)⟩]
def F93_2 : ICode := .region [
  ⟨(some 11), none, .mv (.tmp 7)⟩,
  ⟨(some 12), none, .bin .geq (.tmp 11) (.const (.int .i64 0))⟩]
def F93_3 : ICode := .region [
  ⟨(some 13), none, .mv (.tmp 0)⟩,
  ⟨(some 14), none, .mv (.tmp 7)⟩,
  ⟨(some 15), none, .sliceS (.tmp 13) none (some (.tmp 14))⟩,
  ⟨(some 16), none, .mv (.tmp 0)⟩,
  ⟨(some 17), none, .mv (.tmp 7)⟩,
  ⟨(some 18), none, .mv (.tmp 1)⟩,
  ⟨(some 19), none, .len true (.tmp 18)⟩,
  ⟨(some 20), none, .bin .add (.tmp 17) (.tmp 19)⟩,
  ⟨(some 21), none, .sliceS (.tmp 16) (some (.tmp 20)) none⟩,
  ⟨(some 4), none, .mv (.tmp 15)⟩,
  ⟨(some 5), none, .mv (.tmp 21)⟩,
  ⟨(some 6), none, .mv (.const (.bool true))⟩]
def F93_4 : ICode := .seq F93_3 .ret
def F93_5 : ICode := .cond (.tmp 12) F93_4 .skip
def F93_6 : ICode := .keep [0, 1, 7, 12] F93_5
def F93_7 : ICode := .seq F93_2 F93_6
def F93_8 : ICode := .keep [0, 1, 7] F93_7
def F93_9 : ICode := .seq F93_1 F93_8
def F93_10 : ICode := .region [
  ⟨(some 22), none, .mv (.tmp 0)⟩,
  ⟨(some 4), none, .mv (.tmp 22)⟩,
  ⟨(some 5), none, .mv (.const (.str []))⟩,
  ⟨(some 6), none, .mv (.const (.bool false))⟩]
def F93_11 : ICode := .seq F93_10 .ret
def F93_12 : ICode := .keep [0] F93_11
def F93_13 : ICode := .seq F93_9 F93_12
def F93_14 : ICode := .keep [0, 1] F93_13
def F93_15 : ICode := .seq F93_0 F93_14
/-- internal/stringslite.Cut -/
def F93 : IFunc := ⟨F93_15, [.tmp 4, .tmp 5, .tmp 6]⟩

def F94_0 : ICode := .region [
  ⟨(some 8), none, .mv (.const (.bool false))⟩]
def F94_1 : ICode := .region [
  ⟨(some 10), none, .mv (.tmp 0)⟩,
  ⟨(some 11), none, .len true (.tmp 10)⟩,
  ⟨(some 12), none, .mv (.const (.int .i64 0))⟩]
def F94_2 : ICode := .region [
  ⟨(some 13), none, .bin .lss (.tmp 12) (.tmp 11)⟩]
def F94_3 : ICode := .cond (.tmp 13) .skip (.exit 0)
def F94_4 : ICode := .region [
  ⟨(some 14), none, .mv (.tmp 12)⟩,
  ⟨(some 9), none, .mv (.tmp 14)⟩]
def F94_5 : ICode := .region [
  ⟨(some 15), none, .mv (.tmp 3)⟩,
  ⟨(some 16), none, .mv (.tmp 2)⟩,
  ⟨(some 17), none, .mv (.tmp 0)⟩,
  ⟨(some 18), none, .mv (.tmp 9)⟩,
  ⟨(some 19), none, .idxS (.tmp 17) (.tmp 18)⟩,
  ⟨(some 20), none, .call .pure (.tmp 15) [(.tmp 16), (.tmp 19)]⟩,
  ⟨(some 21), none, .un .not (.tmp 20)⟩]
def F94_6 : ICode := .region [
  ⟨(some 8), none, .mv (.const (.bool false))⟩]
def F94_7 : ICode := .seq F94_6 .ret
def F94_8 : ICode := .cond (.tmp 21) F94_7 .skip
def F94_9 : ICode := .keep [0, 1, 2, 3, 11, 12, 21] F94_8
def F94_10 : ICode := .seq F94_5 F94_9
def F94_11 : ICode := .keep [0, 1, 2, 3, 9, 11, 12] F94_10
def F94_12 : ICode := .seq F94_4 F94_11
def F94_13 : ICode := .block 1 F94_12
def F94_14 : ICode := .region [
  ⟨(some 22), none, .bin .add (.tmp 12) (.const (.int .i64 1))⟩,
  ⟨(some 12), none, .mv (.tmp 22)⟩]
def F94_15 : ICode := .keep [0, 1, 2, 3, 11, 12] F94_14
def F94_16 : ICode := .seq F94_13 F94_15
def F94_17 : ICode := .keep [0, 1, 2, 3, 11, 12] F94_16
def F94_18 : ICode := .seq F94_3 F94_17
def F94_19 : ICode := .keep [0, 1, 2, 3, 11, 12, 13] F94_18
def F94_20 : ICode := .seq F94_2 F94_19
def F94_21 : ICode := .loop [0, 1, 2, 3, 11, 12] F94_20
def F94_22 : ICode := .block 0 F94_21
def F94_23 : ICode := .keep [0, 1, 2, 3, 11, 12] F94_22
def F94_24 : ICode := .seq F94_1 F94_23
def F94_25 : ICode := .region [
  ⟨(some 23), none, .mv (.tmp 0)⟩,
  ⟨(some 24), none, .len true (.tmp 23)⟩,
  ⟨(some 25), none, .bin .gtr (.tmp 24) (.const (.int .i64 0))⟩,
  ⟨(some 26), none, .mv (.tmp 25)⟩,
  ⟨(some 27), (some (26, true)), .mv (.tmp 0)⟩,
  ⟨(some 28), (some (26, true)), .len true (.tmp 27)⟩,
  ⟨(some 29), (some (26, true)), .mv (.tmp 1)⟩,
  ⟨(some 30), (some (26, true)), .bin .leq (.tmp 28) (.tmp 29)⟩,
  ⟨(some 31), none, .pick (.tmp 26) (.tmp 30) (.const (.bool false))⟩,
  ⟨(some 8), none, .mv (.tmp 31)⟩]
def F94_26 : ICode := .seq F94_25 .ret
def F94_27 : ICode := .keep [0, 1] F94_26
def F94_28 : ICode := .seq F94_24 F94_27
def F94_29 : ICode := .keep [0, 1, 2, 3] F94_28
def F94_30 : ICode := .seq F94_0 F94_29
/-- introit/ident.all[introit/ident.set] -/
def F94 : IFunc := ⟨F94_30, [.tmp 8]⟩

def F95_0 : ICode := .region [
  ⟨(some 4), none, .mv (.const (.bool false))⟩]
def F95_1 : ICode := .region [
  ⟨(some 5), none, .mv (.tmp 0)⟩,
  ⟨(some 6), none, .mv (.tmp 1)⟩,
  ⟨(some 7), none, .call .pure (.func 102) [(.tmp 5), (.tmp 6)]⟩,
  ⟨(some 8), none, .bin .geq (.tmp 7) (.const (.int .i64 0))⟩,
  ⟨(some 4), none, .mv (.tmp 8)⟩]
def F95_2 : ICode := .seq F95_1 .ret
def F95_3 : ICode := .keep [0, 1] F95_2
def F95_4 : ICode := .seq F95_0 F95_3
/-- (introit/ident.set).has -/
def F95 : IFunc := ⟨F95_4, [.tmp 4]⟩

def F96_0 : ICode := .region [
  ⟨(some 2), none, .mv (.const (.bool false))⟩]
def F96_1 : ICode := .region [
  ⟨(some 3), none, .mv (.tmp 0)⟩,
  ⟨(some 4), none, .call .pure (.func 103) [(.tmp 3)]⟩,
  ⟨(some 5), none, .bin .geq (.tmp 4) (.const (.int .i64 0))⟩,
  ⟨(some 2), none, .mv (.tmp 5)⟩]
def F96_2 : ICode := .seq F96_1 .ret
def F96_3 : ICode := .keep [0] F96_2
def F96_4 : ICode := .seq F96_0 F96_3
/-- introit/introitref1.Good -/
def F96 : IFunc := ⟨F96_4, [.tmp 2]⟩

def F97_0 : ICode := .region [
  ⟨(some 2), none, .mv (.const (.bool false))⟩]
def F97_1 : ICode := .region [
  ⟨(some 3), none, .mv (.const (.int .i64 0))⟩]
def F97_2 : ICode := .region [
  ⟨(some 6), none, .mv (.tmp 3)⟩,
  ⟨(some 7), none, .mv (.tmp 0)⟩,
  ⟨(some 8), none, .len true (.tmp 7)⟩,
  ⟨(some 9), none, .bin .lss (.tmp 6) (.tmp 8)⟩,
  ⟨(some 10), none, .mv (.tmp 9)⟩,
  ⟨(some 11), (some (10, true)), .mv (.tmp 0)⟩,
  ⟨(some 12), (some (10, true)), .mv (.tmp 3)⟩,
  ⟨(some 13), (some (10, true)), .idxS (.tmp 11) (.tmp 12)⟩,
  ⟨(some 14), (some (10, true)), .call .pure (.func 104) [(.tmp 13)]⟩,
  ⟨(some 15), (some (10, true)), .mv (.tmp 14)⟩,
  ⟨(some 16), (some (15, false)), .mv (.tmp 0)⟩,
  ⟨(some 17), (some (15, false)), .mv (.tmp 3)⟩,
  ⟨(some 18), (some (15, false)), .idxS (.tmp 16) (.tmp 17)⟩,
  ⟨(some 19), (some (15, false)), .call .pure (.func 105) [(.tmp 18)]⟩,
  ⟨(some 20), (some (10, true)), .pick (.tmp 15) (.const (.bool true)) (.tmp 19)⟩,
  ⟨(some 21), (some (10, true)), .mv (.tmp 20)⟩,
  ⟨(some 22), (some (21, false)), .mv (.tmp 0)⟩,
  ⟨(some 23), (some (21, false)), .mv (.tmp 3)⟩,
  ⟨(some 24), (some (21, false)), .idxS (.tmp 22) (.tmp 23)⟩,
  ⟨(some 25), (some (21, false)), .bin .eql (.tmp 24) (.const (.int .u8 46))⟩,
  ⟨(some 26), (some (10, true)), .pick (.tmp 21) (.const (.bool true)) (.tmp 25)⟩,
  ⟨(some 27), (some (10, true)), .mv (.tmp 26)⟩,
  ⟨(some 28), (some (27, false)), .mv (.tmp 0)⟩,
  ⟨(some 29), (some (27, false)), .mv (.tmp 3)⟩,
  ⟨(some 30), (some (27, false)), .idxS (.tmp 28) (.tmp 29)⟩,
  ⟨(some 31), (some (27, false)), .bin .eql (.tmp 30) (.const (.int .u8 45))⟩,
  ⟨(some 32), (some (10, true)), .pick (.tmp 27) (.const (.bool true)) (.tmp 31)⟩,
  ⟨(some 33), none, .pick (.tmp 10) (.tmp 32) (.const (.bool false))⟩]
def F97_3 : ICode := .cond (.tmp 33) .skip (.exit 0)
def F97_4 : ICode := .keep [0, 3, 33] F97_3
def F97_5 : ICode := .seq F97_2 F97_4
def F97_6 : ICode := .region [
  ⟨(some 34), none, .mv (.tmp 3)⟩,
  ⟨(some 35), none, .bin .add (.tmp 34) (.const (.int .i64 1))⟩,
  ⟨(some 3), none, .mv (.tmp 35)⟩]
def F97_7 : ICode := .block 1 F97_6
def F97_8 : ICode := .keep [0, 3] F97_7
def F97_9 : ICode := .seq F97_5 F97_8
def F97_10 : ICode := .loop [0, 3] F97_9
def F97_11 : ICode := .block 0 F97_10
def F97_12 : ICode := .region [
  ⟨(some 36), none, .mv (.tmp 3)⟩,
  ⟨(some 37), none, .bin .eql (.tmp 36) (.const (.int .i64 0))⟩,
  ⟨(some 38), none, .mv (.tmp 37)⟩,
  ⟨(some 39), (some (38, false)), .mv (.tmp 0)⟩,
  ⟨(some 40), (some (38, false)), .len true (.tmp 39)⟩,
  ⟨(some 41), (some (38, false)), .bin .gtr (.tmp 40) (.const (.int .i64 255))⟩,
  ⟨(some 42), none, .pick (.tmp 38) (.const (.bool true)) (.tmp 41)⟩]
def F97_13 : ICode := .region [
  ⟨(some 2), none, .mv (.const (.bool false))⟩]
def F97_14 : ICode := .seq F97_13 .ret
def F97_15 : ICode := .cond (.tmp 42) F97_14 .skip
def F97_16 : ICode := .keep [0, 3, 42] F97_15
def F97_17 : ICode := .seq F97_12 F97_16
def F97_18 : ICode := .region [
  ⟨(some 43), none, .mv (.tmp 3)⟩,
  ⟨(some 44), none, .mv (.tmp 0)⟩,
  ⟨(some 45), none, .len true (.tmp 44)⟩,
  ⟨(some 46), none, .bin .eql (.tmp 43) (.tmp 45)⟩]
def F97_19 : ICode := .region [
  ⟨(some 2), none, .mv (.const (.bool true))⟩]
def F97_20 : ICode := .seq F97_19 .ret
def F97_21 : ICode := .cond (.tmp 46) F97_20 .skip
def F97_22 : ICode := .keep [0, 3, 46] F97_21
def F97_23 : ICode := .seq F97_18 F97_22
def F97_24 : ICode := .region [
  ⟨(some 47), none, .mv (.tmp 0)⟩,
  ⟨(some 48), none, .mv (.tmp 3)⟩,
  ⟨(some 49), none, .bin .add (.tmp 48) (.const (.int .i64 1))⟩,
  ⟨(some 50), none, .sliceS (.tmp 47) (some (.tmp 49)) none⟩,
  ⟨(some 4), none, .mv (.tmp 50)⟩]
def F97_25 : ICode := .region [
  ⟨(some 5), none, .mv (.const (.int .i64 0))⟩]
def F97_26 : ICode := .region [
  ⟨(some 51), none, .mv (.tmp 5)⟩,
  ⟨(some 52), none, .mv (.tmp 4)⟩,
  ⟨(some 53), none, .len true (.tmp 52)⟩,
  ⟨(some 54), none, .bin .lss (.tmp 51) (.tmp 53)⟩]
def F97_27 : ICode := .cond (.tmp 54) .skip (.exit 2)
def F97_28 : ICode := .keep [0, 3, 4, 5, 54] F97_27
def F97_29 : ICode := .seq F97_26 F97_28
def F97_30 : ICode := .region [
  ⟨(some 57), none, .mv (.tmp 4)⟩,
  ⟨(some 58), none, .mv (.tmp 5)⟩,
  ⟨(some 59), none, .idxS (.tmp 57) (.tmp 58)⟩,
  ⟨(some 60), none, .call .pure (.func 105) [(.tmp 59)]⟩,
  ⟨(some 61), none, .un .not (.tmp 60)⟩]
def F97_31 : ICode := .region [
  ⟨(some 2), none, .mv (.const (.bool false))⟩]
def F97_32 : ICode := .seq F97_31 .ret
def F97_33 : ICode := .cond (.tmp 61) F97_32 .skip
def F97_34 : ICode := .keep [0, 3, 4, 5, 61] F97_33
def F97_35 : ICode := .seq F97_30 F97_34
def F97_36 : ICode := .block 3 F97_35
def F97_37 : ICode := .region [
  ⟨(some 55), none, .mv (.tmp 5)⟩,
  ⟨(some 56), none, .bin .add (.tmp 55) (.const (.int .i64 1))⟩,
  ⟨(some 5), none, .mv (.tmp 56)⟩]
def F97_38 : ICode := .keep [0, 3, 4, 5] F97_37
def F97_39 : ICode := .seq F97_36 F97_38
def F97_40 : ICode := .keep [0, 3, 4, 5] F97_39
def F97_41 : ICode := .seq F97_29 F97_40
def F97_42 : ICode := .loop [0, 3, 4, 5] F97_41
def F97_43 : ICode := .block 2 F97_42
def F97_44 : ICode := .keep [0, 3, 4, 5] F97_43
def F97_45 : ICode := .seq F97_25 F97_44
def F97_46 : ICode := .region [
  ⟨(some 62), none, .mv (.tmp 0)⟩,
  ⟨(some 63), none, .mv (.tmp 3)⟩,
  ⟨(some 64), none, .idxS (.tmp 62) (.tmp 63)⟩,
  ⟨(some 65), none, .bin .eql (.tmp 64) (.const (.int .u8 58))⟩,
  ⟨(some 66), none, .mv (.tmp 65)⟩,
  ⟨(some 67), (some (66, true)), .mv (.tmp 4)⟩,
  ⟨(some 68), (some (66, true)), .len true (.tmp 67)⟩,
  ⟨(some 69), (some (66, true)), .bin .geq (.tmp 68) (.const (.int .i64 1))⟩,
  ⟨(some 70), none, .pick (.tmp 66) (.tmp 69) (.const (.bool false))⟩,
  ⟨(some 71), none, .mv (.tmp 70)⟩,
  ⟨(some 72), (some (71, true)), .mv (.tmp 4)⟩,
  ⟨(some 73), (some (71, true)), .len true (.tmp 72)⟩,
  ⟨(some 74), (some (71, true)), .bin .leq (.tmp 73) (.const (.int .i64 5))⟩,
  ⟨(some 75), none, .pick (.tmp 71) (.tmp 74) (.const (.bool false))⟩,
  ⟨(some 2), none, .mv (.tmp 75)⟩]
def F97_47 : ICode := .seq F97_46 .ret
def F97_48 : ICode := .keep [0, 3, 4] F97_47
def F97_49 : ICode := .seq F97_45 F97_48
def F97_50 : ICode := .keep [0, 3, 4] F97_49
def F97_51 : ICode := .seq F97_24 F97_50
def F97_52 : ICode := .keep [0, 3] F97_51
def F97_53 : ICode := .seq F97_23 F97_52
def F97_54 : ICode := .keep [0, 3] F97_53
def F97_55 : ICode := .seq F97_17 F97_54
def F97_56 : ICode := .keep [0, 3] F97_55
def F97_57 : ICode := .seq F97_11 F97_56
def F97_58 : ICode := .keep [0, 3] F97_57
def F97_59 : ICode := .seq F97_1 F97_58
def F97_60 : ICode := .keep [0] F97_59
def F97_61 : ICode := .seq F97_0 F97_60
/-- introit/introitref1.Server -/
def F97 : IFunc := ⟨F97_61, [.tmp 2]⟩

def F98_0 : ICode := .region [
  ⟨(some 10), none, .mv (.const (.int .i64 0))⟩]
def F98_1 : ICode := .region [
  ⟨(some 11), none, .mv (.tmp 10)⟩,
  ⟨(some 12), none, .mv (.tmp 3)⟩,
  ⟨(some 13), none, .bin .lss (.tmp 11) (.tmp 12)⟩]
def F98_2 : ICode := .cond (.tmp 13) .skip (.exit 0)
def F98_3 : ICode := .keep [0, 1, 2, 3, 10, 13] F98_2
def F98_4 : ICode := .seq F98_1 F98_3
def F98_5 : ICode := .region [
  ⟨(some 16), none, .mv (.tmp 0)⟩,
  ⟨(some 17), none, .mv (.tmp 1)⟩,
  ⟨(some 18), none, .mv (.tmp 10)⟩,
  ⟨(some 19), none, .bin .add (.tmp 17) (.tmp 18)⟩,
  ⟨(some 20), none, .mv (.tmp 0)⟩,
  ⟨(some 21), none, .mv (.tmp 2)⟩,
  ⟨(some 22), none, .mv (.tmp 10)⟩,
  ⟨(some 23), none, .bin .add (.tmp 21) (.tmp 22)⟩,
  ⟨(some 24), none, .mv (.tmp 0)⟩,
  ⟨(some 25), none, .mv (.tmp 2)⟩,
  ⟨(some 26), none, .mv (.tmp 10)⟩,
  ⟨(some 27), none, .bin .add (.tmp 25) (.tmp 26)⟩,
  ⟨(some 28), none, .idxA 6 none (.tmp 24) (.tmp 27)⟩,
  ⟨(some 29), none, .load (some 6) (.tmp 28)⟩,
  ⟨(some 30), none, .mv (.tmp 0)⟩,
  ⟨(some 31), none, .mv (.tmp 1)⟩,
  ⟨(some 32), none, .mv (.tmp 10)⟩,
  ⟨(some 33), none, .bin .add (.tmp 31) (.tmp 32)⟩,
  ⟨(some 34), none, .idxA 6 none (.tmp 30) (.tmp 33)⟩,
  ⟨(some 35), none, .load (some 6) (.tmp 34)⟩,
  ⟨(some 36), none, .idxA 6 none (.tmp 16) (.tmp 19)⟩,
  ⟨none, none, .store 6 (.tmp 36) (.tmp 29)⟩,
  ⟨(some 37), none, .idxA 6 none (.tmp 20) (.tmp 23)⟩,
  ⟨none, none, .store 6 (.tmp 37) (.tmp 35)⟩]
def F98_6 : ICode := .block 1 F98_5
def F98_7 : ICode := .region [
  ⟨(some 14), none, .mv (.tmp 10)⟩,
  ⟨(some 15), none, .bin .add (.tmp 14) (.const (.int .i64 1))⟩,
  ⟨(some 10), none, .mv (.tmp 15)⟩]
def F98_8 : ICode := .keep [0, 1, 2, 3, 10] F98_7
def F98_9 : ICode := .seq F98_6 F98_8
def F98_10 : ICode := .keep [0, 1, 2, 3, 10] F98_9
def F98_11 : ICode := .seq F98_4 F98_10
def F98_12 : ICode := .loop [0, 1, 2, 3, 10] F98_11
def F98_13 : ICode := .block 0 F98_12
def F98_14 : ICode := .keep [0, 1, 2, 3, 10] F98_13
def F98_15 : ICode := .seq F98_0 F98_14
/-- slices.swapRangeCmpFunc[introit/api.Member] -/
def F98 : IFunc := ⟨F98_15, []⟩

def F99_0 : ICode := .region [
  ⟨(some 2), none, .mv (.const (.bool false))⟩]
def F99_1 : ICode := .region [
  ⟨(some 7), none, .mv (.tmp 0)⟩,
  ⟨(some 8), none, .len true (.tmp 7)⟩,
  ⟨(some 9), none, .bin .gtr (.tmp 8) (.const (.int .i64 0))⟩]
def F99_2 : ICode := .cond (.tmp 9) .skip (.exit 0)
def F99_3 : ICode := .keep [0, 9] F99_2
def F99_4 : ICode := .seq F99_1 F99_3
def F99_5 : ICode := .region [
  ⟨(some 10), none, .mv (.tmp 0)⟩,
  ⟨(some 11), none, .idxS (.tmp 10) (.const (.int .i64 0))⟩,
  ⟨(some 3), none, .mv (.tmp 11)⟩]
def F99_6 : ICode := .region [
  ⟨(some 12), none, .mv (.tmp 3)⟩,
  ⟨(some 13), none, .bin .lss (.tmp 12) (.const (.int .u8 128))⟩]
def F99_7 : ICode := .region [
  ⟨(some 14), none, .mv (.tmp 0)⟩,
  ⟨(some 15), none, .sliceS (.tmp 14) (some (.const (.int .i64 1))) none⟩,
  ⟨(some 0), none, .mv (.tmp 15)⟩]
def F99_8 : ICode := .region [
  ⟨(some 16), none, .mv (.tmp 0)⟩,
  ⟨(some 17), none, .len true (.tmp 16)⟩,
  ⟨(some 18), none, .bin .gtr (.tmp 17) (.const (.int .i64 8))⟩,
  ⟨(some 19), none, .mv (.tmp 18)⟩,
  ⟨(some 20), (some (19, true)), .mv (.tmp 0)⟩,
  ⟨(some 21), (some (19, true)), .call .pure (.func 106) [(.tmp 20)]⟩,
  ⟨(some 22), (some (19, true)), .bin .and (.tmp 21) (.const (.int .u64 9259542123273814144))⟩,
  ⟨(some 23), (some (19, true)), .bin .eql (.tmp 22) (.const (.int .u64 0))⟩,
  ⟨(some 24), none, .pick (.tmp 19) (.tmp 23) (.const (.bool false))⟩]
def F99_9 : ICode := .region [
  ⟨(some 25), none, .mv (.tmp 0)⟩,
  ⟨(some 26), none, .sliceS (.tmp 25) (some (.const (.int .i64 8))) none⟩,
  ⟨(some 0), none, .mv (.tmp 26)⟩]
def F99_10 : ICode := .region [
  ⟨(some 27), none, .mv (.tmp 0)⟩,
  ⟨(some 28), none, .len true (.tmp 27)⟩,
  ⟨(some 29), none, .bin .gtr (.tmp 28) (.const (.int .i64 16))⟩,
  ⟨(some 30), none, .mv (.tmp 29)⟩,
  ⟨(some 31), (some (30, true)), .mv (.tmp 0)⟩,
  ⟨(some 32), (some (30, true)), .call .strict (.func 106) [(.tmp 31)]⟩,
  ⟨(some 33), (some (30, true)), .mv (.tmp 0)⟩,
  ⟨(some 34), (some (30, true)), .sliceS (.tmp 33) (some (.const (.int .i64 8))) none⟩,
  ⟨(some 35), (some (30, true)), .call .strict (.func 106) [(.tmp 34)]⟩,
  ⟨(some 36), (some (30, true)), .bin .or (.tmp 32) (.tmp 35)⟩,
  ⟨(some 37), (some (30, true)), .bin .and (.tmp 36) (.const (.int .u64 9259542123273814144))⟩,
  ⟨(some 38), (some (30, true)), .bin .eql (.tmp 37) (.const (.int .u64 0))⟩,
  ⟨(some 39), none, .pick (.tmp 30) (.tmp 38) (.const (.bool false))⟩]
def F99_11 : ICode := .region [
  ⟨(some 40), none, .mv (.tmp 0)⟩,
  ⟨(some 41), none, .sliceS (.tmp 40) (some (.const (.int .i64 16))) none⟩,
  ⟨(some 0), none, .mv (.tmp 41)⟩]
def F99_12 : ICode := .region [
  ⟨(some 42), none, .mv (.tmp 0)⟩,
  ⟨(some 43), none, .len true (.tmp 42)⟩,
  ⟨(some 44), none, .bin .gtr (.tmp 43) (.const (.int .i64 32))⟩,
  ⟨(some 45), none, .mv (.tmp 44)⟩,
  ⟨(some 46), (some (45, true)), .mv (.tmp 0)⟩,
  ⟨(some 47), (some (45, true)), .call .strict (.func 106) [(.tmp 46)]⟩,
  ⟨(some 48), (some (45, true)), .mv (.tmp 0)⟩,
  ⟨(some 49), (some (45, true)), .sliceS (.tmp 48) (some (.const (.int .i64 8))) none⟩,
  ⟨(some 50), (some (45, true)), .call .strict (.func 106) [(.tmp 49)]⟩,
  ⟨(some 51), (some (45, true)), .bin .or (.tmp 47) (.tmp 50)⟩,
  ⟨(some 52), (some (45, true)), .mv (.tmp 0)⟩,
  ⟨(some 53), (some (45, true)), .sliceS (.tmp 52) (some (.const (.int .i64 16))) none⟩,
  ⟨(some 54), (some (45, true)), .call .strict (.func 106) [(.tmp 53)]⟩,
  ⟨(some 55), (some (45, true)), .mv (.tmp 0)⟩,
  ⟨(some 56), (some (45, true)), .sliceS (.tmp 55) (some (.const (.int .i64 24))) none⟩,
  ⟨(some 57), (some (45, true)), .call .strict (.func 106) [(.tmp 56)]⟩,
  ⟨(some 58), (some (45, true)), .bin .or (.tmp 54) (.tmp 57)⟩,
  ⟨(some 59), (some (45, true)), .bin .or (.tmp 51) (.tmp 58)⟩,
  ⟨(some 60), (some (45, true)), .bin .and (.tmp 59) (.const (.int .u64 9259542123273814144))⟩,
  ⟨(some 61), (some (45, true)), .bin .eql (.tmp 60) (.const (.int .u64 0))⟩,
  ⟨(some 62), none, .pick (.tmp 45) (.tmp 61) (.const (.bool false))⟩]
def F99_13 : ICode := .cond (.tmp 62) .skip (.exit 2)
def F99_14 : ICode := .keep [0, 62] F99_13
def F99_15 : ICode := .seq F99_12 F99_14
def F99_16 : ICode := .region [
  ⟨(some 63), none, .mv (.tmp 0)⟩,
  ⟨(some 64), none, .sliceS (.tmp 63) (some (.const (.int .i64 32))) none⟩,
  ⟨(some 0), none, .mv (.tmp 64)⟩]
def F99_17 : ICode := .block 3 F99_16
def F99_18 : ICode := .keep [0] F99_17
def F99_19 : ICode := .seq F99_15 F99_18
def F99_20 : ICode := .loop [0] F99_19
def F99_21 : ICode := .block 2 F99_20
def F99_22 : ICode := .keep [0] F99_21
def F99_23 : ICode := .seq F99_11 F99_22
def F99_24 : ICode := .cond (.tmp 39) F99_23 .skip
def F99_25 : ICode := .keep [0, 39] F99_24
def F99_26 : ICode := .seq F99_10 F99_25
def F99_27 : ICode := .keep [0] F99_26
def F99_28 : ICode := .seq F99_9 F99_27
def F99_29 : ICode := .cond (.tmp 24) F99_28 .skip
def F99_30 : ICode := .keep [0, 24] F99_29
def F99_31 : ICode := .seq F99_8 F99_30
def F99_32 : ICode := .keep [0] (.exit 1)
def F99_33 : ICode := .seq F99_31 F99_32
def F99_34 : ICode := .keep [0] F99_33
def F99_35 : ICode := .seq F99_7 F99_34
def F99_36 : ICode := .cond (.tmp 13) F99_35 .skip
def F99_37 : ICode := .keep [0, 3, 13] F99_36
def F99_38 : ICode := .seq F99_6 F99_37
def F99_39 : ICode := .region [
  ⟨(some 65), none, .mv (.tmp 3)⟩,
  ⟨(some 66), none, .idxA 1 (some 256) (.glob 0) (.tmp 65)⟩,
  ⟨(some 67), none, .load none (.tmp 66)⟩,
  ⟨(some 4), none, .mv (.tmp 67)⟩]
def F99_40 : ICode := .region [
  ⟨(some 68), none, .mv (.tmp 4)⟩,
  ⟨(some 69), none, .bin .and (.tmp 68) (.const (.int .u8 7))⟩,
  ⟨(some 70), none, .conv (.int .i64) (.tmp 69)⟩,
  ⟨(some 5), none, .mv (.tmp 70)⟩]
def F99_41 : ICode := .region [
  ⟨(some 71), none, .mv (.tmp 4)⟩,
  ⟨(some 72), none, .bin .shr (.tmp 71) (.const (.int .u64 4))⟩,
  ⟨(some 73), none, .idxA 2 (some 16) (.glob 1) (.tmp 72)⟩,
  ⟨(some 74), none, .load (some 2) (.tmp 73)⟩,
  ⟨(some 6), none, .new [.int .u8 0, .int .u8 0]⟩,
  ⟨none, none, .store 2 (.tmp 6) (.tmp 74)⟩]
def F99_42 : ICode := .region [
  ⟨(some 75), none, .mv (.tmp 5)⟩]
def F99_43 : ICode := .region [
  ⟨(some 77), none, .bin .eql (.tmp 75) (.const (.int .i64 2))⟩,
  ⟨(some 76), none, .mv (.tmp 77)⟩]
def F99_44 : ICode := .region [
  ⟨(some 78), none, .mv (.tmp 0)⟩,
  ⟨(some 79), none, .len true (.tmp 78)⟩,
  ⟨(some 80), none, .bin .lss (.tmp 79) (.const (.int .i64 2))⟩,
  ⟨(some 81), none, .mv (.tmp 80)⟩,
  ⟨(some 82), (some (81, false)), .mv (.tmp 0)⟩,
  ⟨(some 83), (some (81, false)), .idxS (.tmp 82) (.const (.int .i64 1))⟩,
  ⟨(some 84), (some (81, false)), .fieldA 0 (.tmp 6)⟩,
  ⟨(some 85), (some (81, false)), .load none (.tmp 84)⟩,
  ⟨(some 86), (some (81, false)), .bin .lss (.tmp 83) (.tmp 85)⟩,
  ⟨(some 87), none, .pick (.tmp 81) (.const (.bool true)) (.tmp 86)⟩,
  ⟨(some 88), none, .mv (.tmp 87)⟩,
  ⟨(some 89), (some (88, false)), .fieldA 1 (.tmp 6)⟩,
  ⟨(some 90), (some (88, false)), .load none (.tmp 89)⟩,
  ⟨(some 91), (some (88, false)), .mv (.tmp 0)⟩,
  ⟨(some 92), (some (88, false)), .idxS (.tmp 91) (.const (.int .i64 1))⟩,
  ⟨(some 93), (some (88, false)), .bin .lss (.tmp 90) (.tmp 92)⟩,
  ⟨(some 94), none, .pick (.tmp 88) (.const (.bool true)) (.tmp 93)⟩]
def F99_45 : ICode := .region [
  ⟨(some 2), none, .mv (.const (.bool false))⟩]
def F99_46 : ICode := .seq F99_45 .ret
def F99_47 : ICode := .cond (.tmp 94) F99_46 .skip
def F99_48 : ICode := .keep [0, 94] F99_47
def F99_49 : ICode := .seq F99_44 F99_48
def F99_50 : ICode := .region [
  ⟨(some 95), none, .mv (.tmp 0)⟩,
  ⟨(some 96), none, .sliceS (.tmp 95) (some (.const (.int .i64 2))) none⟩,
  ⟨(some 0), none, .mv (.tmp 96)⟩]
def F99_51 : ICode := .keep [0] F99_50
def F99_52 : ICode := .seq F99_49 F99_51
def F99_53 : ICode := .region [
  ⟨(some 98), none, .bin .eql (.tmp 75) (.const (.int .i64 3))⟩,
  ⟨(some 97), none, .mv (.tmp 98)⟩]
def F99_54 : ICode := .region [
  ⟨(some 99), none, .mv (.tmp 0)⟩,
  ⟨(some 100), none, .len true (.tmp 99)⟩,
  ⟨(some 101), none, .bin .lss (.tmp 100) (.const (.int .i64 3))⟩,
  ⟨(some 102), none, .mv (.tmp 101)⟩,
  ⟨(some 103), (some (102, false)), .mv (.tmp 0)⟩,
  ⟨(some 104), (some (102, false)), .idxS (.tmp 103) (.const (.int .i64 1))⟩,
  ⟨(some 105), (some (102, false)), .fieldA 0 (.tmp 6)⟩,
  ⟨(some 106), (some (102, false)), .load none (.tmp 105)⟩,
  ⟨(some 107), (some (102, false)), .bin .lss (.tmp 104) (.tmp 106)⟩,
  ⟨(some 108), none, .pick (.tmp 102) (.const (.bool true)) (.tmp 107)⟩,
  ⟨(some 109), none, .mv (.tmp 108)⟩,
  ⟨(some 110), (some (109, false)), .fieldA 1 (.tmp 6)⟩,
  ⟨(some 111), (some (109, false)), .load none (.tmp 110)⟩,
  ⟨(some 112), (some (109, false)), .mv (.tmp 0)⟩,
  ⟨(some 113), (some (109, false)), .idxS (.tmp 112) (.const (.int .i64 1))⟩,
  ⟨(some 114), (some (109, false)), .bin .lss (.tmp 111) (.tmp 113)⟩,
  ⟨(some 115), none, .pick (.tmp 109) (.const (.bool true)) (.tmp 114)⟩,
  ⟨(some 116), none, .mv (.tmp 115)⟩,
  ⟨(some 117), (some (116, false)), .mv (.tmp 0)⟩,
  ⟨(some 118), (some (116, false)), .idxS (.tmp 117) (.const (.int .i64 2))⟩,
  ⟨(some 119), (some (116, false)), .bin .lss (.tmp 118) (.const (.int .u8 128))⟩,
  ⟨(some 120), none, .pick (.tmp 116) (.const (.bool true)) (.tmp 119)⟩,
  ⟨(some 121), none, .mv (.tmp 120)⟩,
  ⟨(some 122), (some (121, false)), .mv (.tmp 0)⟩,
  ⟨(some 123), (some (121, false)), .idxS (.tmp 122) (.const (.int .i64 2))⟩,
  ⟨(some 124), (some (121, false)), .bin .lss (.const (.int .u8 191)) (.tmp 123)⟩,
  ⟨(some 125), none, .pick (.tmp 121) (.const (.bool true)) (.tmp 124)⟩]
def F99_55 : ICode := .region [
  ⟨(some 2), none, .mv (.const (.bool false))⟩]
def F99_56 : ICode := .seq F99_55 .ret
def F99_57 : ICode := .cond (.tmp 125) F99_56 .skip
def F99_58 : ICode := .keep [0, 125] F99_57
def F99_59 : ICode := .seq F99_54 F99_58
def F99_60 : ICode := .region [
  ⟨(some 126), none, .mv (.tmp 0)⟩,
  ⟨(some 127), none, .sliceS (.tmp 126) (some (.const (.int .i64 3))) none⟩,
  ⟨(some 0), none, .mv (.tmp 127)⟩]
def F99_61 : ICode := .keep [0] F99_60
def F99_62 : ICode := .seq F99_59 F99_61
def F99_63 : ICode := .region [
  ⟨(some 129), none, .bin .eql (.tmp 75) (.const (.int .i64 4))⟩,
  ⟨(some 128), none, .mv (.tmp 129)⟩]
def F99_64 : ICode := .region [
  ⟨(some 130), none, .mv (.tmp 0)⟩,
  ⟨(some 131), none, .len true (.tmp 130)⟩,
  ⟨(some 132), none, .bin .lss (.tmp 131) (.const (.int .i64 4))⟩,
  ⟨(some 133), none, .mv (.tmp 132)⟩,
  ⟨(some 134), (some (133, false)), .mv (.tmp 0)⟩,
  ⟨(some 135), (some (133, false)), .idxS (.tmp 134) (.const (.int .i64 1))⟩,
  ⟨(some 136), (some (133, false)), .fieldA 0 (.tmp 6)⟩,
  ⟨(some 137), (some (133, false)), .load none (.tmp 136)⟩,
  ⟨(some 138), (some (133, false)), .bin .lss (.tmp 135) (.tmp 137)⟩,
  ⟨(some 139), none, .pick (.tmp 133) (.const (.bool true)) (.tmp 138)⟩,
  ⟨(some 140), none, .mv (.tmp 139)⟩,
  ⟨(some 141), (some (140, false)), .fieldA 1 (.tmp 6)⟩,
  ⟨(some 142), (some (140, false)), .load none (.tmp 141)⟩,
  ⟨(some 143), (some (140, false)), .mv (.tmp 0)⟩,
  ⟨(some 144), (some (140, false)), .idxS (.tmp 143) (.const (.int .i64 1))⟩,
  ⟨(some 145), (some (140, false)), .bin .lss (.tmp 142) (.tmp 144)⟩,
  ⟨(some 146), none, .pick (.tmp 140) (.const (.bool true)) (.tmp 145)⟩,
  ⟨(some 147), none, .mv (.tmp 146)⟩,
  ⟨(some 148), (some (147, false)), .mv (.tmp 0)⟩,
  ⟨(some 149), (some (147, false)), .idxS (.tmp 148) (.const (.int .i64 2))⟩,
  ⟨(some 150), (some (147, false)), .bin .lss (.tmp 149) (.const (.int .u8 128))⟩,
  ⟨(some 151), none, .pick (.tmp 147) (.const (.bool true)) (.tmp 150)⟩,
  ⟨(some 152), none, .mv (.tmp 151)⟩,
  ⟨(some 153), (some (152, false)), .mv (.tmp 0)⟩,
  ⟨(some 154), (some (152, false)), .idxS (.tmp 153) (.const (.int .i64 2))⟩,
  ⟨(some 155), (some (152, false)), .bin .lss (.const (.int .u8 191)) (.tmp 154)⟩,
  ⟨(some 156), none, .pick (.tmp 152) (.const (.bool true)) (.tmp 155)⟩,
  ⟨(some 157), none, .mv (.tmp 156)⟩,
  ⟨(some 158), (some (157, false)), .mv (.tmp 0)⟩,
  ⟨(some 159), (some (157, false)), .idxS (.tmp 158) (.const (.int .i64 3))⟩,
  ⟨(some 160), (some (157, false)), .bin .lss (.tmp 159) (.const (.int .u8 128))⟩,
  ⟨(some 161), none, .pick (.tmp 157) (.const (.bool true)) (.tmp 160)⟩,
  ⟨(some 162), none, .mv (.tmp 161)⟩,
  ⟨(some 163), (some (162, false)), .mv (.tmp 0)⟩,
  ⟨(some 164), (some (162, false)), .idxS (.tmp 163) (.const (.int .i64 3))⟩,
  ⟨(some 165), (some (162, false)), .bin .lss (.const (.int .u8 191)) (.tmp 164)⟩,
  ⟨(some 166), none, .pick (.tmp 162) (.const (.bool true)) (.tmp 165)⟩]
def F99_65 : ICode := .region [
  ⟨(some 2), none, .mv (.const (.bool false))⟩]
def F99_66 : ICode := .seq F99_65 .ret
def F99_67 : ICode := .cond (.tmp 166) F99_66 .skip
def F99_68 : ICode := .keep [0, 166] F99_67
def F99_69 : ICode := .seq F99_64 F99_68
def F99_70 : ICode := .region [
  ⟨(some 167), none, .mv (.tmp 0)⟩,
  ⟨(some 168), none, .sliceS (.tmp 167) (some (.const (.int .i64 4))) none⟩,
  ⟨(some 0), none, .mv (.tmp 168)⟩]
def F99_71 : ICode := .keep [0] F99_70
def F99_72 : ICode := .seq F99_69 F99_71
def F99_73 : ICode := .region [
  ⟨(some 2), none, .mv (.const (.bool false))⟩]
def F99_74 : ICode := .seq F99_73 .ret
def F99_75 : ICode := .cond (.tmp 128) F99_72 F99_74
def F99_76 : ICode := .keep [0, 6, 128] F99_75
def F99_77 : ICode := .seq F99_63 F99_76
def F99_78 : ICode := .cond (.tmp 97) F99_62 F99_77
def F99_79 : ICode := .keep [0, 6, 75, 97] F99_78
def F99_80 : ICode := .seq F99_53 F99_79
def F99_81 : ICode := .cond (.tmp 76) F99_52 F99_80
def F99_82 : ICode := .keep [0, 6, 75, 76] F99_81
def F99_83 : ICode := .seq F99_43 F99_82
def F99_84 : ICode := .block 4 F99_83
def F99_85 : ICode := .keep [0, 6, 75] F99_84
def F99_86 : ICode := .seq F99_42 F99_85
def F99_87 : ICode := .keep [0, 5, 6] F99_86
def F99_88 : ICode := .seq F99_41 F99_87
def F99_89 : ICode := .keep [0, 4, 5] F99_88
def F99_90 : ICode := .seq F99_40 F99_89
def F99_91 : ICode := .keep [0, 4] F99_90
def F99_92 : ICode := .seq F99_39 F99_91
def F99_93 : ICode := .keep [0, 3] F99_92
def F99_94 : ICode := .seq F99_38 F99_93
def F99_95 : ICode := .keep [0, 3] F99_94
def F99_96 : ICode := .seq F99_5 F99_95
def F99_97 : ICode := .block 1 F99_96
def F99_98 : ICode := .keep [0] F99_97
def F99_99 : ICode := .seq F99_4 F99_98
def F99_100 : ICode := .loop [0] F99_99
def F99_101 : ICode := .block 0 F99_100
def F99_102 : ICode := .region [
  ⟨(some 2), none, .mv (.const (.bool true))⟩]
def F99_103 : ICode := .seq F99_102 .ret
def F99_104 : ICode := .keep [] F99_103
def F99_105 : ICode := .seq F99_101 F99_104
def F99_106 : ICode := .keep [0] F99_105
def F99_107 : ICode := .seq F99_0 F99_106
/-- unicode/utf8.ValidString -/
def F99 : IFunc := ⟨F99_107, [.tmp 2]⟩

def F100_0 : ICode := .region [
  ⟨(some 4), none, .mv (.const (.int .i64 0))⟩]
def F100_1 : ICode := .region [
  ⟨(some 6), none, .mv (.tmp 0)⟩,
  ⟨(some 7), none, .len false (.tmp 6)⟩,
  ⟨(some 8), none, .mv (.const (.int .i64 0))⟩]
def F100_2 : ICode := .region [
  ⟨(some 9), none, .bin .lss (.tmp 8) (.tmp 7)⟩]
def F100_3 : ICode := .cond (.tmp 9) .skip (.exit 0)
def F100_4 : ICode := .region [
  ⟨(some 10), none, .mv (.tmp 8)⟩,
  ⟨(some 5), none, .mv (.tmp 10)⟩]
def F100_5 : ICode := .region [
  ⟨(some 11), none, .mv (.tmp 1)⟩,
  ⟨(some 12), none, .mv (.tmp 0)⟩,
  ⟨(some 13), none, .mv (.tmp 5)⟩,
  ⟨(some 14), none, .idxA 5 none (.tmp 12) (.tmp 13)⟩,
  ⟨(some 15), none, .load (some 5) (.tmp 14)⟩,
  ⟨(some 16), none, .call .pure (.tmp 11) [(.tmp 15)]⟩]
def F100_6 : ICode := .region [
  ⟨(some 17), none, .mv (.tmp 5)⟩,
  ⟨(some 4), none, .mv (.tmp 17)⟩]
def F100_7 : ICode := .seq F100_6 .ret
def F100_8 : ICode := .cond (.tmp 16) F100_7 .skip
def F100_9 : ICode := .keep [0, 1, 5, 7, 8, 16] F100_8
def F100_10 : ICode := .seq F100_5 F100_9
def F100_11 : ICode := .keep [0, 1, 5, 7, 8] F100_10
def F100_12 : ICode := .seq F100_4 F100_11
def F100_13 : ICode := .block 1 F100_12
def F100_14 : ICode := .region [
  ⟨(some 18), none, .bin .add (.tmp 8) (.const (.int .i64 1))⟩,
  ⟨(some 8), none, .mv (.tmp 18)⟩]
def F100_15 : ICode := .keep [0, 1, 7, 8] F100_14
def F100_16 : ICode := .seq F100_13 F100_15
def F100_17 : ICode := .keep [0, 1, 7, 8] F100_16
def F100_18 : ICode := .seq F100_3 F100_17
def F100_19 : ICode := .keep [0, 1, 7, 8, 9] F100_18
def F100_20 : ICode := .seq F100_2 F100_19
def F100_21 : ICode := .loop [0, 1, 7, 8] F100_20
def F100_22 : ICode := .block 0 F100_21
def F100_23 : ICode := .keep [0, 1, 7, 8] F100_22
def F100_24 : ICode := .seq F100_1 F100_23
def F100_25 : ICode := .region [
  ⟨(some 4), none, .mv (.const (.int .i64 (-1)))⟩]
def F100_26 : ICode := .seq F100_25 .ret
def F100_27 : ICode := .keep [] F100_26
def F100_28 : ICode := .seq F100_24 F100_27
def F100_29 : ICode := .keep [0, 1] F100_28
def F100_30 : ICode := .seq F100_0 F100_29
/-- slices.IndexFunc[[]introit/api.Value,introit/api.Value] -/
def F100 : IFunc := ⟨F100_30, [.tmp 4]⟩

def F101_0 : ICode := .region [
  ⟨(some 4), none, .mv (.const (.int .i64 0))⟩]
def F101_1 : ICode := .region [
  ⟨(some 14), none, .mv (.tmp 1)⟩,
  ⟨(some 15), none, .len true (.tmp 14)⟩,
  ⟨(some 5), none, .mv (.tmp 15)⟩]
def F101_2 : ICode := .region [
  ⟨(some 17), none, .mv (.tmp 5)⟩,
  ⟨(some 18), none, .bin .eql (.tmp 17) (.const (.int .i64 0))⟩,
  ⟨(some 19), none, .mv (.tmp 18)⟩,
  ⟨(some 20), (some (19, false)), .mv (.tmp 1)⟩,
  ⟨(some 21), (some (19, false)), .mv (.tmp 0)⟩,
  ⟨(some 22), (some (19, false)), .bin .eql (.tmp 20) (.tmp 21)⟩,
  ⟨(some 23), none, .pick (.tmp 19) (.const (.bool true)) (.tmp 22)⟩,
  ⟨(some 16), none, .mv (.tmp 23)⟩]
def F101_3 : ICode := .region [
  ⟨(some 4), none, .mv (.const (.int .i64 0))⟩]
def F101_4 : ICode := .seq F101_3 .ret
def F101_5 : ICode := .region [
  ⟨(some 25), none, .mv (.tmp 5)⟩,
  ⟨(some 26), none, .bin .eql (.tmp 25) (.const (.int .i64 1))⟩,
  ⟨(some 24), none, .mv (.tmp 26)⟩]
def F101_6 : ICode := .region [
  ⟨(some 27), none, .mv (.tmp 0)⟩,
  ⟨(some 28), none, .mv (.tmp 1)⟩,
  ⟨(some 29), none, .idxS (.tmp 28) (.const (.int .i64 0))⟩,
  ⟨(some 30), none, .call .pure (.func 107) [(.tmp 27), (.tmp 29)]⟩,
  ⟨(some 4), none, .mv (.tmp 30)⟩]
def F101_7 : ICode := .seq F101_6 .ret
def F101_8 : ICode := .region [
  ⟨(some 32), none, .mv (.tmp 5)⟩,
  ⟨(some 33), none, .mv (.tmp 0)⟩,
  ⟨(some 34), none, .len true (.tmp 33)⟩,
  ⟨(some 35), none, .bin .geq (.tmp 32) (.tmp 34)⟩,
  ⟨(some 31), none, .mv (.tmp 35)⟩]
def F101_9 : ICode := .region [
  ⟨(some 4), none, .mv (.const (.int .i64 (-1)))⟩]
def F101_10 : ICode := .seq F101_9 .ret
def F101_11 : ICode := .region [
  ⟨(some 37), none, .mv (.tmp 5)⟩,
  ⟨(some 38), none, .load none (.glob 2)⟩,
  ⟨(some 39), none, .bin .leq (.tmp 37) (.tmp 38)⟩,
  ⟨(some 40), none, .mv (.tmp 39)⟩,
  ⟨(some 41), (some (40, true)), .mv (.tmp 0)⟩,
  ⟨(some 42), (some (40, true)), .len true (.tmp 41)⟩,
  ⟨(some 43), (some (40, true)), .bin .leq (.tmp 42) (.const (.int .i64 64))⟩,
  ⟨(some 44), none, .pick (.tmp 40) (.tmp 43) (.const (.bool false))⟩,
  ⟨(some 36), none, .mv (.tmp 44)⟩]
def F101_12 : ICode := .region [
  ⟨(some 45), none, .mv (.tmp 0)⟩,
  ⟨(some 46), none, .mv (.tmp 1)⟩,
  ⟨(some 47), none, .call .pure (.func 108) [(.tmp 45), (.tmp 46)]⟩,
  ⟨(some 4), none, .mv (.tmp 47)⟩]
def F101_13 : ICode := .seq F101_12 .ret
def F101_14 : ICode := .cond (.tmp 36) F101_13 .skip
def F101_15 : ICode := .keep [0, 1, 5, 36] F101_14
def F101_16 : ICode := .seq F101_11 F101_15
def F101_17 : ICode := .cond (.tmp 31) F101_10 F101_16
def F101_18 : ICode := .keep [0, 1, 5, 31] F101_17
def F101_19 : ICode := .seq F101_8 F101_18
def F101_20 : ICode := .cond (.tmp 24) F101_7 F101_19
def F101_21 : ICode := .keep [0, 1, 5, 24] F101_20
def F101_22 : ICode := .seq F101_5 F101_21
def F101_23 : ICode := .cond (.tmp 16) F101_4 F101_22
def F101_24 : ICode := .keep [0, 1, 5, 16] F101_23
def F101_25 : ICode := .seq F101_2 F101_24
def F101_26 : ICode := .block 0 F101_25
def F101_27 : ICode := .region [
  ⟨(some 48), none, .mv (.tmp 1)⟩,
  ⟨(some 49), none, .idxS (.tmp 48) (.const (.int .i64 0))⟩,
  ⟨(some 6), none, .mv (.tmp 49)⟩]
def F101_28 : ICode := .region [
  ⟨(some 50), none, .mv (.tmp 1)⟩,
  ⟨(some 51), none, .idxS (.tmp 50) (.const (.int .i64 1))⟩,
  ⟨(some 7), none, .mv (.tmp 51)⟩]
def F101_29 : ICode := .region [
  ⟨(some 8), none, .mv (.const (.int .i64 0))⟩]
def F101_30 : ICode := .region [
  ⟨(some 52), none, .mv (.tmp 0)⟩,
  ⟨(some 53), none, .len true (.tmp 52)⟩,
  ⟨(some 54), none, .mv (.tmp 5)⟩,
  ⟨(some 55), none, .bin .sub (.tmp 53) (.tmp 54)⟩,
  ⟨(some 56), none, .bin .add (.tmp 55) (.const (.int .i64 1))⟩,
  ⟨(some 9), none, .mv (.tmp 56)⟩]
def F101_31 : ICode := .region [
  ⟨(some 10), none, .mv (.const (.int .i64 0))⟩]
def F101_32 : ICode := .region [
  ⟨(some 57), none, .mv (.tmp 8)⟩,
  ⟨(some 58), none, .mv (.tmp 9)⟩,
  ⟨(some 59), none, .bin .lss (.tmp 57) (.tmp 58)⟩]
def F101_33 : ICode := .cond (.tmp 59) .skip (.exit 1)
def F101_34 : ICode := .keep [0, 1, 5, 6, 7, 8, 9, 10, 59] F101_33
def F101_35 : ICode := .seq F101_32 F101_34
def F101_36 : ICode := .region [
  ⟨(some 60), none, .mv (.tmp 0)⟩,
  ⟨(some 61), none, .mv (.tmp 8)⟩,
  ⟨(some 62), none, .idxS (.tmp 60) (.tmp 61)⟩,
  ⟨(some 63), none, .mv (.tmp 6)⟩,
  ⟨(some 64), none, .bin .neq (.tmp 62) (.tmp 63)⟩]
def F101_37 : ICode := .region [
  ⟨(some 65), none, .mv (.tmp 0)⟩,
  ⟨(some 66), none, .mv (.tmp 8)⟩,
  ⟨(some 67), none, .bin .add (.tmp 66) (.const (.int .i64 1))⟩,
  ⟨(some 68), none, .mv (.tmp 9)⟩,
  ⟨(some 69), none, .sliceS (.tmp 65) (some (.tmp 67)) (some (.tmp 68))⟩,
  ⟨(some 70), none, .mv (.tmp 6)⟩,
  ⟨(some 71), none, .call .pure (.func 107) [(.tmp 69), (.tmp 70)]⟩,
  ⟨(some 11), none, .mv (.tmp 71)⟩]
def F101_38 : ICode := .region [
  ⟨(some 72), none, .mv (.tmp 11)⟩,
  ⟨(some 73), none, .bin .lss (.tmp 72) (.const (.int .i64 0))⟩]
def F101_39 : ICode := .region [
  ⟨(some 4), none, .mv (.const (.int .i64 (-1)))⟩]
def F101_40 : ICode := .seq F101_39 .ret
def F101_41 : ICode := .cond (.tmp 73) F101_40 .skip
def F101_42 : ICode := .keep [0, 1, 5, 6, 7, 8, 9, 10, 11, 73] F101_41
def F101_43 : ICode := .seq F101_38 F101_42
def F101_44 : ICode := .region [
  ⟨(some 74), none, .mv (.tmp 8)⟩,
  ⟨(some 75), none, .mv (.tmp 11)⟩,
  ⟨(some 76), none, .bin .add (.tmp 75) (.const (.int .i64 1))⟩,
  ⟨(some 77), none, .bin .add (.tmp 74) (.tmp 76)⟩,
  ⟨(some 8), none, .mv (.tmp 77)⟩]
def F101_45 : ICode := .keep [0, 1, 5, 6, 7, 8, 9, 10, 11] F101_44
def F101_46 : ICode := .seq F101_43 F101_45
def F101_47 : ICode := .keep [0, 1, 5, 6, 7, 8, 9, 10, 11] F101_46
def F101_48 : ICode := .seq F101_37 F101_47
def F101_49 : ICode := .cond (.tmp 64) F101_48 .skip
def F101_50 : ICode := .keep [0, 1, 5, 6, 7, 8, 9, 10, 64] F101_49
def F101_51 : ICode := .seq F101_36 F101_50
def F101_52 : ICode := .region [
  ⟨(some 78), none, .mv (.tmp 0)⟩,
  ⟨(some 79), none, .mv (.tmp 8)⟩,
  ⟨(some 80), none, .bin .add (.tmp 79) (.const (.int .i64 1))⟩,
  ⟨(some 81), none, .idxS (.tmp 78) (.tmp 80)⟩,
  ⟨(some 82), none, .mv (.tmp 7)⟩,
  ⟨(some 83), none, .bin .eql (.tmp 81) (.tmp 82)⟩,
  ⟨(some 84), none, .mv (.tmp 83)⟩,
  ⟨(some 85), (some (84, true)), .mv (.tmp 0)⟩,
  ⟨(some 86), (some (84, true)), .mv (.tmp 8)⟩,
  ⟨(some 87), (some (84, true)), .mv (.tmp 8)⟩,
  ⟨(some 88), (some (84, true)), .mv (.tmp 5)⟩,
  ⟨(some 89), (some (84, true)), .bin .add (.tmp 87) (.tmp 88)⟩,
  ⟨(some 90), (some (84, true)), .sliceS (.tmp 85) (some (.tmp 86)) (some (.tmp 89))⟩,
  ⟨(some 91), (some (84, true)), .mv (.tmp 1)⟩,
  ⟨(some 92), (some (84, true)), .bin .eql (.tmp 90) (.tmp 91)⟩,
  ⟨(some 93), none, .pick (.tmp 84) (.tmp 92) (.const (.bool false))⟩]
def F101_53 : ICode := .region [
  ⟨(some 94), none, .mv (.tmp 8)⟩,
  ⟨(some 4), none, .mv (.tmp 94)⟩]
def F101_54 : ICode := .seq F101_53 .ret
def F101_55 : ICode := .cond (.tmp 93) F101_54 .skip
def F101_56 : ICode := .keep [0, 1, 5, 6, 7, 8, 9, 10, 93] F101_55
def F101_57 : ICode := .seq F101_52 F101_56
def F101_58 : ICode := .region [
  ⟨(some 95), none, .mv (.tmp 8)⟩,
  ⟨(some 96), none, .bin .add (.tmp 95) (.const (.int .i64 1))⟩,
  ⟨(some 8), none, .mv (.tmp 96)⟩]
def F101_59 : ICode := .region [
  ⟨(some 97), none, .mv (.tmp 10)⟩,
  ⟨(some 98), none, .bin .add (.tmp 97) (.const (.int .i64 1))⟩,
  ⟨(some 10), none, .mv (.tmp 98)⟩]
def F101_60 : ICode := .region [
  ⟨(some 99), none, .mv (.tmp 5)⟩,
  ⟨(some 100), none, .load none (.glob 2)⟩,
  ⟨(some 101), none, .bin .leq (.tmp 99) (.tmp 100)⟩,
  ⟨(some 102), none, .mv (.tmp 101)⟩,
  ⟨(some 103), (some (102, true)), .mv (.tmp 10)⟩,
  ⟨(some 104), (some (102, true)), .mv (.tmp 8)⟩,
  ⟨(some 105), (some (102, true)), .call .pure (.func 109) [(.tmp 104)]⟩,
  ⟨(some 106), (some (102, true)), .bin .gtr (.tmp 103) (.tmp 105)⟩,
  ⟨(some 107), none, .pick (.tmp 102) (.tmp 106) (.const (.bool false))⟩]
def F101_61 : ICode := .region [
  ⟨(some 108), none, .mv (.tmp 0)⟩,
  ⟨(some 109), none, .mv (.tmp 8)⟩,
  ⟨(some 110), none, .sliceS (.tmp 108) (some (.tmp 109)) none⟩,
  ⟨(some 111), none, .mv (.tmp 1)⟩,
  ⟨(some 112), none, .call .pure (.func 108) [(.tmp 110), (.tmp 111)]⟩,
  ⟨(some 12), none, .mv (.tmp 112)⟩]
def F101_62 : ICode := .region [
  ⟨(some 113), none, .mv (.tmp 12)⟩,
  ⟨(some 114), none, .bin .geq (.tmp 113) (.const (.int .i64 0))⟩]
def F101_63 : ICode := .region [
  ⟨(some 115), none, .mv (.tmp 12)⟩,
  ⟨(some 116), none, .mv (.tmp 8)⟩,
  ⟨(some 117), none, .bin .add (.tmp 115) (.tmp 116)⟩,
  ⟨(some 4), none, .mv (.tmp 117)⟩]
def F101_64 : ICode := .seq F101_63 .ret
def F101_65 : ICode := .cond (.tmp 114) F101_64 .skip
def F101_66 : ICode := .keep [8, 12, 114] F101_65
def F101_67 : ICode := .seq F101_62 F101_66
def F101_68 : ICode := .region [
  ⟨(some 4), none, .mv (.const (.int .i64 (-1)))⟩]
def F101_69 : ICode := .seq F101_68 .ret
def F101_70 : ICode := .keep [] F101_69
def F101_71 : ICode := .seq F101_67 F101_70
def F101_72 : ICode := .keep [8, 12] F101_71
def F101_73 : ICode := .seq F101_61 F101_72
def F101_74 : ICode := .region [
  ⟨(some 118), none, .mv (.tmp 5)⟩,
  ⟨(some 119), none, .load none (.glob 2)⟩,
  ⟨(some 120), none, .bin .gtr (.tmp 118) (.tmp 119)⟩,
  ⟨(some 121), none, .mv (.tmp 120)⟩,
  ⟨(some 122), (some (121, true)), .mv (.tmp 10)⟩,
  ⟨(some 123), (some (121, true)), .mv (.tmp 8)⟩,
  ⟨(some 124), (some (121, true)), .bin .shr (.tmp 123) (.const (.int .u64 4))⟩,
  ⟨(some 125), (some (121, true)), .bin .add (.const (.int .i64 4)) (.tmp 124)⟩,
  ⟨(some 126), (some (121, true)), .bin .geq (.tmp 122) (.tmp 125)⟩,
  ⟨(some 127), none, .pick (.tmp 121) (.tmp 126) (.const (.bool false))⟩,
  ⟨(some 128), none, .mv (.tmp 127)⟩,
  ⟨(some 129), (some (128, true)), .mv (.tmp 8)⟩,
  ⟨(some 130), (some (128, true)), .mv (.tmp 9)⟩,
  ⟨(some 131), (some (128, true)), .bin .lss (.tmp 129) (.tmp 130)⟩,
  ⟨(some 132), none, .pick (.tmp 128) (.tmp 131) (.const (.bool false))⟩]
def F101_75 : ICode := .region [
  ⟨(some 133), none, .mv (.tmp 0)⟩,
  ⟨(some 134), none, .mv (.tmp 8)⟩,
  ⟨(some 135), none, .sliceS (.tmp 133) (some (.tmp 134)) none⟩,
  ⟨(some 136), none, .mv (.tmp 1)⟩,
  ⟨(some 137), none, .call .pure (.func 110) [(.tmp 135), (.tmp 136)]⟩,
  ⟨(some 13), none, .mv (.tmp 137)⟩]
def F101_76 : ICode := .region [
  ⟨(some 138), none, .mv (.tmp 13)⟩,
  ⟨(some 139), none, .bin .lss (.tmp 138) (.const (.int .i64 0))⟩]
def F101_77 : ICode := .region [
  ⟨(some 4), none, .mv (.const (.int .i64 (-1)))⟩]
def F101_78 : ICode := .seq F101_77 .ret
def F101_79 : ICode := .cond (.tmp 139) F101_78 .skip
def F101_80 : ICode := .keep [8, 13, 139] F101_79
def F101_81 : ICode := .seq F101_76 F101_80
def F101_82 : ICode := .region [
  ⟨(some 140), none, .mv (.tmp 8)⟩,
  ⟨(some 141), none, .mv (.tmp 13)⟩,
  ⟨(some 142), none, .bin .add (.tmp 140) (.tmp 141)⟩,
  ⟨(some 4), none, .mv (.tmp 142)⟩]
def F101_83 : ICode := .seq F101_82 .ret
def F101_84 : ICode := .keep [8, 13] F101_83
def F101_85 : ICode := .seq F101_81 F101_84
def F101_86 : ICode := .keep [8, 13] F101_85
def F101_87 : ICode := .seq F101_75 F101_86
def F101_88 : ICode := .cond (.tmp 132) F101_87 .skip
def F101_89 : ICode := .keep [0, 1, 5, 6, 7, 8, 9, 10, 132] F101_88
def F101_90 : ICode := .seq F101_74 F101_89
def F101_91 : ICode := .cond (.tmp 107) F101_73 F101_90
def F101_92 : ICode := .keep [0, 1, 5, 6, 7, 8, 9, 10, 107] F101_91
def F101_93 : ICode := .seq F101_60 F101_92
def F101_94 : ICode := .keep [0, 1, 5, 6, 7, 8, 9, 10] F101_93
def F101_95 : ICode := .seq F101_59 F101_94
def F101_96 : ICode := .keep [0, 1, 5, 6, 7, 8, 9, 10] F101_95
def F101_97 : ICode := .seq F101_58 F101_96
def F101_98 : ICode := .keep [0, 1, 5, 6, 7, 8, 9, 10] F101_97
def F101_99 : ICode := .seq F101_57 F101_98
def F101_100 : ICode := .keep [0, 1, 5, 6, 7, 8, 9, 10] F101_99
def F101_101 : ICode := .seq F101_51 F101_100
def F101_102 : ICode := .block 2 F101_101
def F101_103 : ICode := .keep [0, 1, 5, 6, 7, 8, 9, 10] F101_102
def F101_104 : ICode := .seq F101_35 F101_103
def F101_105 : ICode := .loop [0, 1, 5, 6, 7, 8, 9, 10] F101_104
def F101_106 : ICode := .block 1 F101_105
def F101_107 : ICode := .region [
  ⟨(some 4), none, .mv (.const (.int .i64 (-1)))⟩]
def F101_108 : ICode := .seq F101_107 .ret
def F101_109 : ICode := .keep [] F101_108
def F101_110 : ICode := .seq F101_106 F101_109
def F101_111 : ICode := .keep [0, 1, 5, 6, 7, 8, 9, 10] F101_110
def F101_112 : ICode := .seq F101_31 F101_111
def F101_113 : ICode := .keep [0, 1, 5, 6, 7, 8, 9] F101_112
def F101_114 : ICode := .seq F101_30 F101_113
def F101_115 : ICode := .keep [0, 1, 5, 6, 7, 8] F101_114
def F101_116 : ICode := .seq F101_29 F101_115
def F101_117 : ICode := .keep [0, 1, 5, 6, 7] F101_116
def F101_118 : ICode := .seq F101_28 F101_117
def F101_119 : ICode := .keep [0, 1, 5, 6] F101_118
def F101_120 : ICode := .seq F101_27 F101_119
def F101_121 : ICode := .keep [0, 1, 5] F101_120
def F101_122 : ICode := .seq F101_26 F101_121
def F101_123 : ICode := .keep [0, 1, 5] F101_122
def F101_124 : ICode := .seq F101_1 F101_123
def F101_125 : ICode := .keep [0, 1] F101_124
def F101_126 : ICode := .seq F101_0 F101_125
/-- internal/stringslite.Index -/
def F101 : IFunc := ⟨F101_126, [.tmp 4]⟩

def F102_0 : ICode := .region [
  ⟨(some 4), none, .mv (.const (.int .i64 0))⟩]
def F102_1 : ICode := .region [
  ⟨(some 5), none, .mv (.tmp 0)⟩,
  ⟨(some 6), none, .mv (.tmp 1)⟩,
  ⟨(some 7), none, .call .pure (.func 107) [(.tmp 5), (.tmp 6)]⟩,
  ⟨(some 4), none, .mv (.tmp 7)⟩]
def F102_2 : ICode := .seq F102_1 .ret
def F102_3 : ICode := .keep [0, 1] F102_2
def F102_4 : ICode := .seq F102_0 F102_3
/-- strings.IndexByte -/
def F102 : IFunc := ⟨F102_4, [.tmp 4]⟩

def F103_0 : ICode := .region [
  ⟨(some 2), none, .mv (.const (.int .i64 0))⟩]
def F103_1 : ICode := .region [
  ⟨(some 3), none, .mv (.const (.int .i64 0))⟩]
def F103_2 : ICode := .region [
  ⟨(some 4), none, .mv (.const (.int .i64 0))⟩]
def F103_3 : ICode := .region [
  ⟨(some 7), none, .mv (.tmp 4)⟩,
  ⟨(some 8), none, .mv (.tmp 0)⟩,
  ⟨(some 9), none, .len true (.tmp 8)⟩,
  ⟨(some 10), none, .bin .lss (.tmp 7) (.tmp 9)⟩]
def F103_4 : ICode := .cond (.tmp 10) .skip (.exit 0)
def F103_5 : ICode := .keep [0, 3, 4, 10] F103_4
def F103_6 : ICode := .seq F103_3 F103_5
def F103_7 : ICode := .region [
  ⟨(some 12), none, .mv (.tmp 0)⟩,
  ⟨(some 13), none, .mv (.tmp 4)⟩,
  ⟨(some 14), none, .sliceS (.tmp 12) (some (.tmp 13)) none⟩,
  ⟨(some 15), none, .call .pure (.func 111) [(.tmp 14)]⟩,
  ⟨(some 11), none, .mv (.tmp 15)⟩,
  ⟨(some 16), none, .extract (.tmp 11) 0⟩,
  ⟨(some 17), none, .extract (.tmp 11) 1⟩,
  ⟨(some 5), none, .mv (.tmp 16)⟩,
  ⟨(some 6), none, .mv (.tmp 17)⟩]
def F103_8 : ICode := .region [
  ⟨(some 18), none, .mv (.tmp 6)⟩,
  ⟨(some 19), none, .bin .eql (.tmp 18) (.const (.int .i64 0))⟩]
def F103_9 : ICode := .region [
  ⟨(some 2), none, .mv (.const (.int .i64 (-1)))⟩]
def F103_10 : ICode := .seq F103_9 .ret
def F103_11 : ICode := .cond (.tmp 19) F103_10 .skip
def F103_12 : ICode := .keep [0, 3, 4, 6, 19] F103_11
def F103_13 : ICode := .seq F103_8 F103_12
def F103_14 : ICode := .region [
  ⟨(some 20), none, .mv (.tmp 4)⟩,
  ⟨(some 21), none, .mv (.tmp 6)⟩,
  ⟨(some 22), none, .bin .add (.tmp 20) (.tmp 21)⟩,
  ⟨(some 4), none, .mv (.tmp 22)⟩]
def F103_15 : ICode := .region [
  ⟨(some 23), none, .mv (.tmp 3)⟩,
  ⟨(some 24), none, .bin .add (.tmp 23) (.const (.int .i64 1))⟩,
  ⟨(some 3), none, .mv (.tmp 24)⟩]
def F103_16 : ICode := .keep [0, 3, 4] F103_15
def F103_17 : ICode := .seq F103_14 F103_16
def F103_18 : ICode := .keep [0, 3, 4, 6] F103_17
def F103_19 : ICode := .seq F103_13 F103_18
def F103_20 : ICode := .keep [0, 3, 4, 6] F103_19
def F103_21 : ICode := .seq F103_7 F103_20
def F103_22 : ICode := .block 1 F103_21
def F103_23 : ICode := .keep [0, 3, 4] F103_22
def F103_24 : ICode := .seq F103_6 F103_23
def F103_25 : ICode := .loop [0, 3, 4] F103_24
def F103_26 : ICode := .block 0 F103_25
def F103_27 : ICode := .keep [0, 3, 4] F103_26
def F103_28 : ICode := .seq F103_2 F103_27
def F103_29 : ICode := .region [
  ⟨(some 25), none, .mv (.tmp 3)⟩,
  ⟨(some 2), none, .mv (.tmp 25)⟩]
def F103_30 : ICode := .seq F103_29 .ret
def F103_31 : ICode := .keep [3] F103_30
def F103_32 : ICode := .seq F103_28 F103_31
def F103_33 : ICode := .keep [0, 3] F103_32
def F103_34 : ICode := .seq F103_1 F103_33
def F103_35 : ICode := .keep [0] F103_34
def F103_36 : ICode := .seq F103_0 F103_35
/-- introit/introitref1.Runes -/
def F103 : IFunc := ⟨F103_36, [.tmp 2]⟩

def F104_0 : ICode := .region [
  ⟨(some 2), none, .mv (.const (.bool false))⟩]
def F104_1 : ICode := .region [
  ⟨(some 3), none, .mv (.tmp 0)⟩,
  ⟨(some 4), none, .bin .geq (.tmp 3) (.const (.int .u8 97))⟩,
  ⟨(some 5), none, .mv (.tmp 4)⟩,
  ⟨(some 6), (some (5, true)), .mv (.tmp 0)⟩,
  ⟨(some 7), (some (5, true)), .bin .leq (.tmp 6) (.const (.int .u8 122))⟩,
  ⟨(some 8), none, .pick (.tmp 5) (.tmp 7) (.const (.bool false))⟩,
  ⟨(some 9), none, .mv (.tmp 8)⟩,
  ⟨(some 10), (some (9, false)), .mv (.tmp 0)⟩,
  ⟨(some 11), (some (9, false)), .bin .geq (.tmp 10) (.const (.int .u8 65))⟩,
  ⟨(some 12), (some (9, false)), .mv (.tmp 11)⟩,
  ⟨(some 13), (some (12, true)), .mv (.tmp 0)⟩,
  ⟨(some 14), (some (12, true)), .bin .leq (.tmp 13) (.const (.int .u8 90))⟩,
  ⟨(some 15), (some (9, false)), .pick (.tmp 12) (.tmp 14) (.const (.bool false))⟩,
  ⟨(some 16), none, .pick (.tmp 9) (.const (.bool true)) (.tmp 15)⟩,
  ⟨(some 2), none, .mv (.tmp 16)⟩]
def F104_2 : ICode := .seq F104_1 .ret
def F104_3 : ICode := .keep [0] F104_2
def F104_4 : ICode := .seq F104_0 F104_3
/-- introit/introitref1.letter -/
def F104 : IFunc := ⟨F104_4, [.tmp 2]⟩

def F105_0 : ICode := .region [
  ⟨(some 2), none, .mv (.const (.bool false))⟩]
def F105_1 : ICode := .region [
  ⟨(some 3), none, .mv (.tmp 0)⟩,
  ⟨(some 4), none, .bin .geq (.tmp 3) (.const (.int .u8 48))⟩,
  ⟨(some 5), none, .mv (.tmp 4)⟩,
  ⟨(some 6), (some (5, true)), .mv (.tmp 0)⟩,
  ⟨(some 7), (some (5, true)), .bin .leq (.tmp 6) (.const (.int .u8 57))⟩,
  ⟨(some 8), none, .pick (.tmp 5) (.tmp 7) (.const (.bool false))⟩,
  ⟨(some 2), none, .mv (.tmp 8)⟩]
def F105_2 : ICode := .seq F105_1 .ret
def F105_3 : ICode := .keep [0] F105_2
def F105_4 : ICode := .seq F105_0 F105_3
/-- introit/introitref1.digit -/
def F105 : IFunc := ⟨F105_4, [.tmp 2]⟩

def F106_0 : ICode := .region [
  ⟨(some 2), none, .mv (.const (.int .u64 0))⟩]
def F106_1 : ICode := .region [
  ⟨(some 3), none, .mv (.tmp 0)⟩,
  ⟨(some 4), none, .idxS (.tmp 3) (.const (.int .i64 0))⟩,
  ⟨(some 5), none, .conv (.int .u64) (.tmp 4)⟩,
  ⟨(some 6), none, .mv (.tmp 0)⟩,
  ⟨(some 7), none, .idxS (.tmp 6) (.const (.int .i64 1))⟩,
  ⟨(some 8), none, .conv (.int .u64) (.tmp 7)⟩,
  ⟨(some 9), none, .bin .shl (.tmp 8) (.const (.int .u64 8))⟩,
  ⟨(some 10), none, .bin .or (.tmp 5) (.tmp 9)⟩,
  ⟨(some 11), none, .mv (.tmp 0)⟩,
  ⟨(some 12), none, .idxS (.tmp 11) (.const (.int .i64 2))⟩,
  ⟨(some 13), none, .conv (.int .u64) (.tmp 12)⟩,
  ⟨(some 14), none, .bin .shl (.tmp 13) (.const (.int .u64 16))⟩,
  ⟨(some 15), none, .bin .or (.tmp 10) (.tmp 14)⟩,
  ⟨(some 16), none, .mv (.tmp 0)⟩,
  ⟨(some 17), none, .idxS (.tmp 16) (.const (.int .i64 3))⟩,
  ⟨(some 18), none, .conv (.int .u64) (.tmp 17)⟩,
  ⟨(some 19), none, .bin .shl (.tmp 18) (.const (.int .u64 24))⟩,
  ⟨(some 20), none, .bin .or (.tmp 15) (.tmp 19)⟩,
  ⟨(some 2), none, .mv (.tmp 20)⟩]
def F106_2 : ICode := .seq F106_1 .ret
def F106_3 : ICode := .cond (.const (.bool false)) F106_2 .skip
def F106_4 : ICode := .region [
  ⟨(some 21), none, .mv (.tmp 0)⟩,
  ⟨(some 22), none, .idxS (.tmp 21) (.const (.int .i64 0))⟩,
  ⟨(some 23), none, .conv (.int .u64) (.tmp 22)⟩,
  ⟨(some 24), none, .mv (.tmp 0)⟩,
  ⟨(some 25), none, .idxS (.tmp 24) (.const (.int .i64 1))⟩,
  ⟨(some 26), none, .conv (.int .u64) (.tmp 25)⟩,
  ⟨(some 27), none, .bin .shl (.tmp 26) (.const (.int .u64 8))⟩,
  ⟨(some 28), none, .bin .or (.tmp 23) (.tmp 27)⟩,
  ⟨(some 29), none, .mv (.tmp 0)⟩,
  ⟨(some 30), none, .idxS (.tmp 29) (.const (.int .i64 2))⟩,
  ⟨(some 31), none, .conv (.int .u64) (.tmp 30)⟩,
  ⟨(some 32), none, .bin .shl (.tmp 31) (.const (.int .u64 16))⟩,
  ⟨(some 33), none, .bin .or (.tmp 28) (.tmp 32)⟩,
  ⟨(some 34), none, .mv (.tmp 0)⟩,
  ⟨(some 35), none, .idxS (.tmp 34) (.const (.int .i64 3))⟩,
  ⟨(some 36), none, .conv (.int .u64) (.tmp 35)⟩,
  ⟨(some 37), none, .bin .shl (.tmp 36) (.const (.int .u64 24))⟩,
  ⟨(some 38), none, .bin .or (.tmp 33) (.tmp 37)⟩,
  ⟨(some 39), none, .mv (.tmp 0)⟩,
  ⟨(some 40), none, .idxS (.tmp 39) (.const (.int .i64 4))⟩,
  ⟨(some 41), none, .conv (.int .u64) (.tmp 40)⟩,
  ⟨(some 42), none, .bin .shl (.tmp 41) (.const (.int .u64 32))⟩,
  ⟨(some 43), none, .bin .or (.tmp 38) (.tmp 42)⟩,
  ⟨(some 44), none, .mv (.tmp 0)⟩,
  ⟨(some 45), none, .idxS (.tmp 44) (.const (.int .i64 5))⟩,
  ⟨(some 46), none, .conv (.int .u64) (.tmp 45)⟩,
  ⟨(some 47), none, .bin .shl (.tmp 46) (.const (.int .u64 40))⟩,
  ⟨(some 48), none, .bin .or (.tmp 43) (.tmp 47)⟩,
  ⟨(some 49), none, .mv (.tmp 0)⟩,
  ⟨(some 50), none, .idxS (.tmp 49) (.const (.int .i64 6))⟩,
  ⟨(some 51), none, .conv (.int .u64) (.tmp 50)⟩,
  ⟨(some 52), none, .bin .shl (.tmp 51) (.const (.int .u64 48))⟩,
  ⟨(some 53), none, .bin .or (.tmp 48) (.tmp 52)⟩,
  ⟨(some 54), none, .mv (.tmp 0)⟩,
  ⟨(some 55), none, .idxS (.tmp 54) (.const (.int .i64 7))⟩,
  ⟨(some 56), none, .conv (.int .u64) (.tmp 55)⟩,
  ⟨(some 57), none, .bin .shl (.tmp 56) (.const (.int .u64 56))⟩,
  ⟨(some 58), none, .bin .or (.tmp 53) (.tmp 57)⟩,
  ⟨(some 2), none, .mv (.tmp 58)⟩]
def F106_5 : ICode := .seq F106_4 .ret
def F106_6 : ICode := .keep [0] F106_5
def F106_7 : ICode := .seq F106_3 F106_6
def F106_8 : ICode := .keep [0] F106_7
def F106_9 : ICode := .seq F106_0 F106_8
/-- unicode/utf8.word[string] -/
def F106 : IFunc := ⟨F106_9, [.tmp 2]⟩

def F107_0 : ICode := .region [
  ⟨(some 4), none, .mv (.const (.int .i64 0))⟩]
def F107_1 : ICode := .region [
  ⟨(some 5), none, .mv (.tmp 0)⟩,
  ⟨(some 6), none, .mv (.tmp 1)⟩,
  ⟨(some 7), none, .ext .idxByte [(.tmp 5), (.tmp 6)]⟩,
  ⟨(some 4), none, .mv (.tmp 7)⟩]
def F107_2 : ICode := .seq F107_1 .ret
def F107_3 : ICode := .keep [0, 1] F107_2
def F107_4 : ICode := .seq F107_0 F107_3
/-- internal/stringslite.IndexByte -/
def F107 : IFunc := ⟨F107_4, [.tmp 4]⟩

def F109_0 : ICode := .region [
  ⟨(some 2), none, .mv (.const (.int .i64 0))⟩]
def F109_1 : ICode := .region [
  ⟨(some 3), none, .mv (.tmp 0)⟩,
  ⟨(some 4), none, .bin .add (.tmp 3) (.const (.int .i64 16))⟩,
  ⟨(some 5), none, .bin .quo (.tmp 4) (.const (.int .i64 8))⟩,
  ⟨(some 2), none, .mv (.tmp 5)⟩]
def F109_2 : ICode := .seq F109_1 .ret
def F109_3 : ICode := .keep [0] F109_2
def F109_4 : ICode := .seq F109_0 F109_3
/-- internal/bytealg.Cutover -/
def F109 : IFunc := ⟨F109_4, [.tmp 2]⟩

def F110_0 : ICode := .region [
  ⟨(some 4), none, .mv (.const (.int .i64 0))⟩]
def F110_1 : ICode := .region [
  ⟨(some 12), none, .mv (.tmp 1)⟩,
  ⟨(some 13), none, .call .pure (.func 112) [(.tmp 12)]⟩,
  ⟨(some 11), none, .mv (.tmp 13)⟩,
  ⟨(some 14), none, .extract (.tmp 11) 0⟩,
  ⟨(some 15), none, .extract (.tmp 11) 1⟩,
  ⟨(some 5), none, .mv (.tmp 14)⟩,
  ⟨(some 6), none, .mv (.tmp 15)⟩]
def F110_2 : ICode := .region [
  ⟨(some 16), none, .mv (.tmp 1)⟩,
  ⟨(some 17), none, .len true (.tmp 16)⟩,
  ⟨(some 7), none, .mv (.tmp 17)⟩]
def F110_3 : ICode := .region [
  ⟨(some 8), none, .mv (.const (.int .u32 0))⟩]
def F110_4 : ICode := .region [
  ⟨(some 9), none, .mv (.const (.int .i64 0))⟩]
def F110_5 : ICode := .region [
  ⟨(some 18), none, .mv (.tmp 9)⟩,
  ⟨(some 19), none, .mv (.tmp 7)⟩,
  ⟨(some 20), none, .bin .lss (.tmp 18) (.tmp 19)⟩]
def F110_6 : ICode := .cond (.tmp 20) .skip (.exit 0)
def F110_7 : ICode := .keep [0, 1, 5, 6, 7, 8, 9, 20] F110_6
def F110_8 : ICode := .seq F110_5 F110_7
def F110_9 : ICode := .region [
  ⟨(some 23), none, .mv (.tmp 8)⟩,
  ⟨(some 24), none, .bin .mul (.tmp 23) (.const (.int .u32 16777619))⟩,
  ⟨(some 25), none, .mv (.tmp 0)⟩,
  ⟨(some 26), none, .mv (.tmp 9)⟩,
  ⟨(some 27), none, .idxS (.tmp 25) (.tmp 26)⟩,
  ⟨(some 28), none, .conv (.int .u32) (.tmp 27)⟩,
  ⟨(some 29), none, .bin .add (.tmp 24) (.tmp 28)⟩,
  ⟨(some 8), none, .mv (.tmp 29)⟩]
def F110_10 : ICode := .block 1 F110_9
def F110_11 : ICode := .region [
  ⟨(some 21), none, .mv (.tmp 9)⟩,
  ⟨(some 22), none, .bin .add (.tmp 21) (.const (.int .i64 1))⟩,
  ⟨(some 9), none, .mv (.tmp 22)⟩]
def F110_12 : ICode := .keep [0, 1, 5, 6, 7, 8, 9] F110_11
def F110_13 : ICode := .seq F110_10 F110_12
def F110_14 : ICode := .keep [0, 1, 5, 6, 7, 8, 9] F110_13
def F110_15 : ICode := .seq F110_8 F110_14
def F110_16 : ICode := .loop [0, 1, 5, 6, 7, 8, 9] F110_15
def F110_17 : ICode := .block 0 F110_16
def F110_18 : ICode := .keep [0, 1, 5, 6, 7, 8, 9] F110_17
def F110_19 : ICode := .seq F110_4 F110_18
def F110_20 : ICode := .region [
  ⟨(some 30), none, .mv (.tmp 8)⟩,
  ⟨(some 31), none, .mv (.tmp 5)⟩,
  ⟨(some 32), none, .bin .eql (.tmp 30) (.tmp 31)⟩,
  ⟨(some 33), none, .mv (.tmp 32)⟩,
  ⟨(some 34), (some (33, true)), .mv (.tmp 0)⟩,
  ⟨(some 35), (some (33, true)), .mv (.tmp 7)⟩,
  ⟨(some 36), (some (33, true)), .sliceS (.tmp 34) none (some (.tmp 35))⟩,
  ⟨(some 37), (some (33, true)), .mv (.tmp 1)⟩,
  ⟨(some 38), (some (33, true)), .bin .eql (.tmp 36) (.tmp 37)⟩,
  ⟨(some 39), none, .pick (.tmp 33) (.tmp 38) (.const (.bool false))⟩]
def F110_21 : ICode := .region [
  ⟨(some 4), none, .mv (.const (.int .i64 0))⟩]
def F110_22 : ICode := .seq F110_21 .ret
def F110_23 : ICode := .cond (.tmp 39) F110_22 .skip
def F110_24 : ICode := .keep [0, 1, 5, 6, 7, 8, 39] F110_23
def F110_25 : ICode := .seq F110_20 F110_24
def F110_26 : ICode := .region [
  ⟨(some 40), none, .mv (.tmp 7)⟩,
  ⟨(some 10), none, .mv (.tmp 40)⟩]
def F110_27 : ICode := .region [
  ⟨(some 41), none, .mv (.tmp 10)⟩,
  ⟨(some 42), none, .mv (.tmp 0)⟩,
  ⟨(some 43), none, .len true (.tmp 42)⟩,
  ⟨(some 44), none, .bin .lss (.tmp 41) (.tmp 43)⟩]
def F110_28 : ICode := .cond (.tmp 44) .skip (.exit 2)
def F110_29 : ICode := .keep [0, 1, 5, 6, 7, 8, 10, 44] F110_28
def F110_30 : ICode := .seq F110_27 F110_29
def F110_31 : ICode := .region [
  ⟨(some 45), none, .mv (.tmp 8)⟩,
  ⟨(some 46), none, .bin .mul (.tmp 45) (.const (.int .u32 16777619))⟩,
  ⟨(some 8), none, .mv (.tmp 46)⟩]
def F110_32 : ICode := .region [
  ⟨(some 47), none, .mv (.tmp 8)⟩,
  ⟨(some 48), none, .mv (.tmp 0)⟩,
  ⟨(some 49), none, .mv (.tmp 10)⟩,
  ⟨(some 50), none, .idxS (.tmp 48) (.tmp 49)⟩,
  ⟨(some 51), none, .conv (.int .u32) (.tmp 50)⟩,
  ⟨(some 52), none, .bin .add (.tmp 47) (.tmp 51)⟩,
  ⟨(some 8), none, .mv (.tmp 52)⟩]
def F110_33 : ICode := .region [
  ⟨(some 53), none, .mv (.tmp 8)⟩,
  ⟨(some 54), none, .mv (.tmp 6)⟩,
  ⟨(some 55), none, .mv (.tmp 0)⟩,
  ⟨(some 56), none, .mv (.tmp 10)⟩,
  ⟨(some 57), none, .mv (.tmp 7)⟩,
  ⟨(some 58), none, .bin .sub (.tmp 56) (.tmp 57)⟩,
  ⟨(some 59), none, .idxS (.tmp 55) (.tmp 58)⟩,
  ⟨(some 60), none, .conv (.int .u32) (.tmp 59)⟩,
  ⟨(some 61), none, .bin .mul (.tmp 54) (.tmp 60)⟩,
  ⟨(some 62), none, .bin .sub (.tmp 53) (.tmp 61)⟩,
  ⟨(some 8), none, .mv (.tmp 62)⟩]
def F110_34 : ICode := .region [
  ⟨(some 63), none, .mv (.tmp 10)⟩,
  ⟨(some 64), none, .bin .add (.tmp 63) (.const (.int .i64 1))⟩,
  ⟨(some 10), none, .mv (.tmp 64)⟩]
def F110_35 : ICode := .region [
  ⟨(some 65), none, .mv (.tmp 8)⟩,
  ⟨(some 66), none, .mv (.tmp 5)⟩,
  ⟨(some 67), none, .bin .eql (.tmp 65) (.tmp 66)⟩,
  ⟨(some 68), none, .mv (.tmp 67)⟩,
  ⟨(some 69), (some (68, true)), .mv (.tmp 0)⟩,
  ⟨(some 70), (some (68, true)), .mv (.tmp 10)⟩,
  ⟨(some 71), (some (68, true)), .mv (.tmp 7)⟩,
  ⟨(some 72), (some (68, true)), .bin .sub (.tmp 70) (.tmp 71)⟩,
  ⟨(some 73), (some (68, true)), .mv (.tmp 10)⟩,
  ⟨(some 74), (some (68, true)), .sliceS (.tmp 69) (some (.tmp 72)) (some (.tmp 73))⟩,
  ⟨(some 75), (some (68, true)), .mv (.tmp 1)⟩,
  ⟨(some 76), (some (68, true)), .bin .eql (.tmp 74) (.tmp 75)⟩,
  ⟨(some 77), none, .pick (.tmp 68) (.tmp 76) (.const (.bool false))⟩]
def F110_36 : ICode := .region [
  ⟨(some 78), none, .mv (.tmp 10)⟩,
  ⟨(some 79), none, .mv (.tmp 7)⟩,
  ⟨(some 80), none, .bin .sub (.tmp 78) (.tmp 79)⟩,
  ⟨(some 4), none, .mv (.tmp 80)⟩]
def F110_37 : ICode := .seq F110_36 .ret
def F110_38 : ICode := .cond (.tmp 77) F110_37 .skip
def F110_39 : ICode := .keep [0, 1, 5, 6, 7, 8, 10, 77] F110_38
def F110_40 : ICode := .seq F110_35 F110_39
def F110_41 : ICode := .keep [0, 1, 5, 6, 7, 8, 10] F110_40
def F110_42 : ICode := .seq F110_34 F110_41
def F110_43 : ICode := .keep [0, 1, 5, 6, 7, 8, 10] F110_42
def F110_44 : ICode := .seq F110_33 F110_43
def F110_45 : ICode := .keep [0, 1, 5, 6, 7, 8, 10] F110_44
def F110_46 : ICode := .seq F110_32 F110_45
def F110_47 : ICode := .keep [0, 1, 5, 6, 7, 8, 10] F110_46
def F110_48 : ICode := .seq F110_31 F110_47
def F110_49 : ICode := .block 3 F110_48
def F110_50 : ICode := .keep [0, 1, 5, 6, 7, 8, 10] F110_49
def F110_51 : ICode := .seq F110_30 F110_50
def F110_52 : ICode := .loop [0, 1, 5, 6, 7, 8, 10] F110_51
def F110_53 : ICode := .block 2 F110_52
def F110_54 : ICode := .keep [0, 1, 5, 6, 7, 8, 10] F110_53
def F110_55 : ICode := .seq F110_26 F110_54
def F110_56 : ICode := .region [
  ⟨(some 4), none, .mv (.const (.int .i64 (-1)))⟩]
def F110_57 : ICode := .seq F110_56 .ret
def F110_58 : ICode := .keep [] F110_57
def F110_59 : ICode := .seq F110_55 F110_58
def F110_60 : ICode := .keep [0, 1, 5, 6, 7, 8] F110_59
def F110_61 : ICode := .seq F110_25 F110_60
def F110_62 : ICode := .keep [0, 1, 5, 6, 7, 8] F110_61
def F110_63 : ICode := .seq F110_19 F110_62
def F110_64 : ICode := .keep [0, 1, 5, 6, 7, 8] F110_63
def F110_65 : ICode := .seq F110_3 F110_64
def F110_66 : ICode := .keep [0, 1, 5, 6, 7] F110_65
def F110_67 : ICode := .seq F110_2 F110_66
def F110_68 : ICode := .keep [0, 1, 5, 6] F110_67
def F110_69 : ICode := .seq F110_1 F110_68
def F110_70 : ICode := .keep [0, 1] F110_69
def F110_71 : ICode := .seq F110_0 F110_70
/-- internal/bytealg.IndexRabinKarp[string] -/
def F110 : IFunc := ⟨F110_71, [.tmp 4]⟩

def F111_0 : ICode := .region [
  ⟨(some 2), none, .mv (.const (.int .i64 0))⟩,
  ⟨(some 3), none, .mv (.const (.int .i64 0))⟩]
def F111_1 : ICode := .region [
  ⟨(some 8), none, .mv (.tmp 0)⟩,
  ⟨(some 9), none, .len true (.tmp 8)⟩,
  ⟨(some 10), none, .bin .eql (.tmp 9) (.const (.int .i64 0))⟩]
def F111_2 : ICode := .region [
  ⟨(some 2), none, .mv (.const (.int .i64 0))⟩,
  ⟨(some 3), none, .mv (.const (.int .i64 0))⟩]
def F111_3 : ICode := .seq F111_2 .ret
def F111_4 : ICode := .cond (.tmp 10) F111_3 .skip
def F111_5 : ICode := .keep [0, 10] F111_4
def F111_6 : ICode := .seq F111_1 F111_5
def F111_7 : ICode := .region [
  ⟨(some 11), none, .mv (.tmp 0)⟩,
  ⟨(some 12), none, .idxS (.tmp 11) (.const (.int .i64 0))⟩,
  ⟨(some 13), none, .conv (.int .i64) (.tmp 12)⟩,
  ⟨(some 4), none, .mv (.tmp 13)⟩]
def F111_8 : ICode := .region [
  ⟨(some 5), none, .mv (.const (.int .i64 1))⟩,
  ⟨(some 6), none, .mv (.const (.int .i64 0))⟩]
def F111_9 : ICode := .region [
  ⟨(some 15), none, .mv (.tmp 4)⟩,
  ⟨(some 16), none, .bin .lss (.tmp 15) (.const (.int .i64 128))⟩,
  ⟨(some 14), none, .mv (.tmp 16)⟩]
def F111_10 : ICode := .region [
  ⟨(some 17), none, .mv (.tmp 4)⟩,
  ⟨(some 2), none, .mv (.tmp 17)⟩,
  ⟨(some 3), none, .mv (.const (.int .i64 1))⟩]
def F111_11 : ICode := .seq F111_10 .ret
def F111_12 : ICode := .region [
  ⟨(some 19), none, .mv (.tmp 4)⟩,
  ⟨(some 20), none, .bin .geq (.tmp 19) (.const (.int .i64 194))⟩,
  ⟨(some 21), none, .mv (.tmp 20)⟩,
  ⟨(some 22), (some (21, true)), .mv (.tmp 4)⟩,
  ⟨(some 23), (some (21, true)), .bin .lss (.tmp 22) (.const (.int .i64 224))⟩,
  ⟨(some 24), none, .pick (.tmp 21) (.tmp 23) (.const (.bool false))⟩,
  ⟨(some 18), none, .mv (.tmp 24)⟩]
def F111_13 : ICode := .region [
  ⟨(some 25), none, .mv (.tmp 4)⟩,
  ⟨(some 26), none, .bin .and (.tmp 25) (.const (.int .i64 31))⟩,
  ⟨(some 5), none, .mv (.const (.int .i64 2))⟩,
  ⟨(some 6), none, .mv (.const (.int .i64 128))⟩,
  ⟨(some 4), none, .mv (.tmp 26)⟩]
def F111_14 : ICode := .region [
  ⟨(some 28), none, .mv (.tmp 4)⟩,
  ⟨(some 29), none, .bin .geq (.tmp 28) (.const (.int .i64 224))⟩,
  ⟨(some 30), none, .mv (.tmp 29)⟩,
  ⟨(some 31), (some (30, true)), .mv (.tmp 4)⟩,
  ⟨(some 32), (some (30, true)), .bin .lss (.tmp 31) (.const (.int .i64 240))⟩,
  ⟨(some 33), none, .pick (.tmp 30) (.tmp 32) (.const (.bool false))⟩,
  ⟨(some 27), none, .mv (.tmp 33)⟩]
def F111_15 : ICode := .region [
  ⟨(some 34), none, .mv (.tmp 4)⟩,
  ⟨(some 35), none, .bin .and (.tmp 34) (.const (.int .i64 15))⟩,
  ⟨(some 5), none, .mv (.const (.int .i64 3))⟩,
  ⟨(some 6), none, .mv (.const (.int .i64 2048))⟩,
  ⟨(some 4), none, .mv (.tmp 35)⟩]
def F111_16 : ICode := .region [
  ⟨(some 37), none, .mv (.tmp 4)⟩,
  ⟨(some 38), none, .bin .geq (.tmp 37) (.const (.int .i64 240))⟩,
  ⟨(some 39), none, .mv (.tmp 38)⟩,
  ⟨(some 40), (some (39, true)), .mv (.tmp 4)⟩,
  ⟨(some 41), (some (39, true)), .bin .lss (.tmp 40) (.const (.int .i64 245))⟩,
  ⟨(some 42), none, .pick (.tmp 39) (.tmp 41) (.const (.bool false))⟩,
  ⟨(some 36), none, .mv (.tmp 42)⟩]
def F111_17 : ICode := .region [
  ⟨(some 43), none, .mv (.tmp 4)⟩,
  ⟨(some 44), none, .bin .and (.tmp 43) (.const (.int .i64 7))⟩,
  ⟨(some 5), none, .mv (.const (.int .i64 4))⟩,
  ⟨(some 6), none, .mv (.const (.int .i64 65536))⟩,
  ⟨(some 4), none, .mv (.tmp 44)⟩]
def F111_18 : ICode := .region [
  ⟨(some 2), none, .mv (.const (.int .i64 0))⟩,
  ⟨(some 3), none, .mv (.const (.int .i64 0))⟩]
def F111_19 : ICode := .seq F111_18 .ret
def F111_20 : ICode := .cond (.tmp 36) F111_17 F111_19
def F111_21 : ICode := .keep [0, 4, 36] F111_20
def F111_22 : ICode := .seq F111_16 F111_21
def F111_23 : ICode := .cond (.tmp 27) F111_15 F111_22
def F111_24 : ICode := .keep [0, 4, 27] F111_23
def F111_25 : ICode := .seq F111_14 F111_24
def F111_26 : ICode := .cond (.tmp 18) F111_13 F111_25
def F111_27 : ICode := .keep [0, 4, 18] F111_26
def F111_28 : ICode := .seq F111_12 F111_27
def F111_29 : ICode := .cond (.tmp 14) F111_11 F111_28
def F111_30 : ICode := .keep [0, 4, 14] F111_29
def F111_31 : ICode := .seq F111_9 F111_30
def F111_32 : ICode := .block 0 F111_31
def F111_33 : ICode := .region [
  ⟨(some 45), none, .mv (.tmp 0)⟩,
  ⟨(some 46), none, .len true (.tmp 45)⟩,
  ⟨(some 47), none, .mv (.tmp 5)⟩,
  ⟨(some 48), none, .bin .lss (.tmp 46) (.tmp 47)⟩]
def F111_34 : ICode := .region [
  ⟨(some 2), none, .mv (.const (.int .i64 0))⟩,
  ⟨(some 3), none, .mv (.const (.int .i64 0))⟩]
def F111_35 : ICode := .seq F111_34 .ret
def F111_36 : ICode := .cond (.tmp 48) F111_35 .skip
def F111_37 : ICode := .keep [0, 4, 5, 6, 48] F111_36
def F111_38 : ICode := .seq F111_33 F111_37
def F111_39 : ICode := .region [
  ⟨(some 7), none, .mv (.const (.int .i64 1))⟩]
def F111_40 : ICode := .region [
  ⟨(some 49), none, .mv (.tmp 7)⟩,
  ⟨(some 50), none, .mv (.tmp 5)⟩,
  ⟨(some 51), none, .bin .lss (.tmp 49) (.tmp 50)⟩]
def F111_41 : ICode := .cond (.tmp 51) .skip (.exit 1)
def F111_42 : ICode := .keep [0, 4, 5, 6, 7, 51] F111_41
def F111_43 : ICode := .seq F111_40 F111_42
def F111_44 : ICode := .region [
  ⟨(some 54), none, .mv (.tmp 0)⟩,
  ⟨(some 55), none, .mv (.tmp 7)⟩,
  ⟨(some 56), none, .idxS (.tmp 54) (.tmp 55)⟩,
  ⟨(some 57), none, .bin .and (.tmp 56) (.const (.int .u8 192))⟩,
  ⟨(some 58), none, .bin .neq (.tmp 57) (.const (.int .u8 128))⟩]
def F111_45 : ICode := .region [
  ⟨(some 2), none, .mv (.const (.int .i64 0))⟩,
  ⟨(some 3), none, .mv (.const (.int .i64 0))⟩]
def F111_46 : ICode := .seq F111_45 .ret
def F111_47 : ICode := .cond (.tmp 58) F111_46 .skip
def F111_48 : ICode := .keep [0, 4, 5, 6, 7, 58] F111_47
def F111_49 : ICode := .seq F111_44 F111_48
def F111_50 : ICode := .region [
  ⟨(some 59), none, .mv (.tmp 4)⟩,
  ⟨(some 60), none, .bin .shl (.tmp 59) (.const (.int .u64 6))⟩,
  ⟨(some 61), none, .mv (.tmp 0)⟩,
  ⟨(some 62), none, .mv (.tmp 7)⟩,
  ⟨(some 63), none, .idxS (.tmp 61) (.tmp 62)⟩,
  ⟨(some 64), none, .bin .and (.tmp 63) (.const (.int .u8 63))⟩,
  ⟨(some 65), none, .conv (.int .i64) (.tmp 64)⟩,
  ⟨(some 66), none, .bin .or (.tmp 60) (.tmp 65)⟩,
  ⟨(some 4), none, .mv (.tmp 66)⟩]
def F111_51 : ICode := .keep [0, 4, 5, 6, 7] F111_50
def F111_52 : ICode := .seq F111_49 F111_51
def F111_53 : ICode := .block 2 F111_52
def F111_54 : ICode := .region [
  ⟨(some 52), none, .mv (.tmp 7)⟩,
  ⟨(some 53), none, .bin .add (.tmp 52) (.const (.int .i64 1))⟩,
  ⟨(some 7), none, .mv (.tmp 53)⟩]
def F111_55 : ICode := .keep [0, 4, 5, 6, 7] F111_54
def F111_56 : ICode := .seq F111_53 F111_55
def F111_57 : ICode := .keep [0, 4, 5, 6, 7] F111_56
def F111_58 : ICode := .seq F111_43 F111_57
def F111_59 : ICode := .loop [0, 4, 5, 6, 7] F111_58
def F111_60 : ICode := .block 1 F111_59
def F111_61 : ICode := .keep [0, 4, 5, 6, 7] F111_60
def F111_62 : ICode := .seq F111_39 F111_61
def F111_63 : ICode := .region [
  ⟨(some 67), none, .mv (.tmp 4)⟩,
  ⟨(some 68), none, .mv (.tmp 6)⟩,
  ⟨(some 69), none, .bin .lss (.tmp 67) (.tmp 68)⟩,
  ⟨(some 70), none, .mv (.tmp 69)⟩,
  ⟨(some 71), (some (70, false)), .mv (.tmp 4)⟩,
  ⟨(some 72), (some (70, false)), .bin .gtr (.tmp 71) (.const (.int .i64 1114111))⟩,
  ⟨(some 73), none, .pick (.tmp 70) (.const (.bool true)) (.tmp 72)⟩,
  ⟨(some 74), none, .mv (.tmp 73)⟩,
  ⟨(some 75), (some (74, false)), .mv (.tmp 4)⟩,
  ⟨(some 76), (some (74, false)), .bin .geq (.tmp 75) (.const (.int .i64 55296))⟩,
  ⟨(some 77), (some (74, false)), .mv (.tmp 76)⟩,
  ⟨(some 78), (some (77, true)), .mv (.tmp 4)⟩,
  ⟨(some 79), (some (77, true)), .bin .lss (.tmp 78) (.const (.int .i64 57344))⟩,
  ⟨(some 80), (some (74, false)), .pick (.tmp 77) (.tmp 79) (.const (.bool false))⟩,
  ⟨(some 81), none, .pick (.tmp 74) (.const (.bool true)) (.tmp 80)⟩]
def F111_64 : ICode := .region [
  ⟨(some 2), none, .mv (.const (.int .i64 0))⟩,
  ⟨(some 3), none, .mv (.const (.int .i64 0))⟩]
def F111_65 : ICode := .seq F111_64 .ret
def F111_66 : ICode := .cond (.tmp 81) F111_65 .skip
def F111_67 : ICode := .keep [4, 5, 81] F111_66
def F111_68 : ICode := .seq F111_63 F111_67
def F111_69 : ICode := .region [
  ⟨(some 82), none, .mv (.tmp 4)⟩,
  ⟨(some 83), none, .mv (.tmp 5)⟩,
  ⟨(some 2), none, .mv (.tmp 82)⟩,
  ⟨(some 3), none, .mv (.tmp 83)⟩]
def F111_70 : ICode := .seq F111_69 .ret
def F111_71 : ICode := .keep [4, 5] F111_70
def F111_72 : ICode := .seq F111_68 F111_71
def F111_73 : ICode := .keep [4, 5, 6] F111_72
def F111_74 : ICode := .seq F111_62 F111_73
def F111_75 : ICode := .keep [0, 4, 5, 6] F111_74
def F111_76 : ICode := .seq F111_38 F111_75
def F111_77 : ICode := .keep [0, 4, 5, 6] F111_76
def F111_78 : ICode := .seq F111_32 F111_77
def F111_79 : ICode := .keep [0, 4] F111_78
def F111_80 : ICode := .seq F111_8 F111_79
def F111_81 : ICode := .keep [0, 4] F111_80
def F111_82 : ICode := .seq F111_7 F111_81
def F111_83 : ICode := .keep [0] F111_82
def F111_84 : ICode := .seq F111_6 F111_83
def F111_85 : ICode := .keep [0] F111_84
def F111_86 : ICode := .seq F111_0 F111_85
/-- introit/introitref1.rune1 -/
def F111 : IFunc := ⟨F111_86, [.tmp 2, .tmp 3]⟩

def F112_0 : ICode := .region [
  ⟨(some 2), none, .mv (.const (.int .u32 0))⟩,
  ⟨(some 3), none, .mv (.const (.int .u32 0))⟩]
def F112_1 : ICode := .region [
  ⟨(some 4), none, .mv (.const (.int .u32 0))⟩]
def F112_2 : ICode := .region [
  ⟨(some 5), none, .mv (.const (.int .i64 0))⟩]
def F112_3 : ICode := .region [
  ⟨(some 9), none, .mv (.tmp 5)⟩,
  ⟨(some 10), none, .mv (.tmp 0)⟩,
  ⟨(some 11), none, .len true (.tmp 10)⟩,
  ⟨(some 12), none, .bin .lss (.tmp 9) (.tmp 11)⟩]
def F112_4 : ICode := .cond (.tmp 12) .skip (.exit 0)
def F112_5 : ICode := .keep [0, 4, 5, 12] F112_4
def F112_6 : ICode := .seq F112_3 F112_5
def F112_7 : ICode := .region [
  ⟨(some 15), none, .mv (.tmp 4)⟩,
  ⟨(some 16), none, .bin .mul (.tmp 15) (.const (.int .u32 16777619))⟩,
  ⟨(some 17), none, .mv (.tmp 0)⟩,
  ⟨(some 18), none, .mv (.tmp 5)⟩,
  ⟨(some 19), none, .idxS (.tmp 17) (.tmp 18)⟩,
  ⟨(some 20), none, .conv (.int .u32) (.tmp 19)⟩,
  ⟨(some 21), none, .bin .add (.tmp 16) (.tmp 20)⟩,
  ⟨(some 4), none, .mv (.tmp 21)⟩]
def F112_8 : ICode := .block 1 F112_7
def F112_9 : ICode := .region [
  ⟨(some 13), none, .mv (.tmp 5)⟩,
  ⟨(some 14), none, .bin .add (.tmp 13) (.const (.int .i64 1))⟩,
  ⟨(some 5), none, .mv (.tmp 14)⟩]
def F112_10 : ICode := .keep [0, 4, 5] F112_9
def F112_11 : ICode := .seq F112_8 F112_10
def F112_12 : ICode := .keep [0, 4, 5] F112_11
def F112_13 : ICode := .seq F112_6 F112_12
def F112_14 : ICode := .loop [0, 4, 5] F112_13
def F112_15 : ICode := .block 0 F112_14
def F112_16 : ICode := .keep [0, 4, 5] F112_15
def F112_17 : ICode := .seq F112_2 F112_16
def F112_18 : ICode := .region [
  ⟨(some 6), none, .mv (.const (.int .u32 1))⟩,
  ⟨(some 7), none, .mv (.const (.int .u32 16777619))⟩]
def F112_19 : ICode := .region [
  ⟨(some 22), none, .mv (.tmp 0)⟩,
  ⟨(some 23), none, .len true (.tmp 22)⟩,
  ⟨(some 8), none, .mv (.tmp 23)⟩]
def F112_20 : ICode := .region [
  ⟨(some 24), none, .mv (.tmp 8)⟩,
  ⟨(some 25), none, .bin .gtr (.tmp 24) (.const (.int .i64 0))⟩]
def F112_21 : ICode := .cond (.tmp 25) .skip (.exit 2)
def F112_22 : ICode := .keep [4, 6, 7, 8, 25] F112_21
def F112_23 : ICode := .seq F112_20 F112_22
def F112_24 : ICode := .region [
  ⟨(some 28), none, .mv (.tmp 8)⟩,
  ⟨(some 29), none, .bin .and (.tmp 28) (.const (.int .i64 1))⟩,
  ⟨(some 30), none, .bin .neq (.tmp 29) (.const (.int .i64 0))⟩]
def F112_25 : ICode := .region [
  ⟨(some 31), none, .mv (.tmp 6)⟩,
  ⟨(some 32), none, .mv (.tmp 7)⟩,
  ⟨(some 33), none, .bin .mul (.tmp 31) (.tmp 32)⟩,
  ⟨(some 6), none, .mv (.tmp 33)⟩]
def F112_26 : ICode := .cond (.tmp 30) F112_25 .skip
def F112_27 : ICode := .keep [4, 6, 7, 8, 30] F112_26
def F112_28 : ICode := .seq F112_24 F112_27
def F112_29 : ICode := .region [
  ⟨(some 34), none, .mv (.tmp 7)⟩,
  ⟨(some 35), none, .mv (.tmp 7)⟩,
  ⟨(some 36), none, .bin .mul (.tmp 34) (.tmp 35)⟩,
  ⟨(some 7), none, .mv (.tmp 36)⟩]
def F112_30 : ICode := .keep [4, 6, 7, 8] F112_29
def F112_31 : ICode := .seq F112_28 F112_30
def F112_32 : ICode := .block 3 F112_31
def F112_33 : ICode := .region [
  ⟨(some 26), none, .mv (.tmp 8)⟩,
  ⟨(some 27), none, .bin .shr (.tmp 26) (.const (.int .u64 1))⟩,
  ⟨(some 8), none, .mv (.tmp 27)⟩]
def F112_34 : ICode := .keep [4, 6, 7, 8] F112_33
def F112_35 : ICode := .seq F112_32 F112_34
def F112_36 : ICode := .keep [4, 6, 7, 8] F112_35
def F112_37 : ICode := .seq F112_23 F112_36
def F112_38 : ICode := .loop [4, 6, 7, 8] F112_37
def F112_39 : ICode := .block 2 F112_38
def F112_40 : ICode := .keep [4, 6, 7, 8] F112_39
def F112_41 : ICode := .seq F112_19 F112_40
def F112_42 : ICode := .region [
  ⟨(some 37), none, .mv (.tmp 4)⟩,
  ⟨(some 38), none, .mv (.tmp 6)⟩,
  ⟨(some 2), none, .mv (.tmp 37)⟩,
  ⟨(some 3), none, .mv (.tmp 38)⟩]
def F112_43 : ICode := .seq F112_42 .ret
def F112_44 : ICode := .keep [4, 6] F112_43
def F112_45 : ICode := .seq F112_41 F112_44
def F112_46 : ICode := .keep [0, 4, 6, 7] F112_45
def F112_47 : ICode := .seq F112_18 F112_46
def F112_48 : ICode := .keep [0, 4] F112_47
def F112_49 : ICode := .seq F112_17 F112_48
def F112_50 : ICode := .keep [0, 4] F112_49
def F112_51 : ICode := .seq F112_1 F112_50
def F112_52 : ICode := .keep [0] F112_51
def F112_53 : ICode := .seq F112_0 F112_52
/-- internal/bytealg.hashStr[string] -/
def F112 : IFunc := ⟨F112_53, [.tmp 2, .tmp 3]⟩

def IrDTab : List (Nat × IFunc) := [(0, F0), (14, F14), (16, F16), (1, F1), (2, F2), (3, F3), (4, F4), (7, F7), (5, F5), (6, F6), (10, F10), (8, F8), (9, F9), (11, F11), (12, F12), (13, F13), (15, F15), (17, F17), (20, F20), (18, F18), (19, F19), (21, F21), (22, F22), (23, F23), (24, F24), (25, F25), (26, F26), (27, F27), (37, F37), (28, F28), (29, F29), (30, F30), (31, F31), (32, F32), (33, F33), (34, F34), (35, F35), (36, F36), (38, F38), (39, F39), (40, F40), (41, F41), (42, F42), (44, F44), (43, F43), (45, F45), (46, F46), (47, F47), (48, F48), (49, F49), (51, F51), (50, F50), (52, F52), (53, F53), (54, F54), (55, F55), (56, F56), (57, F57), (58, F58), (59, F59), (60, F60), (61, F61), (62, F62), (63, F63), (64, F64), (65, F65), (66, F66), (67, F67), (68, F68), (69, F69), (70, F70), (71, F71), (72, F72), (73, F73), (74, F74), (84, F84), (85, F85), (86, F86), (87, F87), (89, F89), (92, F92), (75, F75), (76, F76), (77, F77), (78, F78), (79, F79), (80, F80), (81, F81), (82, F82), (83, F83), (88, F88), (90, F90), (91, F91), (93, F93), (94, F94), (95, F95), (96, F96), (97, F97), (98, F98), (99, F99), (100, F100), (101, F101), (102, F102), (103, F103), (104, F104), (105, F105), (106, F106), (107, F107), (109, F109), (110, F110), (111, F111), (112, F112)]
def IrDFm : List (Nat × Nat) := [(0, 3), (14, 4), (16, 5), (1, 6), (2, 7), (3, 8), (4, 9), (7, 10), (5, 11), (6, 12), (10, 13), (8, 14), (9, 15), (11, 16), (12, 17), (13, 18), (15, 19), (17, 20), (20, 21), (18, 22), (19, 23), (21, 24), (22, 25), (23, 26), (24, 27), (25, 28), (26, 29), (27, 30), (37, 31), (28, 32), (29, 33), (30, 34), (31, 35), (32, 36), (33, 37), (34, 38), (35, 39), (36, 40), (38, 41), (39, 42), (40, 43), (41, 44), (42, 45), (44, 46), (43, 47), (45, 48), (46, 49), (47, 50), (48, 51), (49, 52), (51, 53), (50, 54), (52, 55), (53, 56), (54, 57), (55, 58), (56, 59), (57, 60), (58, 61), (59, 62), (60, 63), (61, 64), (62, 65), (63, 66), (64, 67), (65, 68), (66, 69), (67, 70), (68, 71), (69, 72), (70, 73), (71, 74), (72, 75), (73, 76), (74, 77), (84, 78), (85, 79), (86, 80), (87, 81), (89, 82), (92, 83), (75, 84), (76, 85), (77, 86), (78, 87), (79, 88), (80, 89), (81, 90), (82, 91), (83, 92), (88, 93), (90, 94), (91, 95), (93, 96), (94, 97), (95, 98), (96, 99), (97, 100), (98, 101), (99, 102), (100, 103), (101, 104), (102, 105), (103, 106), (104, 107), (105, 108), (106, 109), (107, 110), (108, 111), (109, 112), (110, 113), (111, 114), (113, 115), (112, 116)]
def IrDGm : List (Nat × Nat) := [(0, 0), (1, 1), (2, 2)]
end Go.Ab
