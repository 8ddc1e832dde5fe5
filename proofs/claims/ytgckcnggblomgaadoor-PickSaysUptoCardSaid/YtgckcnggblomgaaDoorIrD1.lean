/- The functions, as texts of the abstract machine. Conditions: none. -/
import Derived.Test.YtgckcnggblomgaaDoorMach
/- The machine's texts of functions. -/
namespace Go.Ab

def F0_0 : ICode := .region [
  ⟨(some 4), none, .boxV (.tmp 1)⟩,
  ⟨(some 5), none, .boxV (.tmp 2)⟩,
  ⟨(some 6), none, .mv (.const (.bool false))⟩]
def F0_1 : ICode := .region [
  ⟨(some 11), none, .call .pure (.func 1) []⟩,
  ⟨(some 12), none, .un .not (.tmp 11)⟩]
def F0_2 : ICode := .region [
  ⟨(some 6), none, .mv (.const (.bool false))⟩]
def F0_3 : ICode := .seq F0_2 .ret
def F0_4 : ICode := .cond (.tmp 12) F0_3 .skip
def F0_5 : ICode := .keep [0, 4, 5, 12] F0_4
def F0_6 : ICode := .seq F0_1 F0_5
def F0_7 : ICode := .region [
  ⟨(some 13), none, .mv (.tmp 0)⟩,
  ⟨(some 14), none, .call .pure (.func 2) [(.tmp 13), (.const (.int .i64 30))]⟩,
  ⟨(some 15), none, .un .not (.tmp 14)⟩,
  ⟨(some 16), none, .mv (.tmp 15)⟩,
  ⟨(some 17), (some (16, false)), .loadV (some 20) (.tmp 4)⟩,
  ⟨(some 18), (some (16, false)), .buildSl false 20 1 [.int .i64 0, .int .i64 0, .str [], .nils, .nils, .str [], .str [], .str [], .str [], .str [], .bool false, .int .i64 0, .int .i64 0, .nils, .nils, .int .i64 0, .int .i64 0, .str [], .nils, .nils] [(0, (.tmp 17))]⟩,
  ⟨(some 19), (some (16, false)), .call .pure (.func 2) [(.tmp 18), (.const (.int .i64 1))]⟩,
  ⟨(some 20), (some (16, false)), .un .not (.tmp 19)⟩,
  ⟨(some 21), none, .pick (.tmp 16) (.const (.bool true)) (.tmp 20)⟩,
  ⟨(some 22), none, .mv (.tmp 21)⟩,
  ⟨(some 23), (some (22, false)), .fieldA 0 (.tmp 5)⟩,
  ⟨(some 24), (some (22, false)), .loadV none (.tmp 23)⟩,
  ⟨(some 25), (some (22, false)), .len true (.tmp 24)⟩,
  ⟨(some 26), (some (22, false)), .fieldA 1 (.tmp 5)⟩,
  ⟨(some 27), (some (22, false)), .loadV none (.tmp 26)⟩,
  ⟨(some 28), (some (22, false)), .len true (.tmp 27)⟩,
  ⟨(some 29), (some (22, false)), .bin .add (.tmp 25) (.tmp 28)⟩,
  ⟨(some 30), (some (22, false)), .bin .gtr (.tmp 29) (.const (.int .i64 600))⟩,
  ⟨(some 31), none, .pick (.tmp 22) (.const (.bool true)) (.tmp 30)⟩]
def F0_8 : ICode := .region [
  ⟨(some 6), none, .mv (.const (.bool true))⟩]
def F0_9 : ICode := .seq F0_8 .ret
def F0_10 : ICode := .cond (.tmp 31) F0_9 .skip
def F0_11 : ICode := .keep [0, 4, 5, 31] F0_10
def F0_12 : ICode := .seq F0_7 F0_11
def F0_13 : ICode := .region [
  ⟨(some 33), none, .mv (.tmp 0)⟩,
  ⟨(some 34), none, .loadV (some 2) (.tmp 5)⟩,
  ⟨(some 35), none, .call .pure (.func 3) [(.tmp 33), (.tmp 34)]⟩,
  ⟨(some 32), none, .mv (.tmp 35)⟩,
  ⟨(some 36), none, .extract (.tmp 32) 0⟩,
  ⟨(some 37), none, .extract (.tmp 32) 1⟩,
  ⟨(some 7), none, .new [.int .i64 0, .int .i64 0, .str [], .nils, .nils, .str [], .str [], .str [], .str [], .str [], .bool false, .int .i64 0, .int .i64 0, .nils, .nils, .int .i64 0, .int .i64 0, .str [], .nils, .nils]⟩,
  ⟨none, none, .store 20 (.tmp 7) (.tmp 36)⟩,
  ⟨(some 8), none, .mv (.tmp 37)⟩]
def F0_14 : ICode := .region [
  ⟨(some 39), none, .mv (.tmp 0)⟩,
  ⟨(some 40), none, .fieldA 0 (.tmp 5)⟩,
  ⟨(some 41), none, .loadV none (.tmp 40)⟩,
  ⟨(some 42), none, .fieldA 1 (.tmp 5)⟩,
  ⟨(some 43), none, .loadV none (.tmp 42)⟩,
  ⟨(some 44), none, .call .pure (.func 4) [(.tmp 39), (.tmp 41), (.tmp 43)]⟩,
  ⟨(some 38), none, .mv (.tmp 44)⟩,
  ⟨(some 45), none, .extract (.tmp 38) 0⟩,
  ⟨(some 46), none, .extract (.tmp 38) 1⟩,
  ⟨(some 9), none, .new [.int .i64 0, .int .i64 0, .str [], .nils, .nils, .str [], .str [], .str [], .str [], .str [], .bool false, .int .i64 0, .int .i64 0, .nils, .nils, .int .i64 0, .int .i64 0, .str [], .nils, .nils]⟩,
  ⟨none, none, .store 20 (.tmp 9) (.tmp 45)⟩,
  ⟨(some 10), none, .mv (.tmp 46)⟩]
def F0_15 : ICode := .region [
  ⟨(some 47), none, .loadV (some 20) (.tmp 4)⟩,
  ⟨(some 48), none, .call .strict (.func 5) [(.tmp 47)]⟩,
  ⟨(some 49), none, .loadV (some 20) (.tmp 4)⟩,
  ⟨(some 50), none, .call .strict (.func 6) [(.tmp 49)]⟩,
  ⟨(some 51), none, .call .strict (.func 7) [(.tmp 48), (.tmp 50)]⟩,
  ⟨(some 52), none, .mv (.tmp 51)⟩,
  ⟨(some 53), (some (52, true)), .mv (.tmp 0)⟩,
  ⟨(some 54), (some (52, true)), .loadV (some 20) (.tmp 4)⟩,
  ⟨(some 55), (some (52, true)), .call .strict (.func 8) [(.tmp 53), (.tmp 54)]⟩,
  ⟨(some 56), (some (52, true)), .mv (.tmp 0)⟩,
  ⟨(some 57), (some (52, true)), .loadV (some 20) (.tmp 4)⟩,
  ⟨(some 58), (some (52, true)), .call .strict (.func 9) [(.tmp 56), (.tmp 57)]⟩,
  ⟨(some 59), (some (52, true)), .call .strict (.func 10) [(.tmp 55), (.tmp 58)]⟩,
  ⟨(some 60), none, .pick (.tmp 52) (.tmp 59) (.const (.bool false))⟩,
  ⟨(some 61), none, .mv (.tmp 60)⟩,
  ⟨(some 62), (some (61, true)), .mv (.tmp 8)⟩,
  ⟨(some 63), (some (61, true)), .mv (.tmp 10)⟩,
  ⟨(some 64), (some (61, true)), .eqb false (.tmp 62) (.tmp 63)⟩,
  ⟨(some 65), none, .pick (.tmp 61) (.tmp 64) (.const (.bool false))⟩,
  ⟨(some 66), none, .mv (.tmp 65)⟩,
  ⟨(some 67), (some (66, true)), .load (some 20) (.tmp 7)⟩,
  ⟨(some 68), (some (66, true)), .load (some 20) (.tmp 9)⟩,
  ⟨(some 69), (some (66, true)), .call .strict (.func 11) [(.tmp 67), (.tmp 68)]⟩,
  ⟨(some 70), none, .pick (.tmp 66) (.tmp 69) (.const (.bool false))⟩,
  ⟨(some 71), none, .mv (.tmp 70)⟩,
  ⟨(some 72), (some (71, true)), .loadV (some 20) (.tmp 4)⟩,
  ⟨(some 73), (some (71, true)), .mv (.tmp 0)⟩,
  ⟨(some 74), (some (71, true)), .call .strict (.func 12) [(.tmp 72), (.tmp 73)]⟩,
  ⟨(some 75), (some (71, true)), .loadV (some 20) (.tmp 4)⟩,
  ⟨(some 76), (some (71, true)), .mv (.tmp 0)⟩,
  ⟨(some 77), (some (71, true)), .call .strict (.func 13) [(.tmp 75), (.tmp 76)]⟩,
  ⟨(some 78), (some (71, true)), .eqb false (.tmp 74) (.tmp 77)⟩,
  ⟨(some 79), none, .pick (.tmp 71) (.tmp 78) (.const (.bool false))⟩,
  ⟨(some 80), none, .mv (.tmp 79)⟩,
  ⟨(some 81), (some (80, true)), .loadV (some 20) (.tmp 4)⟩,
  ⟨(some 82), (some (80, true)), .mv (.tmp 0)⟩,
  ⟨(some 83), (some (80, true)), .mv (.tmp 0)⟩,
  ⟨(some 84), (some (80, true)), .len false (.tmp 83)⟩,
  ⟨(some 85), (some (80, true)), .bin .quo (.tmp 84) (.const (.int .i64 2))⟩,
  ⟨(some 86), (some (80, true)), .slice 20 (.tmp 82) none (some (.tmp 85)) none⟩,
  ⟨(some 87), (some (80, true)), .call .strict (.func 12) [(.tmp 81), (.tmp 86)]⟩,
  ⟨(some 88), (some (80, true)), .loadV (some 20) (.tmp 4)⟩,
  ⟨(some 89), (some (80, true)), .mv (.tmp 0)⟩,
  ⟨(some 90), (some (80, true)), .mv (.tmp 0)⟩,
  ⟨(some 91), (some (80, true)), .len false (.tmp 90)⟩,
  ⟨(some 92), (some (80, true)), .bin .quo (.tmp 91) (.const (.int .i64 2))⟩,
  ⟨(some 93), (some (80, true)), .slice 20 (.tmp 89) none (some (.tmp 92)) none⟩,
  ⟨(some 94), (some (80, true)), .call .strict (.func 13) [(.tmp 88), (.tmp 93)]⟩,
  ⟨(some 95), (some (80, true)), .eqb false (.tmp 87) (.tmp 94)⟩,
  ⟨(some 96), none, .pick (.tmp 80) (.tmp 95) (.const (.bool false))⟩,
  ⟨(some 6), none, .mv (.tmp 96)⟩]
def F0_16 : ICode := .keep [6] .ret
def F0_17 : ICode := .seq F0_15 F0_16
def F0_18 : ICode := .keep [0, 4, 7, 8, 9, 10] F0_17
def F0_19 : ICode := .seq F0_14 F0_18
def F0_20 : ICode := .keep [0, 4, 5, 7, 8] F0_19
def F0_21 : ICode := .seq F0_13 F0_20
def F0_22 : ICode := .keep [0, 4, 5] F0_21
def F0_23 : ICode := .seq F0_12 F0_22
def F0_24 : ICode := .keep [0, 4, 5] F0_23
def F0_25 : ICode := .seq F0_6 F0_24
def F0_26 : ICode := .keep [0, 4, 5] F0_25
def F0_27 : ICode := .seq F0_0 F0_26
/-- introit/introitlaw19.PickSays -/
def F0 : IFunc := ⟨F0_27, [.tmp 6]⟩

def F14_0 : ICode := .region [
  ⟨(some 4), none, .boxV (.tmp 1)⟩,
  ⟨(some 6), none, .mv (.const (.bool false))⟩]
def F14_1 : ICode := .region [
  ⟨(some 20), none, .call .pure (.func 1) []⟩,
  ⟨(some 21), none, .un .not (.tmp 20)⟩]
def F14_2 : ICode := .region [
  ⟨(some 6), none, .mv (.const (.bool false))⟩]
def F14_3 : ICode := .seq F14_2 .ret
def F14_4 : ICode := .cond (.tmp 21) F14_3 .skip
def F14_5 : ICode := .keep [0, 2, 4, 21] F14_4
def F14_6 : ICode := .seq F14_1 F14_5
def F14_7 : ICode := .region [
  ⟨(some 22), none, .mv (.tmp 0)⟩,
  ⟨(some 23), none, .call .pure (.func 2) [(.tmp 22), (.const (.int .i64 30))]⟩,
  ⟨(some 24), none, .un .not (.tmp 23)⟩,
  ⟨(some 25), none, .mv (.tmp 24)⟩,
  ⟨(some 26), (some (25, false)), .loadV (some 20) (.tmp 4)⟩,
  ⟨(some 27), (some (25, false)), .buildSl false 20 1 [.int .i64 0, .int .i64 0, .str [], .nils, .nils, .str [], .str [], .str [], .str [], .str [], .bool false, .int .i64 0, .int .i64 0, .nils, .nils, .int .i64 0, .int .i64 0, .str [], .nils, .nils] [(0, (.tmp 26))]⟩,
  ⟨(some 28), (some (25, false)), .call .pure (.func 2) [(.tmp 27), (.const (.int .i64 1))]⟩,
  ⟨(some 29), (some (25, false)), .un .not (.tmp 28)⟩,
  ⟨(some 30), none, .pick (.tmp 25) (.const (.bool true)) (.tmp 29)⟩]
def F14_8 : ICode := .region [
  ⟨(some 6), none, .mv (.const (.bool true))⟩]
def F14_9 : ICode := .seq F14_8 .ret
def F14_10 : ICode := .cond (.tmp 30) F14_9 .skip
def F14_11 : ICode := .keep [0, 2, 4, 30] F14_10
def F14_12 : ICode := .seq F14_7 F14_11
def F14_13 : ICode := .region [
  ⟨(some 7), none, .mv (.const (.int .i64 0))⟩]
def F14_14 : ICode := .region [
  ⟨(some 31), none, .mv (.tmp 7)⟩,
  ⟨(some 32), none, .mv (.tmp 0)⟩,
  ⟨(some 33), none, .len false (.tmp 32)⟩,
  ⟨(some 34), none, .bin .lss (.tmp 31) (.tmp 33)⟩]
def F14_15 : ICode := .cond (.tmp 34) .skip (.exit 0)
def F14_16 : ICode := .keep [0, 2, 4, 7, 34] F14_15
def F14_17 : ICode := .seq F14_14 F14_16
def F14_18 : ICode := .region [
  ⟨(some 8), none, .mv (.const (.int .i64 0))⟩]
def F14_19 : ICode := .region [
  ⟨(some 37), none, .mv (.tmp 8)⟩,
  ⟨(some 38), none, .mv (.tmp 7)⟩,
  ⟨(some 39), none, .bin .lss (.tmp 37) (.tmp 38)⟩]
def F14_20 : ICode := .cond (.tmp 39) .skip (.exit 2)
def F14_21 : ICode := .keep [0, 2, 4, 7, 8, 39] F14_20
def F14_22 : ICode := .seq F14_19 F14_21
def F14_23 : ICode := .region [
  ⟨(some 42), none, .mv (.tmp 0)⟩,
  ⟨(some 43), none, .mv (.tmp 7)⟩,
  ⟨(some 44), none, .idxA 20 none (.tmp 42) (.tmp 43)⟩,
  ⟨(some 45), none, .fieldA 5 (.tmp 44)⟩,
  ⟨(some 46), none, .load none (.tmp 45)⟩,
  ⟨(some 47), none, .mv (.tmp 0)⟩,
  ⟨(some 48), none, .mv (.tmp 8)⟩,
  ⟨(some 49), none, .idxA 20 none (.tmp 47) (.tmp 48)⟩,
  ⟨(some 50), none, .fieldA 5 (.tmp 49)⟩,
  ⟨(some 51), none, .load none (.tmp 50)⟩,
  ⟨(some 52), none, .bin .eql (.tmp 46) (.tmp 51)⟩]
def F14_24 : ICode := .region [
  ⟨(some 6), none, .mv (.const (.bool true))⟩]
def F14_25 : ICode := .seq F14_24 .ret
def F14_26 : ICode := .cond (.tmp 52) F14_25 .skip
def F14_27 : ICode := .keep [0, 2, 4, 7, 8, 52] F14_26
def F14_28 : ICode := .seq F14_23 F14_27
def F14_29 : ICode := .block 3 F14_28
def F14_30 : ICode := .region [
  ⟨(some 40), none, .mv (.tmp 8)⟩,
  ⟨(some 41), none, .bin .add (.tmp 40) (.const (.int .i64 1))⟩,
  ⟨(some 8), none, .mv (.tmp 41)⟩]
def F14_31 : ICode := .keep [0, 2, 4, 7, 8] F14_30
def F14_32 : ICode := .seq F14_29 F14_31
def F14_33 : ICode := .keep [0, 2, 4, 7, 8] F14_32
def F14_34 : ICode := .seq F14_22 F14_33
def F14_35 : ICode := .loop [0, 2, 4, 7, 8] F14_34
def F14_36 : ICode := .block 2 F14_35
def F14_37 : ICode := .keep [0, 2, 4, 7, 8] F14_36
def F14_38 : ICode := .seq F14_18 F14_37
def F14_39 : ICode := .block 1 F14_38
def F14_40 : ICode := .region [
  ⟨(some 35), none, .mv (.tmp 7)⟩,
  ⟨(some 36), none, .bin .add (.tmp 35) (.const (.int .i64 1))⟩,
  ⟨(some 7), none, .mv (.tmp 36)⟩]
def F14_41 : ICode := .keep [0, 2, 4, 7] F14_40
def F14_42 : ICode := .seq F14_39 F14_41
def F14_43 : ICode := .keep [0, 2, 4, 7] F14_42
def F14_44 : ICode := .seq F14_17 F14_43
def F14_45 : ICode := .loop [0, 2, 4, 7] F14_44
def F14_46 : ICode := .block 0 F14_45
def F14_47 : ICode := .keep [0, 2, 4, 7] F14_46
def F14_48 : ICode := .seq F14_13 F14_47
def F14_49 : ICode := .region [
  ⟨(some 53), none, .mv (.tmp 0)⟩,
  ⟨(some 54), none, .loadV (some 20) (.tmp 4)⟩,
  ⟨(some 55), none, .call .pure (.func 8) [(.tmp 53), (.tmp 54)]⟩,
  ⟨(some 9), none, .mv (.tmp 55)⟩]
def F14_50 : ICode := .region [
  ⟨(some 56), none, .loadV (some 20) (.tmp 4)⟩,
  ⟨(some 57), none, .call .pure (.func 5) [(.tmp 56)]⟩,
  ⟨(some 10), none, .mv (.tmp 57)⟩]
def F14_51 : ICode := .region [
  ⟨(some 11), none, .mv (.const (.nils))⟩]
def F14_52 : ICode := .region [
  ⟨(some 12), none, .mv (.const (.int .i64 0))⟩]
def F14_53 : ICode := .region [
  ⟨(some 58), none, .mv (.tmp 12)⟩,
  ⟨(some 59), none, .mv (.tmp 9)⟩,
  ⟨(some 60), none, .len false (.tmp 59)⟩,
  ⟨(some 61), none, .bin .lss (.tmp 58) (.tmp 60)⟩]
def F14_54 : ICode := .cond (.tmp 61) .skip (.exit 4)
def F14_55 : ICode := .keep [0, 2, 4, 9, 10, 11, 12, 61] F14_54
def F14_56 : ICode := .seq F14_53 F14_55
def F14_57 : ICode := .region [
  ⟨(some 65), none, .mv (.tmp 0)⟩,
  ⟨(some 66), none, .mv (.tmp 9)⟩,
  ⟨(some 67), none, .mv (.tmp 12)⟩,
  ⟨(some 68), none, .mv (.tmp 2)⟩,
  ⟨(some 69), none, .conv (.int .u64) (.tmp 68)⟩,
  ⟨(some 70), none, .mv (.tmp 9)⟩,
  ⟨(some 71), none, .len false (.tmp 70)⟩,
  ⟨(some 72), none, .conv (.int .u64) (.tmp 71)⟩,
  ⟨(some 73), none, .bin .rem (.tmp 69) (.tmp 72)⟩,
  ⟨(some 74), none, .conv (.int .i64) (.tmp 73)⟩,
  ⟨(some 75), none, .bin .add (.tmp 67) (.tmp 74)⟩,
  ⟨(some 76), none, .mv (.tmp 9)⟩,
  ⟨(some 77), none, .len false (.tmp 76)⟩,
  ⟨(some 78), none, .bin .rem (.tmp 75) (.tmp 77)⟩,
  ⟨(some 79), none, .idxA 1 none (.tmp 66) (.tmp 78)⟩,
  ⟨(some 80), none, .load none (.tmp 79)⟩,
  ⟨(some 81), none, .call .pure (.func 15) [(.tmp 65), (.tmp 80)]⟩,
  ⟨(some 64), none, .mv (.tmp 81)⟩,
  ⟨(some 82), none, .extract (.tmp 64) 0⟩,
  ⟨(some 83), none, .extract (.tmp 64) 1⟩,
  ⟨(some 13), none, .new [.int .i64 0, .int .i64 0, .str [], .nils, .nils, .str [], .str [], .str [], .str [], .str [], .bool false, .int .i64 0, .int .i64 0, .nils, .nils, .int .i64 0, .int .i64 0, .str [], .nils, .nils]⟩,
  ⟨none, none, .store 20 (.tmp 13) (.tmp 82)⟩,
  ⟨(some 14), none, .mv (.tmp 83)⟩]
def F14_58 : ICode := .region [
  ⟨(some 84), none, .mv (.tmp 14)⟩,
  ⟨(some 85), none, .un .not (.tmp 84)⟩]
def F14_59 : ICode := .region [
  ⟨(some 6), none, .mv (.const (.bool false))⟩]
def F14_60 : ICode := .seq F14_59 .ret
def F14_61 : ICode := .cond (.tmp 85) F14_60 .skip
def F14_62 : ICode := .keep [0, 2, 4, 9, 10, 11, 12, 13, 85] F14_61
def F14_63 : ICode := .seq F14_58 F14_62
def F14_64 : ICode := .region [
  ⟨(some 86), none, .mv (.tmp 11)⟩,
  ⟨(some 87), none, .load (some 20) (.tmp 13)⟩,
  ⟨(some 88), none, .buildSl false 20 1 [.int .i64 0, .int .i64 0, .str [], .nils, .nils, .str [], .str [], .str [], .str [], .str [], .bool false, .int .i64 0, .int .i64 0, .nils, .nils, .int .i64 0, .int .i64 0, .str [], .nils, .nils] [(0, (.tmp 87))]⟩,
  ⟨(some 89), none, .append 20 312 false (.tmp 86) (.tmp 88)⟩,
  ⟨(some 11), none, .mv (.tmp 89)⟩]
def F14_65 : ICode := .keep [0, 2, 4, 9, 10, 11, 12, 13] F14_64
def F14_66 : ICode := .seq F14_63 F14_65
def F14_67 : ICode := .keep [0, 2, 4, 9, 10, 11, 12, 13, 14] F14_66
def F14_68 : ICode := .seq F14_57 F14_67
def F14_69 : ICode := .block 5 F14_68
def F14_70 : ICode := .region [
  ⟨(some 62), none, .mv (.tmp 12)⟩,
  ⟨(some 63), none, .bin .add (.tmp 62) (.const (.int .i64 1))⟩,
  ⟨(some 12), none, .mv (.tmp 63)⟩]
def F14_71 : ICode := .keep [0, 2, 4, 9, 10, 11, 12] F14_70
def F14_72 : ICode := .seq F14_69 F14_71
def F14_73 : ICode := .keep [0, 2, 4, 9, 10, 11, 12] F14_72
def F14_74 : ICode := .seq F14_56 F14_73
def F14_75 : ICode := .loop [0, 2, 4, 9, 10, 11, 12] F14_74
def F14_76 : ICode := .block 4 F14_75
def F14_77 : ICode := .keep [0, 2, 4, 9, 10, 11, 12] F14_76
def F14_78 : ICode := .seq F14_52 F14_77
def F14_79 : ICode := .region [
  ⟨(some 15), none, .mv (.const (.int .i64 0))⟩]
def F14_80 : ICode := .region [
  ⟨(some 16), none, .mv (.const (.int .i64 0))⟩]
def F14_81 : ICode := .region [
  ⟨(some 90), none, .mv (.tmp 16)⟩,
  ⟨(some 91), none, .mv (.tmp 10)⟩,
  ⟨(some 92), none, .len false (.tmp 91)⟩,
  ⟨(some 93), none, .bin .lss (.tmp 90) (.tmp 92)⟩]
def F14_82 : ICode := .cond (.tmp 93) .skip (.exit 6)
def F14_83 : ICode := .keep [0, 4, 9, 10, 11, 15, 16, 93] F14_82
def F14_84 : ICode := .seq F14_81 F14_83
def F14_85 : ICode := .region [
  ⟨(some 97), none, .mv (.tmp 0)⟩,
  ⟨(some 98), none, .mv (.tmp 10)⟩,
  ⟨(some 99), none, .mv (.tmp 16)⟩,
  ⟨(some 100), none, .idxA 2 none (.tmp 98) (.tmp 99)⟩,
  ⟨(some 101), none, .load (some 2) (.tmp 100)⟩,
  ⟨(some 102), none, .call .pure (.func 3) [(.tmp 97), (.tmp 101)]⟩,
  ⟨(some 96), none, .mv (.tmp 102)⟩,
  ⟨(some 103), none, .extract (.tmp 96) 0⟩,
  ⟨(some 104), none, .extract (.tmp 96) 1⟩,
  ⟨(some 17), none, .new [.int .i64 0, .int .i64 0, .str [], .nils, .nils, .str [], .str [], .str [], .str [], .str [], .bool false, .int .i64 0, .int .i64 0, .nils, .nils, .int .i64 0, .int .i64 0, .str [], .nils, .nils]⟩,
  ⟨none, none, .store 20 (.tmp 17) (.tmp 103)⟩,
  ⟨(some 18), none, .mv (.tmp 104)⟩]
def F14_86 : ICode := .region [
  ⟨(some 105), none, .mv (.tmp 18)⟩]
def F14_87 : ICode := .region [
  ⟨(some 106), none, .mv (.tmp 15)⟩,
  ⟨(some 107), none, .bin .add (.tmp 106) (.const (.int .i64 1))⟩,
  ⟨(some 15), none, .mv (.tmp 107)⟩]
def F14_88 : ICode := .cond (.tmp 105) F14_87 .skip
def F14_89 : ICode := .keep [0, 4, 9, 10, 11, 15, 16, 105] F14_88
def F14_90 : ICode := .seq F14_86 F14_89
def F14_91 : ICode := .keep [0, 4, 9, 10, 11, 15, 16, 18] F14_90
def F14_92 : ICode := .seq F14_85 F14_91
def F14_93 : ICode := .region [
  ⟨(some 19), none, .mv (.const (.int .i64 0))⟩]
def F14_94 : ICode := .region [
  ⟨(some 108), none, .mv (.tmp 19)⟩,
  ⟨(some 109), none, .mv (.tmp 16)⟩,
  ⟨(some 110), none, .bin .lss (.tmp 108) (.tmp 109)⟩]
def F14_95 : ICode := .cond (.tmp 110) .skip (.exit 8)
def F14_96 : ICode := .keep [0, 4, 9, 10, 11, 15, 16, 19, 110] F14_95
def F14_97 : ICode := .seq F14_94 F14_96
def F14_98 : ICode := .region [
  ⟨(some 113), none, .mv (.tmp 10)⟩,
  ⟨(some 114), none, .mv (.tmp 16)⟩,
  ⟨(some 115), none, .idxA 2 none (.tmp 113) (.tmp 114)⟩,
  ⟨(some 116), none, .load (some 2) (.tmp 115)⟩,
  ⟨(some 117), none, .mv (.tmp 10)⟩,
  ⟨(some 118), none, .mv (.tmp 19)⟩,
  ⟨(some 119), none, .idxA 2 none (.tmp 117) (.tmp 118)⟩,
  ⟨(some 120), none, .load (some 2) (.tmp 119)⟩,
  ⟨(some 121), none, .eqs [.str, .str] false (.tmp 116) (.tmp 120)⟩]
def F14_99 : ICode := .region [
  ⟨(some 6), none, .mv (.const (.bool false))⟩]
def F14_100 : ICode := .seq F14_99 .ret
def F14_101 : ICode := .cond (.tmp 121) F14_100 .skip
def F14_102 : ICode := .keep [0, 4, 9, 10, 11, 15, 16, 19, 121] F14_101
def F14_103 : ICode := .seq F14_98 F14_102
def F14_104 : ICode := .block 9 F14_103
def F14_105 : ICode := .region [
  ⟨(some 111), none, .mv (.tmp 19)⟩,
  ⟨(some 112), none, .bin .add (.tmp 111) (.const (.int .i64 1))⟩,
  ⟨(some 19), none, .mv (.tmp 112)⟩]
def F14_106 : ICode := .keep [0, 4, 9, 10, 11, 15, 16, 19] F14_105
def F14_107 : ICode := .seq F14_104 F14_106
def F14_108 : ICode := .keep [0, 4, 9, 10, 11, 15, 16, 19] F14_107
def F14_109 : ICode := .seq F14_97 F14_108
def F14_110 : ICode := .loop [0, 4, 9, 10, 11, 15, 16, 19] F14_109
def F14_111 : ICode := .block 8 F14_110
def F14_112 : ICode := .keep [0, 4, 9, 10, 11, 15, 16, 19] F14_111
def F14_113 : ICode := .seq F14_93 F14_112
def F14_114 : ICode := .keep [0, 4, 9, 10, 11, 15, 16] F14_113
def F14_115 : ICode := .seq F14_92 F14_114
def F14_116 : ICode := .block 7 F14_115
def F14_117 : ICode := .region [
  ⟨(some 94), none, .mv (.tmp 16)⟩,
  ⟨(some 95), none, .bin .add (.tmp 94) (.const (.int .i64 1))⟩,
  ⟨(some 16), none, .mv (.tmp 95)⟩]
def F14_118 : ICode := .keep [0, 4, 9, 10, 11, 15, 16] F14_117
def F14_119 : ICode := .seq F14_116 F14_118
def F14_120 : ICode := .keep [0, 4, 9, 10, 11, 15, 16] F14_119
def F14_121 : ICode := .seq F14_84 F14_120
def F14_122 : ICode := .loop [0, 4, 9, 10, 11, 15, 16] F14_121
def F14_123 : ICode := .block 6 F14_122
def F14_124 : ICode := .keep [0, 4, 9, 10, 11, 15, 16] F14_123
def F14_125 : ICode := .seq F14_80 F14_124
def F14_126 : ICode := .region [
  ⟨(some 122), none, .loadV (some 20) (.tmp 4)⟩,
  ⟨(some 123), none, .mv (.tmp 11)⟩,
  ⟨(some 124), none, .call .strict (.func 12) [(.tmp 122), (.tmp 123)]⟩,
  ⟨(some 125), none, .mv (.tmp 124)⟩,
  ⟨(some 126), (some (125, true)), .loadV (some 20) (.tmp 4)⟩,
  ⟨(some 127), (some (125, true)), .mv (.tmp 11)⟩,
  ⟨(some 128), (some (125, true)), .mv (.tmp 11)⟩,
  ⟨(some 129), (some (125, true)), .len false (.tmp 128)⟩,
  ⟨(some 130), (some (125, true)), .bin .quo (.tmp 129) (.const (.int .i64 2))⟩,
  ⟨(some 131), (some (125, true)), .slice 20 (.tmp 127) none (some (.tmp 130)) none⟩,
  ⟨(some 132), (some (125, true)), .call .strict (.func 12) [(.tmp 126), (.tmp 131)]⟩,
  ⟨(some 133), none, .pick (.tmp 125) (.tmp 132) (.const (.bool false))⟩,
  ⟨(some 134), none, .mv (.tmp 133)⟩,
  ⟨(some 135), (some (134, true)), .mv (.tmp 9)⟩,
  ⟨(some 136), (some (134, true)), .len false (.tmp 135)⟩,
  ⟨(some 137), (some (134, true)), .mv (.tmp 15)⟩,
  ⟨(some 138), (some (134, true)), .bin .eql (.tmp 136) (.tmp 137)⟩,
  ⟨(some 139), none, .pick (.tmp 134) (.tmp 138) (.const (.bool false))⟩,
  ⟨(some 140), none, .mv (.tmp 139)⟩,
  ⟨(some 141), (some (140, true)), .mv (.tmp 11)⟩,
  ⟨(some 142), (some (140, true)), .len false (.tmp 141)⟩,
  ⟨(some 143), (some (140, true)), .bin .eql (.tmp 142) (.const (.int .i64 0))⟩,
  ⟨(some 144), (some (140, true)), .mv (.tmp 143)⟩,
  ⟨(some 145), (some (144, false)), .loadV (some 20) (.tmp 4)⟩,
  ⟨(some 146), (some (144, false)), .buildSl false 20 0 [.int .i64 0, .int .i64 0, .str [], .nils, .nils, .str [], .str [], .str [], .str [], .str [], .bool false, .int .i64 0, .int .i64 0, .nils, .nils, .int .i64 0, .int .i64 0, .str [], .nils, .nils] []⟩,
  ⟨(some 147), (some (144, false)), .mv (.tmp 11)⟩,
  ⟨(some 148), (some (144, false)), .append 20 312 false (.tmp 146) (.tmp 147)⟩,
  ⟨(some 149), (some (144, false)), .mv (.tmp 11)⟩,
  ⟨(some 150), (some (144, false)), .idxA 20 none (.tmp 149) (.const (.int .i64 0))⟩,
  ⟨(some 151), (some (144, false)), .loadF (some 20) (.tmp 150)⟩,
  ⟨(some 152), (some (144, false)), .buildSl false 20 1 [.int .i64 0, .int .i64 0, .str [], .nils, .nils, .str [], .str [], .str [], .str [], .str [], .bool false, .int .i64 0, .int .i64 0, .nils, .nils, .int .i64 0, .int .i64 0, .str [], .nils, .nils] [(0, (.tmp 151))]⟩,
  ⟨(some 153), (some (144, false)), .append 20 312 false (.tmp 148) (.tmp 152)⟩,
  ⟨(some 154), (some (144, false)), .call .strict (.func 12) [(.tmp 145), (.tmp 153)]⟩,
  ⟨(some 155), (some (144, false)), .un .not (.tmp 154)⟩,
  ⟨(some 156), (some (140, true)), .pick (.tmp 144) (.const (.bool true)) (.tmp 155)⟩,
  ⟨(some 157), none, .pick (.tmp 140) (.tmp 156) (.const (.bool false))⟩,
  ⟨(some 6), none, .mv (.tmp 157)⟩]
def F14_127 : ICode := .frz [11] F14_126
def F14_128 : ICode := .seq F14_127 .ret
def F14_129 : ICode := .keep [4, 9, 11, 15] F14_128
def F14_130 : ICode := .seq F14_125 F14_129
def F14_131 : ICode := .keep [0, 4, 9, 10, 11, 15] F14_130
def F14_132 : ICode := .seq F14_79 F14_131
def F14_133 : ICode := .keep [0, 4, 9, 10, 11] F14_132
def F14_134 : ICode := .seq F14_78 F14_133
def F14_135 : ICode := .keep [0, 2, 4, 9, 10, 11] F14_134
def F14_136 : ICode := .seq F14_51 F14_135
def F14_137 : ICode := .keep [0, 2, 4, 9, 10] F14_136
def F14_138 : ICode := .seq F14_50 F14_137
def F14_139 : ICode := .keep [0, 2, 4, 9] F14_138
def F14_140 : ICode := .seq F14_49 F14_139
def F14_141 : ICode := .keep [0, 2, 4] F14_140
def F14_142 : ICode := .seq F14_48 F14_141
def F14_143 : ICode := .keep [0, 2, 4] F14_142
def F14_144 : ICode := .seq F14_12 F14_143
def F14_145 : ICode := .keep [0, 2, 4] F14_144
def F14_146 : ICode := .seq F14_6 F14_145
def F14_147 : ICode := .keep [0, 2, 4] F14_146
def F14_148 : ICode := .seq F14_0 F14_147
/-- introit/introitlaw19.PickFits -/
def F14 : IFunc := ⟨F14_148, [.tmp 6]⟩

def F16_0 : ICode := .region [
  ⟨(some 4), none, .mv (.const (.bool false))⟩]
def F16_1 : ICode := .region [
  ⟨(some 12), none, .call .pure (.func 17) []⟩,
  ⟨(some 13), none, .un .not (.tmp 12)⟩]
def F16_2 : ICode := .region [
  ⟨(some 4), none, .mv (.const (.bool false))⟩]
def F16_3 : ICode := .seq F16_2 .ret
def F16_4 : ICode := .cond (.tmp 13) F16_3 .skip
def F16_5 : ICode := .keep [0, 1, 13] F16_4
def F16_6 : ICode := .seq F16_1 F16_5
def F16_7 : ICode := .region [
  ⟨(some 14), none, .mv (.tmp 0)⟩,
  ⟨(some 15), none, .len false (.tmp 14)⟩,
  ⟨(some 16), none, .bin .gtr (.tmp 15) (.const (.int .i64 20))⟩,
  ⟨(some 17), none, .mv (.tmp 16)⟩,
  ⟨(some 18), (some (17, false)), .mv (.tmp 1)⟩,
  ⟨(some 19), (some (17, false)), .len false (.tmp 18)⟩,
  ⟨(some 20), (some (17, false)), .bin .gtr (.tmp 19) (.const (.int .i64 20))⟩,
  ⟨(some 21), none, .pick (.tmp 17) (.const (.bool true)) (.tmp 20)⟩]
def F16_8 : ICode := .region [
  ⟨(some 4), none, .mv (.const (.bool true))⟩]
def F16_9 : ICode := .seq F16_8 .ret
def F16_10 : ICode := .cond (.tmp 21) F16_9 .skip
def F16_11 : ICode := .keep [0, 1, 21] F16_10
def F16_12 : ICode := .seq F16_7 F16_11
def F16_13 : ICode := .region [
  ⟨(some 5), none, .mv (.const (.nils))⟩]
def F16_14 : ICode := .region [
  ⟨(some 6), none, .mv (.const (.nils))⟩]
def F16_15 : ICode := .region [
  ⟨(some 7), none, .mv (.const (.int .i64 0))⟩]
def F16_16 : ICode := .region [
  ⟨(some 22), none, .mv (.tmp 7)⟩,
  ⟨(some 23), none, .mv (.tmp 0)⟩,
  ⟨(some 24), none, .len false (.tmp 23)⟩,
  ⟨(some 25), none, .bin .lss (.tmp 22) (.tmp 24)⟩]
def F16_17 : ICode := .cond (.tmp 25) .skip (.exit 0)
def F16_18 : ICode := .keep [0, 1, 5, 6, 7, 25] F16_17
def F16_19 : ICode := .seq F16_16 F16_18
def F16_20 : ICode := .region [
  ⟨(some 28), none, .mv (.tmp 0)⟩,
  ⟨(some 29), none, .mv (.tmp 7)⟩,
  ⟨(some 30), none, .idxA 1 none (.tmp 28) (.tmp 29)⟩,
  ⟨(some 31), none, .load none (.tmp 30)⟩,
  ⟨(some 32), none, .conv (.int .u64) (.tmp 31)⟩,
  ⟨(some 33), none, .bin .rem (.tmp 32) (.const (.int .u64 8))⟩,
  ⟨(some 34), none, .conv (.int .u8) (.tmp 33)⟩,
  ⟨(some 35), none, .bin .add (.const (.int .u8 97)) (.tmp 34)⟩,
  ⟨(some 36), none, .buildSl false 1 1 [.int .u8 0] [(0, (.tmp 35))]⟩,
  ⟨(some 37), none, .conv .ofBytes (.tmp 36)⟩,
  ⟨(some 38), none, .bin .add (.const (.str [33])) (.tmp 37)⟩,
  ⟨(some 39), none, .bin .add (.tmp 38) (.const (.str [58, 120, 46, 111, 114, 103]))⟩,
  ⟨(some 8), none, .mv (.tmp 39)⟩]
def F16_21 : ICode := .region [
  ⟨(some 40), none, .mv (.tmp 5)⟩,
  ⟨(some 41), none, .call .pure (.func 18) [(.const (.str [109, 46, 114, 111, 111, 109, 95, 109, 101, 109, 98, 101, 114, 115, 104, 105, 112]))]⟩,
  ⟨(some 42), none, .build [.str [], .int .i64 0, .int .i64 0, .str [], .nils, .nils] [(0, 1, (.const (.str [116, 121, 112, 101]))), (1, 5, (.tmp 41))]⟩,
  ⟨(some 43), none, .mv (.tmp 8)⟩,
  ⟨(some 44), none, .call .pure (.func 18) [(.tmp 43)]⟩,
  ⟨(some 45), none, .build [.str [], .int .i64 0, .int .i64 0, .str [], .nils, .nils] [(0, 1, (.const (.str [114, 111, 111, 109, 95, 105, 100]))), (1, 5, (.tmp 44))]⟩,
  ⟨(some 46), none, .call .pure (.func 19) [(.const (.int .i64 1))]⟩,
  ⟨(some 47), none, .build [.str [], .int .i64 0, .int .i64 0, .str [], .nils, .nils] [(0, 1, (.const (.str [118, 105, 97]))), (1, 5, (.tmp 46))]⟩,
  ⟨(some 48), none, .buildSl false 6 3 [.str [], .int .i64 0, .int .i64 0, .str [], .nils, .nils] [(0, (.tmp 42)), (1, (.tmp 45)), (2, (.tmp 47))]⟩,
  ⟨(some 49), none, .call .pure (.func 20) [(.tmp 48)]⟩,
  ⟨(some 50), none, .buildSl false 5 1 [.int .i64 0, .int .i64 0, .str [], .nils, .nils] [(0, (.tmp 49))]⟩,
  ⟨(some 51), none, .append 5 80 false (.tmp 40) (.tmp 50)⟩,
  ⟨(some 5), none, .mv (.tmp 51)⟩]
def F16_22 : ICode := .region [
  ⟨(some 52), none, .mv (.tmp 7)⟩,
  ⟨(some 53), none, .mv (.tmp 1)⟩,
  ⟨(some 54), none, .len false (.tmp 53)⟩,
  ⟨(some 55), none, .bin .lss (.tmp 52) (.tmp 54)⟩,
  ⟨(some 56), none, .mv (.tmp 55)⟩,
  ⟨(some 57), (some (56, true)), .mv (.tmp 1)⟩,
  ⟨(some 58), (some (56, true)), .mv (.tmp 7)⟩,
  ⟨(some 59), (some (56, true)), .idxA 1 none (.tmp 57) (.tmp 58)⟩,
  ⟨(some 60), (some (56, true)), .load none (.tmp 59)⟩,
  ⟨(some 61), (some (56, true)), .bin .and (.tmp 60) (.const (.int .i64 1))⟩,
  ⟨(some 62), (some (56, true)), .bin .eql (.tmp 61) (.const (.int .i64 1))⟩,
  ⟨(some 63), none, .pick (.tmp 56) (.tmp 62) (.const (.bool false))⟩]
def F16_23 : ICode := .region [
  ⟨(some 64), none, .mv (.tmp 5)⟩,
  ⟨(some 65), none, .call .strict (.func 19) [(.const (.int .i64 1))]⟩,
  ⟨(some 66), none, .call .strict (.func 20) [(.const (.nils))]⟩,
  ⟨(some 67), none, .mv (.tmp 8)⟩,
  ⟨(some 68), none, .call .strict (.func 18) [(.tmp 67)]⟩,
  ⟨(some 69), none, .call .strict (.func 18) [(.const (.str [33, 113, 58, 120]))]⟩,
  ⟨(some 70), none, .build [.str [], .int .i64 0, .int .i64 0, .str [], .nils, .nils] [(0, 1, (.const (.str [114, 111, 111, 109, 95, 105, 100]))), (1, 5, (.tmp 69))]⟩,
  ⟨(some 71), none, .buildSl false 6 1 [.str [], .int .i64 0, .int .i64 0, .str [], .nils, .nils] [(0, (.tmp 70))]⟩,
  ⟨(some 72), none, .call .strict (.func 20) [(.tmp 71)]⟩,
  ⟨(some 73), none, .buildSl false 5 4 [.int .i64 0, .int .i64 0, .str [], .nils, .nils] [(0, (.tmp 65)), (1, (.tmp 66)), (2, (.tmp 68)), (3, (.tmp 72))]⟩,
  ⟨(some 74), none, .mv (.tmp 1)⟩,
  ⟨(some 75), none, .mv (.tmp 7)⟩,
  ⟨(some 76), none, .idxA 1 none (.tmp 74) (.tmp 75)⟩,
  ⟨(some 77), none, .load none (.tmp 76)⟩,
  ⟨(some 78), none, .conv (.int .u64) (.tmp 77)⟩,
  ⟨(some 79), none, .bin .quo (.tmp 78) (.const (.int .u64 2))⟩,
  ⟨(some 80), none, .bin .rem (.tmp 79) (.const (.int .u64 4))⟩,
  ⟨(some 81), none, .conv (.int .i64) (.tmp 80)⟩,
  ⟨(some 82), none, .idxA 5 none (.tmp 73) (.tmp 81)⟩,
  ⟨(some 83), none, .load (some 5) (.tmp 82)⟩,
  ⟨(some 84), none, .buildSl false 5 1 [.int .i64 0, .int .i64 0, .str [], .nils, .nils] [(0, (.tmp 83))]⟩,
  ⟨(some 85), none, .append 5 80 false (.tmp 64) (.tmp 84)⟩,
  ⟨(some 5), none, .mv (.tmp 85)⟩]
def F16_24 : ICode := .cond (.tmp 63) F16_23 .skip
def F16_25 : ICode := .keep [0, 1, 5, 6, 7, 8, 63] F16_24
def F16_26 : ICode := .seq F16_22 F16_25
def F16_27 : ICode := .region [
  ⟨(some 9), none, .mv (.const (.bool false))⟩]
def F16_28 : ICode := .region [
  ⟨(some 10), none, .mv (.const (.int .i64 0))⟩]
def F16_29 : ICode := .region [
  ⟨(some 86), none, .mv (.tmp 10)⟩,
  ⟨(some 87), none, .mv (.tmp 6)⟩,
  ⟨(some 88), none, .len false (.tmp 87)⟩,
  ⟨(some 89), none, .bin .lss (.tmp 86) (.tmp 88)⟩]
def F16_30 : ICode := .cond (.tmp 89) .skip (.exit 2)
def F16_31 : ICode := .keep [0, 1, 5, 6, 7, 8, 9, 10, 89] F16_30
def F16_32 : ICode := .seq F16_29 F16_31
def F16_33 : ICode := .region [
  ⟨(some 92), none, .mv (.tmp 9)⟩,
  ⟨(some 93), none, .mv (.tmp 92)⟩,
  ⟨(some 94), (some (93, false)), .mv (.tmp 6)⟩,
  ⟨(some 95), (some (93, false)), .mv (.tmp 10)⟩,
  ⟨(some 96), (some (93, false)), .idxA 1 none (.tmp 94) (.tmp 95)⟩,
  ⟨(some 97), (some (93, false)), .load none (.tmp 96)⟩,
  ⟨(some 98), (some (93, false)), .mv (.tmp 8)⟩,
  ⟨(some 99), (some (93, false)), .bin .eql (.tmp 97) (.tmp 98)⟩,
  ⟨(some 100), none, .pick (.tmp 93) (.const (.bool true)) (.tmp 99)⟩,
  ⟨(some 9), none, .mv (.tmp 100)⟩]
def F16_34 : ICode := .block 3 F16_33
def F16_35 : ICode := .region [
  ⟨(some 90), none, .mv (.tmp 10)⟩,
  ⟨(some 91), none, .bin .add (.tmp 90) (.const (.int .i64 1))⟩,
  ⟨(some 10), none, .mv (.tmp 91)⟩]
def F16_36 : ICode := .keep [0, 1, 5, 6, 7, 8, 9, 10] F16_35
def F16_37 : ICode := .seq F16_34 F16_36
def F16_38 : ICode := .keep [0, 1, 5, 6, 7, 8, 9, 10] F16_37
def F16_39 : ICode := .seq F16_32 F16_38
def F16_40 : ICode := .loop [0, 1, 5, 6, 7, 8, 9, 10] F16_39
def F16_41 : ICode := .block 2 F16_40
def F16_42 : ICode := .keep [0, 1, 5, 6, 7, 8, 9, 10] F16_41
def F16_43 : ICode := .seq F16_28 F16_42
def F16_44 : ICode := .region [
  ⟨(some 101), none, .mv (.tmp 9)⟩,
  ⟨(some 102), none, .un .not (.tmp 101)⟩]
def F16_45 : ICode := .region [
  ⟨(some 103), none, .mv (.tmp 6)⟩,
  ⟨(some 104), none, .mv (.tmp 8)⟩,
  ⟨(some 105), none, .buildSl false 1 1 [.str []] [(0, (.tmp 104))]⟩,
  ⟨(some 106), none, .append 1 16 false (.tmp 103) (.tmp 105)⟩,
  ⟨(some 6), none, .mv (.tmp 106)⟩]
def F16_46 : ICode := .cond (.tmp 102) F16_45 .skip
def F16_47 : ICode := .keep [0, 1, 5, 6, 7, 8, 102] F16_46
def F16_48 : ICode := .seq F16_44 F16_47
def F16_49 : ICode := .keep [0, 1, 5, 6, 7, 8, 9] F16_48
def F16_50 : ICode := .seq F16_43 F16_49
def F16_51 : ICode := .keep [0, 1, 5, 6, 7, 8, 9] F16_50
def F16_52 : ICode := .seq F16_27 F16_51
def F16_53 : ICode := .keep [0, 1, 5, 6, 7, 8] F16_52
def F16_54 : ICode := .seq F16_26 F16_53
def F16_55 : ICode := .keep [0, 1, 5, 6, 7, 8] F16_54
def F16_56 : ICode := .seq F16_21 F16_55
def F16_57 : ICode := .keep [0, 1, 5, 6, 7, 8] F16_56
def F16_58 : ICode := .seq F16_20 F16_57
def F16_59 : ICode := .block 1 F16_58
def F16_60 : ICode := .region [
  ⟨(some 26), none, .mv (.tmp 7)⟩,
  ⟨(some 27), none, .bin .add (.tmp 26) (.const (.int .i64 1))⟩,
  ⟨(some 7), none, .mv (.tmp 27)⟩]
def F16_61 : ICode := .keep [0, 1, 5, 6, 7] F16_60
def F16_62 : ICode := .seq F16_59 F16_61
def F16_63 : ICode := .keep [0, 1, 5, 6, 7] F16_62
def F16_64 : ICode := .seq F16_19 F16_63
def F16_65 : ICode := .loop [0, 1, 5, 6, 7] F16_64
def F16_66 : ICode := .block 0 F16_65
def F16_67 : ICode := .keep [0, 1, 5, 6, 7] F16_66
def F16_68 : ICode := .seq F16_15 F16_67
def F16_69 : ICode := .region [
  ⟨(some 107), none, .mv (.tmp 5)⟩,
  ⟨(some 108), none, .call .pure (.func 21) [(.tmp 107)]⟩,
  ⟨(some 109), none, .build [.str [], .int .i64 0, .int .i64 0, .str [], .nils, .nils] [(0, 1, (.const (.str [97, 108, 108, 111, 119]))), (1, 5, (.tmp 108))]⟩,
  ⟨(some 110), none, .call .pure (.func 18) [(.const (.str [114, 101, 115, 116, 114, 105, 99, 116, 101, 100]))]⟩,
  ⟨(some 111), none, .build [.str [], .int .i64 0, .int .i64 0, .str [], .nils, .nils] [(0, 1, (.const (.str [106, 111, 105, 110, 95, 114, 117, 108, 101]))), (1, 5, (.tmp 110))]⟩,
  ⟨(some 112), none, .buildSl false 6 2 [.str [], .int .i64 0, .int .i64 0, .str [], .nils, .nils] [(0, (.tmp 109)), (1, (.tmp 111))]⟩,
  ⟨(some 113), none, .call .pure (.func 20) [(.tmp 112)]⟩,
  ⟨(some 11), none, .new [.int .i64 0, .int .i64 0, .str [], .nils, .nils]⟩,
  ⟨none, none, .store 5 (.tmp 11) (.tmp 113)⟩]
def F16_70 : ICode := .region [
  ⟨(some 114), none, .load (some 5) (.tmp 11)⟩,
  ⟨(some 115), none, .call .pure (.func 22) [(.tmp 114)]⟩,
  ⟨(some 116), none, .mv (.tmp 6)⟩,
  ⟨(some 117), none, .call .pure (.func 10) [(.tmp 115), (.tmp 116)]⟩,
  ⟨(some 118), none, .mv (.tmp 117)⟩,
  ⟨(some 119), (some (118, true)), .load (some 5) (.tmp 11)⟩,
  ⟨(some 120), (some (118, true)), .call .pure (.func 23) [(.tmp 119)]⟩,
  ⟨(some 121), (some (118, true)), .bin .eql (.tmp 120) (.const (.str [114, 101, 115, 116, 114, 105, 99, 116, 101, 100]))⟩,
  ⟨(some 122), none, .pick (.tmp 118) (.tmp 121) (.const (.bool false))⟩,
  ⟨(some 4), none, .mv (.tmp 122)⟩]
def F16_71 : ICode := .seq F16_70 .ret
def F16_72 : ICode := .keep [6, 11] F16_71
def F16_73 : ICode := .seq F16_69 F16_72
def F16_74 : ICode := .keep [5, 6] F16_73
def F16_75 : ICode := .seq F16_68 F16_74
def F16_76 : ICode := .keep [0, 1, 5, 6] F16_75
def F16_77 : ICode := .seq F16_14 F16_76
def F16_78 : ICode := .keep [0, 1, 5] F16_77
def F16_79 : ICode := .seq F16_13 F16_78
def F16_80 : ICode := .keep [0, 1] F16_79
def F16_81 : ICode := .seq F16_12 F16_80
def F16_82 : ICode := .keep [0, 1] F16_81
def F16_83 : ICode := .seq F16_6 F16_82
def F16_84 : ICode := .keep [0, 1] F16_83
def F16_85 : ICode := .seq F16_0 F16_84
/-- introit/introitlaw18.RulesAllows -/
def F16 : IFunc := ⟨F16_85, [.tmp 4]⟩

def F1_0 : ICode := .region [
  ⟨(some 0), none, .mv (.const (.bool false))⟩]
def F1_1 : ICode := .region [
  ⟨(some 2), none, .build [.int .i64 0, .int .i64 0, .str [], .nils, .nils, .str [], .str [], .str [], .str [], .str [], .bool false, .int .i64 0, .int .i64 0, .nils, .nils, .int .i64 0, .int .i64 0, .str [], .nils, .nils] [(7, 1, (.const (.str [109, 46, 114, 111, 111, 109, 46, 109, 101, 115, 115, 97, 103, 101]))), (8, 1, (.const (.str [64, 97, 58, 120])))]⟩,
  ⟨(some 3), none, .call .pure (.func 5) [(.tmp 2)]⟩,
  ⟨(some 1), none, .mv (.tmp 3)⟩]
def F1_2 : ICode := .region [
  ⟨(some 4), none, .mv (.tmp 1)⟩,
  ⟨(some 5), none, .len false (.tmp 4)⟩,
  ⟨(some 6), none, .bin .eql (.tmp 5) (.const (.int .i64 3))⟩,
  ⟨(some 7), none, .mv (.tmp 6)⟩,
  ⟨(some 8), (some (7, true)), .mv (.tmp 1)⟩,
  ⟨(some 9), (some (7, true)), .idxA 2 none (.tmp 8) (.const (.int .i64 0))⟩,
  ⟨(some 10), (some (7, true)), .load (some 2) (.tmp 9)⟩,
  ⟨(some 11), (some (7, true)), .build [.str [], .str []] [(0, 1, (.const (.str [109, 46, 114, 111, 111, 109, 46, 99, 114, 101, 97, 116, 101])))]⟩,
  ⟨(some 12), (some (7, true)), .eqs [.str, .str] false (.tmp 10) (.tmp 11)⟩,
  ⟨(some 13), none, .pick (.tmp 7) (.tmp 12) (.const (.bool false))⟩,
  ⟨(some 14), none, .mv (.tmp 13)⟩,
  ⟨(some 15), (some (14, true)), .mv (.tmp 1)⟩,
  ⟨(some 16), (some (14, true)), .idxA 2 none (.tmp 15) (.const (.int .i64 1))⟩,
  ⟨(some 17), (some (14, true)), .load (some 2) (.tmp 16)⟩,
  ⟨(some 18), (some (14, true)), .build [.str [], .str []] [(0, 1, (.const (.str [109, 46, 114, 111, 111, 109, 46, 112, 111, 119, 101, 114, 95, 108, 101, 118, 101, 108, 115])))]⟩,
  ⟨(some 19), (some (14, true)), .eqs [.str, .str] false (.tmp 17) (.tmp 18)⟩,
  ⟨(some 20), none, .pick (.tmp 14) (.tmp 19) (.const (.bool false))⟩,
  ⟨(some 21), none, .mv (.tmp 20)⟩,
  ⟨(some 22), (some (21, true)), .mv (.tmp 1)⟩,
  ⟨(some 23), (some (21, true)), .idxA 2 none (.tmp 22) (.const (.int .i64 2))⟩,
  ⟨(some 24), (some (21, true)), .load (some 2) (.tmp 23)⟩,
  ⟨(some 25), (some (21, true)), .build [.str [], .str []] [(0, 1, (.const (.str [109, 46, 114, 111, 111, 109, 46, 109, 101, 109, 98, 101, 114]))), (1, 1, (.const (.str [64, 97, 58, 120])))]⟩,
  ⟨(some 26), (some (21, true)), .eqs [.str, .str] false (.tmp 24) (.tmp 25)⟩,
  ⟨(some 27), none, .pick (.tmp 21) (.tmp 26) (.const (.bool false))⟩,
  ⟨(some 0), none, .mv (.tmp 27)⟩]
def F1_3 : ICode := .seq F1_2 .ret
def F1_4 : ICode := .keep [1] F1_3
def F1_5 : ICode := .seq F1_1 F1_4
def F1_6 : ICode := .keep [] F1_5
def F1_7 : ICode := .seq F1_0 F1_6
/-- introit/introitlaw19.awake -/
def F1 : IFunc := ⟨F1_7, [.tmp 0]⟩

def F2_0 : ICode := .region [
  ⟨(some 4), none, .mv (.const (.bool false))⟩]
def F2_1 : ICode := .region [
  ⟨(some 6), none, .mv (.tmp 0)⟩,
  ⟨(some 7), none, .len false (.tmp 6)⟩,
  ⟨(some 8), none, .mv (.tmp 1)⟩,
  ⟨(some 9), none, .bin .gtr (.tmp 7) (.tmp 8)⟩]
def F2_2 : ICode := .region [
  ⟨(some 4), none, .mv (.const (.bool false))⟩]
def F2_3 : ICode := .seq F2_2 .ret
def F2_4 : ICode := .cond (.tmp 9) F2_3 .skip
def F2_5 : ICode := .keep [0, 9] F2_4
def F2_6 : ICode := .seq F2_1 F2_5
def F2_7 : ICode := .region [
  ⟨(some 5), none, .mv (.const (.int .i64 0))⟩]
def F2_8 : ICode := .region [
  ⟨(some 10), none, .mv (.tmp 5)⟩,
  ⟨(some 11), none, .mv (.tmp 0)⟩,
  ⟨(some 12), none, .len false (.tmp 11)⟩,
  ⟨(some 13), none, .bin .lss (.tmp 10) (.tmp 12)⟩]
def F2_9 : ICode := .cond (.tmp 13) .skip (.exit 0)
def F2_10 : ICode := .keep [0, 5, 13] F2_9
def F2_11 : ICode := .seq F2_8 F2_10
def F2_12 : ICode := .region [
  ⟨(some 16), none, .mv (.tmp 0)⟩,
  ⟨(some 17), none, .mv (.tmp 5)⟩,
  ⟨(some 18), none, .idxA 20 none (.tmp 16) (.tmp 17)⟩,
  ⟨(some 19), none, .fieldA 15 (.tmp 18)⟩,
  ⟨(some 20), none, .load (some 5) (.tmp 19)⟩,
  ⟨(some 21), none, .call .strict (.func 24) [(.tmp 20), (.const (.int .i64 800))]⟩,
  ⟨(some 22), none, .un .not (.tmp 21)⟩,
  ⟨(some 23), none, .mv (.tmp 22)⟩,
  ⟨(some 24), (some (23, false)), .mv (.tmp 0)⟩,
  ⟨(some 25), (some (23, false)), .mv (.tmp 5)⟩,
  ⟨(some 26), (some (23, false)), .idxA 20 none (.tmp 24) (.tmp 25)⟩,
  ⟨(some 27), (some (23, false)), .fieldA 15 (.tmp 26)⟩,
  ⟨(some 28), (some (23, false)), .load (some 5) (.tmp 27)⟩,
  ⟨(some 29), (some (23, false)), .call .strict (.func 25) [(.tmp 28)]⟩,
  ⟨(some 30), (some (23, false)), .un .not (.tmp 29)⟩,
  ⟨(some 31), none, .pick (.tmp 23) (.const (.bool true)) (.tmp 30)⟩,
  ⟨(some 32), none, .mv (.tmp 31)⟩,
  ⟨(some 33), (some (32, false)), .mv (.tmp 0)⟩,
  ⟨(some 34), (some (32, false)), .mv (.tmp 5)⟩,
  ⟨(some 35), (some (32, false)), .idxA 20 none (.tmp 33) (.tmp 34)⟩,
  ⟨(some 36), (some (32, false)), .fieldA 15 (.tmp 35)⟩,
  ⟨(some 37), (some (32, false)), .fieldA 0 (.tmp 36)⟩,
  ⟨(some 38), (some (32, false)), .load none (.tmp 37)⟩,
  ⟨(some 39), (some (32, false)), .bin .neq (.tmp 38) (.const (.int .i64 5))⟩,
  ⟨(some 40), none, .pick (.tmp 32) (.const (.bool true)) (.tmp 39)⟩,
  ⟨(some 41), none, .mv (.tmp 40)⟩,
  ⟨(some 42), (some (41, false)), .mv (.tmp 0)⟩,
  ⟨(some 43), (some (41, false)), .mv (.tmp 5)⟩,
  ⟨(some 44), (some (41, false)), .idxA 20 none (.tmp 42) (.tmp 43)⟩,
  ⟨(some 45), (some (41, false)), .fieldA 7 (.tmp 44)⟩,
  ⟨(some 46), (some (41, false)), .load none (.tmp 45)⟩,
  ⟨(some 47), (some (41, false)), .len true (.tmp 46)⟩,
  ⟨(some 48), (some (41, false)), .mv (.tmp 0)⟩,
  ⟨(some 49), (some (41, false)), .mv (.tmp 5)⟩,
  ⟨(some 50), (some (41, false)), .idxA 20 none (.tmp 48) (.tmp 49)⟩,
  ⟨(some 51), (some (41, false)), .fieldA 9 (.tmp 50)⟩,
  ⟨(some 52), (some (41, false)), .load none (.tmp 51)⟩,
  ⟨(some 53), (some (41, false)), .len true (.tmp 52)⟩,
  ⟨(some 54), (some (41, false)), .bin .add (.tmp 47) (.tmp 53)⟩,
  ⟨(some 55), (some (41, false)), .mv (.tmp 0)⟩,
  ⟨(some 56), (some (41, false)), .mv (.tmp 5)⟩,
  ⟨(some 57), (some (41, false)), .idxA 20 none (.tmp 55) (.tmp 56)⟩,
  ⟨(some 58), (some (41, false)), .fieldA 8 (.tmp 57)⟩,
  ⟨(some 59), (some (41, false)), .load none (.tmp 58)⟩,
  ⟨(some 60), (some (41, false)), .len true (.tmp 59)⟩,
  ⟨(some 61), (some (41, false)), .bin .add (.tmp 54) (.tmp 60)⟩,
  ⟨(some 62), (some (41, false)), .mv (.tmp 0)⟩,
  ⟨(some 63), (some (41, false)), .mv (.tmp 5)⟩,
  ⟨(some 64), (some (41, false)), .idxA 20 none (.tmp 62) (.tmp 63)⟩,
  ⟨(some 65), (some (41, false)), .fieldA 6 (.tmp 64)⟩,
  ⟨(some 66), (some (41, false)), .load none (.tmp 65)⟩,
  ⟨(some 67), (some (41, false)), .len true (.tmp 66)⟩,
  ⟨(some 68), (some (41, false)), .bin .add (.tmp 61) (.tmp 67)⟩,
  ⟨(some 69), (some (41, false)), .bin .gtr (.tmp 68) (.const (.int .i64 1500))⟩,
  ⟨(some 70), none, .pick (.tmp 41) (.const (.bool true)) (.tmp 69)⟩,
  ⟨(some 71), none, .mv (.tmp 70)⟩,
  ⟨(some 72), (some (71, false)), .mv (.tmp 0)⟩,
  ⟨(some 73), (some (71, false)), .mv (.tmp 5)⟩,
  ⟨(some 74), (some (71, false)), .idxA 20 none (.tmp 72) (.tmp 73)⟩,
  ⟨(some 75), (some (71, false)), .fieldA 13 (.tmp 74)⟩,
  ⟨(some 76), (some (71, false)), .load none (.tmp 75)⟩,
  ⟨(some 77), (some (71, false)), .len false (.tmp 76)⟩,
  ⟨(some 78), (some (71, false)), .bin .gtr (.tmp 77) (.const (.int .i64 30))⟩,
  ⟨(some 79), none, .pick (.tmp 71) (.const (.bool true)) (.tmp 78)⟩,
  ⟨(some 80), none, .mv (.tmp 79)⟩,
  ⟨(some 81), (some (80, false)), .mv (.tmp 0)⟩,
  ⟨(some 82), (some (80, false)), .mv (.tmp 5)⟩,
  ⟨(some 83), (some (80, false)), .idxA 20 none (.tmp 81) (.tmp 82)⟩,
  ⟨(some 84), (some (80, false)), .fieldA 14 (.tmp 83)⟩,
  ⟨(some 85), (some (80, false)), .load none (.tmp 84)⟩,
  ⟨(some 86), (some (80, false)), .len false (.tmp 85)⟩,
  ⟨(some 87), (some (80, false)), .bin .gtr (.tmp 86) (.const (.int .i64 30))⟩,
  ⟨(some 88), none, .pick (.tmp 80) (.const (.bool true)) (.tmp 87)⟩]
def F2_13 : ICode := .region [
  ⟨(some 4), none, .mv (.const (.bool false))⟩]
def F2_14 : ICode := .seq F2_13 .ret
def F2_15 : ICode := .cond (.tmp 88) F2_14 .skip
def F2_16 : ICode := .keep [0, 5, 88] F2_15
def F2_17 : ICode := .seq F2_12 F2_16
def F2_18 : ICode := .block 1 F2_17
def F2_19 : ICode := .region [
  ⟨(some 14), none, .mv (.tmp 5)⟩,
  ⟨(some 15), none, .bin .add (.tmp 14) (.const (.int .i64 1))⟩,
  ⟨(some 5), none, .mv (.tmp 15)⟩]
def F2_20 : ICode := .keep [0, 5] F2_19
def F2_21 : ICode := .seq F2_18 F2_20
def F2_22 : ICode := .keep [0, 5] F2_21
def F2_23 : ICode := .seq F2_11 F2_22
def F2_24 : ICode := .loop [0, 5] F2_23
def F2_25 : ICode := .block 0 F2_24
def F2_26 : ICode := .keep [0, 5] F2_25
def F2_27 : ICode := .seq F2_7 F2_26
def F2_28 : ICode := .region [
  ⟨(some 4), none, .mv (.const (.bool true))⟩]
def F2_29 : ICode := .seq F2_28 .ret
def F2_30 : ICode := .keep [] F2_29
def F2_31 : ICode := .seq F2_27 F2_30
def F2_32 : ICode := .keep [0] F2_31
def F2_33 : ICode := .seq F2_6 F2_32
def F2_34 : ICode := .keep [0, 1] F2_33
def F2_35 : ICode := .seq F2_0 F2_34
/-- introit/introitlaw19.Light -/
def F2 : IFunc := ⟨F2_35, [.tmp 4]⟩

def F3_0 : ICode := .region [
  ⟨(some 3), none, .boxV (.tmp 1)⟩,
  ⟨(some 4), none, .new [.int .i64 0, .int .i64 0, .str [], .nils, .nils, .str [], .str [], .str [], .str [], .str [], .bool false, .int .i64 0, .int .i64 0, .nils, .nils, .int .i64 0, .int .i64 0, .str [], .nils, .nils]⟩,
  ⟨(some 5), none, .mv (.const (.bool false))⟩]
def F3_1 : ICode := .region [
  ⟨(some 6), none, .mv (.tmp 0)⟩,
  ⟨(some 7), none, .loadV (some 2) (.tmp 3)⟩,
  ⟨(some 8), none, .call .pure (.func 26) [(.tmp 6), (.tmp 7)]⟩,
  ⟨(some 9), none, .extract (.tmp 8) 0⟩,
  ⟨(some 10), none, .extract (.tmp 8) 1⟩,
  ⟨none, none, .store 20 (.tmp 4) (.tmp 9)⟩,
  ⟨(some 5), none, .mv (.tmp 10)⟩]
def F3_2 : ICode := .seq F3_1 .ret
def F3_3 : ICode := .keep [0, 3, 4] F3_2
def F3_4 : ICode := .seq F3_0 F3_3
/-- introit/pick.Of -/
def F3 : IFunc := ⟨F3_4, [.cell 4 (some 20), .tmp 5]⟩

def F4_0 : ICode := .region [
  ⟨(some 6), none, .new [.int .i64 0, .int .i64 0, .str [], .nils, .nils, .str [], .str [], .str [], .str [], .str [], .bool false, .int .i64 0, .int .i64 0, .nils, .nils, .int .i64 0, .int .i64 0, .str [], .nils, .nils]⟩,
  ⟨(some 7), none, .mv (.const (.bool false))⟩]
def F4_1 : ICode := .region [
  ⟨(some 8), none, .mv (.const (.int .i64 0))⟩]
def F4_2 : ICode := .region [
  ⟨(some 9), none, .mv (.tmp 8)⟩,
  ⟨(some 10), none, .mv (.tmp 0)⟩,
  ⟨(some 11), none, .len false (.tmp 10)⟩,
  ⟨(some 12), none, .bin .lss (.tmp 9) (.tmp 11)⟩]
def F4_3 : ICode := .cond (.tmp 12) .skip (.exit 0)
def F4_4 : ICode := .keep [0, 1, 2, 6, 8, 12] F4_3
def F4_5 : ICode := .seq F4_2 F4_4
def F4_6 : ICode := .region [
  ⟨(some 15), none, .mv (.tmp 0)⟩,
  ⟨(some 16), none, .mv (.tmp 8)⟩,
  ⟨(some 17), none, .idxA 20 none (.tmp 15) (.tmp 16)⟩,
  ⟨(some 18), none, .fieldA 10 (.tmp 17)⟩,
  ⟨(some 19), none, .load none (.tmp 18)⟩,
  ⟨(some 20), none, .mv (.tmp 19)⟩,
  ⟨(some 21), (some (20, true)), .mv (.tmp 0)⟩,
  ⟨(some 22), (some (20, true)), .mv (.tmp 8)⟩,
  ⟨(some 23), (some (20, true)), .idxA 20 none (.tmp 21) (.tmp 22)⟩,
  ⟨(some 24), (some (20, true)), .fieldA 7 (.tmp 23)⟩,
  ⟨(some 25), (some (20, true)), .load none (.tmp 24)⟩,
  ⟨(some 26), (some (20, true)), .mv (.tmp 1)⟩,
  ⟨(some 27), (some (20, true)), .bin .eql (.tmp 25) (.tmp 26)⟩,
  ⟨(some 28), none, .pick (.tmp 20) (.tmp 27) (.const (.bool false))⟩,
  ⟨(some 29), none, .mv (.tmp 28)⟩,
  ⟨(some 30), (some (29, true)), .mv (.tmp 0)⟩,
  ⟨(some 31), (some (29, true)), .mv (.tmp 8)⟩,
  ⟨(some 32), (some (29, true)), .idxA 20 none (.tmp 30) (.tmp 31)⟩,
  ⟨(some 33), (some (29, true)), .fieldA 9 (.tmp 32)⟩,
  ⟨(some 34), (some (29, true)), .load none (.tmp 33)⟩,
  ⟨(some 35), (some (29, true)), .mv (.tmp 2)⟩,
  ⟨(some 36), (some (29, true)), .bin .eql (.tmp 34) (.tmp 35)⟩,
  ⟨(some 37), none, .pick (.tmp 29) (.tmp 36) (.const (.bool false))⟩]
def F4_7 : ICode := .region [
  ⟨(some 38), none, .mv (.tmp 0)⟩,
  ⟨(some 39), none, .mv (.tmp 8)⟩,
  ⟨(some 40), none, .idxA 20 none (.tmp 38) (.tmp 39)⟩,
  ⟨(some 41), none, .load (some 20) (.tmp 40)⟩,
  ⟨none, none, .store 20 (.tmp 6) (.tmp 41)⟩,
  ⟨(some 7), none, .mv (.const (.bool true))⟩]
def F4_8 : ICode := .seq F4_7 .ret
def F4_9 : ICode := .cond (.tmp 37) F4_8 .skip
def F4_10 : ICode := .keep [0, 1, 2, 6, 8, 37] F4_9
def F4_11 : ICode := .seq F4_6 F4_10
def F4_12 : ICode := .block 1 F4_11
def F4_13 : ICode := .region [
  ⟨(some 13), none, .mv (.tmp 8)⟩,
  ⟨(some 14), none, .bin .add (.tmp 13) (.const (.int .i64 1))⟩,
  ⟨(some 8), none, .mv (.tmp 14)⟩]
def F4_14 : ICode := .keep [0, 1, 2, 6, 8] F4_13
def F4_15 : ICode := .seq F4_12 F4_14
def F4_16 : ICode := .keep [0, 1, 2, 6, 8] F4_15
def F4_17 : ICode := .seq F4_5 F4_16
def F4_18 : ICode := .loop [0, 1, 2, 6, 8] F4_17
def F4_19 : ICode := .block 0 F4_18
def F4_20 : ICode := .keep [0, 1, 2, 6, 8] F4_19
def F4_21 : ICode := .seq F4_1 F4_20
def F4_22 : ICode := .region [
  ⟨(some 42), none, .build [.int .i64 0, .int .i64 0, .str [], .nils, .nils, .str [], .str [], .str [], .str [], .str [], .bool false, .int .i64 0, .int .i64 0, .nils, .nils, .int .i64 0, .int .i64 0, .str [], .nils, .nils] []⟩,
  ⟨none, none, .store 20 (.tmp 6) (.tmp 42)⟩,
  ⟨(some 7), none, .mv (.const (.bool false))⟩]
def F4_23 : ICode := .seq F4_22 .ret
def F4_24 : ICode := .keep [6] F4_23
def F4_25 : ICode := .seq F4_21 F4_24
def F4_26 : ICode := .keep [0, 1, 2, 6] F4_25
def F4_27 : ICode := .seq F4_0 F4_26
/-- introit/introitref17.In -/
def F4 : IFunc := ⟨F4_27, [.cell 6 (some 20), .tmp 7]⟩

def F7_0 : ICode := .region [
  ⟨(some 4), none, .mv (.const (.bool false))⟩]
def F7_1 : ICode := .region [
  ⟨(some 6), none, .mv (.tmp 0)⟩,
  ⟨(some 7), none, .len false (.tmp 6)⟩,
  ⟨(some 8), none, .mv (.tmp 1)⟩,
  ⟨(some 9), none, .len false (.tmp 8)⟩,
  ⟨(some 10), none, .bin .neq (.tmp 7) (.tmp 9)⟩]
def F7_2 : ICode := .region [
  ⟨(some 4), none, .mv (.const (.bool false))⟩]
def F7_3 : ICode := .seq F7_2 .ret
def F7_4 : ICode := .cond (.tmp 10) F7_3 .skip
def F7_5 : ICode := .keep [0, 1, 10] F7_4
def F7_6 : ICode := .seq F7_1 F7_5
def F7_7 : ICode := .region [
  ⟨(some 5), none, .mv (.const (.int .i64 0))⟩]
def F7_8 : ICode := .region [
  ⟨(some 11), none, .mv (.tmp 5)⟩,
  ⟨(some 12), none, .mv (.tmp 0)⟩,
  ⟨(some 13), none, .len false (.tmp 12)⟩,
  ⟨(some 14), none, .bin .lss (.tmp 11) (.tmp 13)⟩]
def F7_9 : ICode := .cond (.tmp 14) .skip (.exit 0)
def F7_10 : ICode := .keep [0, 1, 5, 14] F7_9
def F7_11 : ICode := .seq F7_8 F7_10
def F7_12 : ICode := .region [
  ⟨(some 17), none, .mv (.tmp 0)⟩,
  ⟨(some 18), none, .mv (.tmp 5)⟩,
  ⟨(some 19), none, .idxA 2 none (.tmp 17) (.tmp 18)⟩,
  ⟨(some 20), none, .load (some 2) (.tmp 19)⟩,
  ⟨(some 21), none, .mv (.tmp 1)⟩,
  ⟨(some 22), none, .mv (.tmp 5)⟩,
  ⟨(some 23), none, .idxA 2 none (.tmp 21) (.tmp 22)⟩,
  ⟨(some 24), none, .load (some 2) (.tmp 23)⟩,
  ⟨(some 25), none, .eqs [.str, .str] true (.tmp 20) (.tmp 24)⟩]
def F7_13 : ICode := .region [
  ⟨(some 4), none, .mv (.const (.bool false))⟩]
def F7_14 : ICode := .seq F7_13 .ret
def F7_15 : ICode := .cond (.tmp 25) F7_14 .skip
def F7_16 : ICode := .keep [0, 1, 5, 25] F7_15
def F7_17 : ICode := .seq F7_12 F7_16
def F7_18 : ICode := .block 1 F7_17
def F7_19 : ICode := .region [
  ⟨(some 15), none, .mv (.tmp 5)⟩,
  ⟨(some 16), none, .bin .add (.tmp 15) (.const (.int .i64 1))⟩,
  ⟨(some 5), none, .mv (.tmp 16)⟩]
def F7_20 : ICode := .keep [0, 1, 5] F7_19
def F7_21 : ICode := .seq F7_18 F7_20
def F7_22 : ICode := .keep [0, 1, 5] F7_21
def F7_23 : ICode := .seq F7_11 F7_22
def F7_24 : ICode := .loop [0, 1, 5] F7_23
def F7_25 : ICode := .block 0 F7_24
def F7_26 : ICode := .keep [0, 1, 5] F7_25
def F7_27 : ICode := .seq F7_7 F7_26
def F7_28 : ICode := .region [
  ⟨(some 4), none, .mv (.const (.bool true))⟩]
def F7_29 : ICode := .seq F7_28 .ret
def F7_30 : ICode := .keep [] F7_29
def F7_31 : ICode := .seq F7_27 F7_30
def F7_32 : ICode := .keep [0, 1] F7_31
def F7_33 : ICode := .seq F7_6 F7_32
def F7_34 : ICode := .keep [0, 1] F7_33
def F7_35 : ICode := .seq F7_0 F7_34
/-- introit/introitlaw19.slots -/
def F7 : IFunc := ⟨F7_35, [.tmp 4]⟩

def F5_0 : ICode := .region [
  ⟨(some 1), none, .boxV (.tmp 0)⟩,
  ⟨(some 2), none, .mv (.const (.nils))⟩]
def F5_1 : ICode := .region [
  ⟨(some 11), none, .fieldA 7 (.tmp 1)⟩,
  ⟨(some 12), none, .loadV none (.tmp 11)⟩,
  ⟨(some 13), none, .bin .eql (.tmp 12) (.const (.str [109, 46, 114, 111, 111, 109, 46, 99, 114, 101, 97, 116, 101]))⟩]
def F5_2 : ICode := .region [
  ⟨(some 2), none, .mv (.const (.nils))⟩]
def F5_3 : ICode := .seq F5_2 .ret
def F5_4 : ICode := .cond (.tmp 13) F5_3 .skip
def F5_5 : ICode := .keep [1, 13] F5_4
def F5_6 : ICode := .seq F5_1 F5_5
def F5_7 : ICode := .region [
  ⟨(some 14), none, .build [.str [], .str []] [(0, 1, (.const (.str [109, 46, 114, 111, 111, 109, 46, 99, 114, 101, 97, 116, 101])))]⟩,
  ⟨(some 15), none, .build [.str [], .str []] [(0, 1, (.const (.str [109, 46, 114, 111, 111, 109, 46, 112, 111, 119, 101, 114, 95, 108, 101, 118, 101, 108, 115])))]⟩,
  ⟨(some 16), none, .fieldA 8 (.tmp 1)⟩,
  ⟨(some 17), none, .loadV none (.tmp 16)⟩,
  ⟨(some 18), none, .build [.str [], .str []] [(0, 1, (.const (.str [109, 46, 114, 111, 111, 109, 46, 109, 101, 109, 98, 101, 114]))), (1, 1, (.tmp 17))]⟩,
  ⟨(some 19), none, .buildSl false 2 3 [.str [], .str []] [(0, (.tmp 14)), (1, (.tmp 15)), (2, (.tmp 18))]⟩,
  ⟨(some 3), none, .new [.nils]⟩,
  ⟨none, none, .store 1 (.tmp 3) (.tmp 19)⟩]
def F5_8 : ICode := .region [
  ⟨(some 20), none, .mkfn 27 [] [(.tmp 3)]⟩,
  ⟨(some 4), none, .mv (.tmp 20)⟩]
def F5_9 : ICode := .region [
  ⟨(some 21), none, .fieldA 7 (.tmp 1)⟩,
  ⟨(some 22), none, .loadV none (.tmp 21)⟩,
  ⟨(some 23), none, .bin .neq (.tmp 22) (.const (.str [109, 46, 114, 111, 111, 109, 46, 109, 101, 109, 98, 101, 114]))⟩]
def F5_10 : ICode := .region [
  ⟨(some 24), none, .load none (.tmp 3)⟩,
  ⟨(some 2), none, .mv (.tmp 24)⟩]
def F5_11 : ICode := .seq F5_10 .ret
def F5_12 : ICode := .cond (.tmp 23) F5_11 .skip
def F5_13 : ICode := .keep [1, 3, 4, 23] F5_12
def F5_14 : ICode := .seq F5_9 F5_13
def F5_15 : ICode := .region [
  ⟨(some 25), none, .mv (.tmp 4)⟩,
  ⟨(some 26), none, .fieldA 9 (.tmp 1)⟩,
  ⟨(some 27), none, .loadV none (.tmp 26)⟩,
  ⟨(some 28), none, .build [.str [], .str []] [(0, 1, (.const (.str [109, 46, 114, 111, 111, 109, 46, 109, 101, 109, 98, 101, 114]))), (1, 1, (.tmp 27))]⟩,
  ⟨(some 29), none, .call .shared (.tmp 25) [(.tmp 28)]⟩]
def F5_16 : ICode := .region [
  ⟨(some 30), none, .fieldA 15 (.tmp 1)⟩,
  ⟨(some 31), none, .loadV (some 5) (.tmp 30)⟩,
  ⟨(some 32), none, .call .pure (.func 28) [(.tmp 31)]⟩,
  ⟨(some 5), none, .mv (.tmp 32)⟩]
def F5_17 : ICode := .region [
  ⟨(some 33), none, .mv (.tmp 5)⟩,
  ⟨(some 34), none, .bin .eql (.tmp 33) (.const (.str [106, 111, 105, 110]))⟩,
  ⟨(some 35), none, .mv (.tmp 34)⟩,
  ⟨(some 36), (some (35, false)), .mv (.tmp 5)⟩,
  ⟨(some 37), (some (35, false)), .bin .eql (.tmp 36) (.const (.str [105, 110, 118, 105, 116, 101]))⟩,
  ⟨(some 38), none, .pick (.tmp 35) (.const (.bool true)) (.tmp 37)⟩,
  ⟨(some 39), none, .mv (.tmp 38)⟩,
  ⟨(some 40), (some (39, false)), .mv (.tmp 5)⟩,
  ⟨(some 41), (some (39, false)), .bin .eql (.tmp 40) (.const (.str [107, 110, 111, 99, 107]))⟩,
  ⟨(some 42), none, .pick (.tmp 39) (.const (.bool true)) (.tmp 41)⟩]
def F5_18 : ICode := .region [
  ⟨(some 43), none, .mv (.tmp 4)⟩,
  ⟨(some 44), none, .build [.str [], .str []] [(0, 1, (.const (.str [109, 46, 114, 111, 111, 109, 46, 106, 111, 105, 110, 95, 114, 117, 108, 101, 115])))]⟩,
  ⟨(some 45), none, .call .shared (.tmp 43) [(.tmp 44)]⟩]
def F5_19 : ICode := .cond (.tmp 42) F5_18 .skip
def F5_20 : ICode := .keep [1, 3, 4, 5, 42] F5_19
def F5_21 : ICode := .seq F5_17 F5_20
def F5_22 : ICode := .region [
  ⟨(some 47), none, .fieldA 15 (.tmp 1)⟩,
  ⟨(some 48), none, .loadV (some 5) (.tmp 47)⟩,
  ⟨(some 49), none, .call .pure (.func 29) [(.tmp 48)]⟩,
  ⟨(some 46), none, .mv (.tmp 49)⟩,
  ⟨(some 50), none, .extract (.tmp 46) 0⟩,
  ⟨(some 51), none, .extract (.tmp 46) 1⟩,
  ⟨(some 52), none, .extract (.tmp 46) 2⟩,
  ⟨(some 6), none, .mv (.tmp 50)⟩,
  ⟨(some 7), none, .mv (.tmp 51)⟩,
  ⟨(some 8), none, .mv (.tmp 52)⟩]
def F5_23 : ICode := .region [
  ⟨(some 53), none, .mv (.tmp 8)⟩,
  ⟨(some 54), none, .mv (.tmp 53)⟩,
  ⟨(some 55), (some (54, true)), .mv (.tmp 5)⟩,
  ⟨(some 56), (some (54, true)), .bin .eql (.tmp 55) (.const (.str [105, 110, 118, 105, 116, 101]))⟩,
  ⟨(some 57), none, .pick (.tmp 54) (.tmp 56) (.const (.bool false))⟩]
def F5_24 : ICode := .region [
  ⟨(some 58), none, .mv (.tmp 4)⟩,
  ⟨(some 59), none, .mv (.tmp 6)⟩,
  ⟨(some 60), none, .build [.str [], .str []] [(0, 1, (.const (.str [109, 46, 114, 111, 111, 109, 46, 116, 104, 105, 114, 100, 95, 112, 97, 114, 116, 121, 95, 105, 110, 118, 105, 116, 101]))), (1, 1, (.tmp 59))]⟩,
  ⟨(some 61), none, .call .shared (.tmp 58) [(.tmp 60)]⟩]
def F5_25 : ICode := .cond (.tmp 57) F5_24 .skip
def F5_26 : ICode := .keep [1, 3, 4, 5, 6, 57] F5_25
def F5_27 : ICode := .seq F5_23 F5_26
def F5_28 : ICode := .keep [1, 3, 4, 5, 6, 8] F5_27
def F5_29 : ICode := .seq F5_22 F5_28
def F5_30 : ICode := .region [
  ⟨(some 63), none, .fieldA 15 (.tmp 1)⟩,
  ⟨(some 64), none, .loadV (some 5) (.tmp 63)⟩,
  ⟨(some 65), none, .call .pure (.func 30) [(.tmp 64)]⟩,
  ⟨(some 62), none, .mv (.tmp 65)⟩,
  ⟨(some 66), none, .extract (.tmp 62) 0⟩,
  ⟨(some 67), none, .extract (.tmp 62) 1⟩,
  ⟨(some 9), none, .mv (.tmp 66)⟩,
  ⟨(some 10), none, .mv (.tmp 67)⟩]
def F5_31 : ICode := .region [
  ⟨(some 68), none, .mv (.tmp 10)⟩,
  ⟨(some 69), none, .mv (.tmp 68)⟩,
  ⟨(some 70), (some (69, true)), .mv (.tmp 5)⟩,
  ⟨(some 71), (some (69, true)), .bin .eql (.tmp 70) (.const (.str [106, 111, 105, 110]))⟩,
  ⟨(some 72), none, .pick (.tmp 69) (.tmp 71) (.const (.bool false))⟩]
def F5_32 : ICode := .region [
  ⟨(some 73), none, .mv (.tmp 4)⟩,
  ⟨(some 74), none, .mv (.tmp 9)⟩,
  ⟨(some 75), none, .build [.str [], .str []] [(0, 1, (.const (.str [109, 46, 114, 111, 111, 109, 46, 109, 101, 109, 98, 101, 114]))), (1, 1, (.tmp 74))]⟩,
  ⟨(some 76), none, .call .shared (.tmp 73) [(.tmp 75)]⟩]
def F5_33 : ICode := .cond (.tmp 72) F5_32 .skip
def F5_34 : ICode := .keep [3, 4, 9, 72] F5_33
def F5_35 : ICode := .seq F5_31 F5_34
def F5_36 : ICode := .keep [3, 4, 5, 9, 10] F5_35
def F5_37 : ICode := .seq F5_30 F5_36
def F5_38 : ICode := .region [
  ⟨(some 77), none, .load none (.tmp 3)⟩,
  ⟨(some 2), none, .mv (.tmp 77)⟩]
def F5_39 : ICode := .seq F5_38 .ret
def F5_40 : ICode := .keep [3] F5_39
def F5_41 : ICode := .seq F5_37 F5_40
def F5_42 : ICode := .keep [1, 3, 4, 5] F5_41
def F5_43 : ICode := .seq F5_29 F5_42
def F5_44 : ICode := .keep [1, 3, 4, 5] F5_43
def F5_45 : ICode := .seq F5_21 F5_44
def F5_46 : ICode := .keep [1, 3, 4, 5] F5_45
def F5_47 : ICode := .seq F5_16 F5_46
def F5_48 : ICode := .keep [1, 3, 4] F5_47
def F5_49 : ICode := .seq F5_15 F5_48
def F5_50 : ICode := .keep [1, 3, 4] F5_49
def F5_51 : ICode := .seq F5_14 F5_50
def F5_52 : ICode := .keep [1, 3, 4] F5_51
def F5_53 : ICode := .seq F5_8 F5_52
def F5_54 : ICode := .keep [1, 3] F5_53
def F5_55 : ICode := .seq F5_7 F5_54
def F5_56 : ICode := .keep [1] F5_55
def F5_57 : ICode := .seq F5_6 F5_56
def F5_58 : ICode := .keep [1] F5_57
def F5_59 : ICode := .seq F5_0 F5_58
/-- introit/pick.Needs -/
def F5 : IFunc := ⟨F5_59, [.tmp 2]⟩

def F6_0 : ICode := .region [
  ⟨(some 1), none, .boxV (.tmp 0)⟩,
  ⟨(some 2), none, .mv (.const (.nils))⟩]
def F6_1 : ICode := .region [
  ⟨(some 12), none, .fieldA 7 (.tmp 1)⟩,
  ⟨(some 13), none, .loadV none (.tmp 12)⟩,
  ⟨(some 14), none, .bin .eql (.tmp 13) (.const (.str [109, 46, 114, 111, 111, 109, 46, 99, 114, 101, 97, 116, 101]))⟩]
def F6_2 : ICode := .region [
  ⟨(some 2), none, .mv (.const (.nils))⟩]
def F6_3 : ICode := .seq F6_2 .ret
def F6_4 : ICode := .cond (.tmp 14) F6_3 .skip
def F6_5 : ICode := .keep [1, 14] F6_4
def F6_6 : ICode := .seq F6_1 F6_5
def F6_7 : ICode := .region [
  ⟨(some 15), none, .build [.str [], .str []] [(0, 1, (.const (.str [109, 46, 114, 111, 111, 109, 46, 99, 114, 101, 97, 116, 101])))]⟩,
  ⟨(some 16), none, .build [.str [], .str []] [(0, 1, (.const (.str [109, 46, 114, 111, 111, 109, 46, 112, 111, 119, 101, 114, 95, 108, 101, 118, 101, 108, 115])))]⟩,
  ⟨(some 17), none, .fieldA 8 (.tmp 1)⟩,
  ⟨(some 18), none, .loadV none (.tmp 17)⟩,
  ⟨(some 19), none, .build [.str [], .str []] [(0, 1, (.const (.str [109, 46, 114, 111, 111, 109, 46, 109, 101, 109, 98, 101, 114]))), (1, 1, (.tmp 18))]⟩,
  ⟨(some 20), none, .buildSl false 2 3 [.str [], .str []] [(0, (.tmp 15)), (1, (.tmp 16)), (2, (.tmp 19))]⟩,
  ⟨(some 3), none, .mv (.tmp 20)⟩]
def F6_8 : ICode := .region [
  ⟨(some 21), none, .fieldA 7 (.tmp 1)⟩,
  ⟨(some 22), none, .loadV none (.tmp 21)⟩,
  ⟨(some 23), none, .bin .eql (.tmp 22) (.const (.str [109, 46, 114, 111, 111, 109, 46, 109, 101, 109, 98, 101, 114]))⟩]
def F6_9 : ICode := .region [
  ⟨(some 24), none, .fieldA 15 (.tmp 1)⟩,
  ⟨(some 25), none, .loadV (some 5) (.tmp 24)⟩,
  ⟨(some 26), none, .call .pure (.func 31) [(.tmp 25)]⟩,
  ⟨(some 4), none, .mv (.tmp 26)⟩]
def F6_10 : ICode := .region [
  ⟨(some 27), none, .mv (.tmp 3)⟩,
  ⟨(some 28), none, .fieldA 9 (.tmp 1)⟩,
  ⟨(some 29), none, .loadV none (.tmp 28)⟩,
  ⟨(some 30), none, .build [.str [], .str []] [(0, 1, (.const (.str [109, 46, 114, 111, 111, 109, 46, 109, 101, 109, 98, 101, 114]))), (1, 1, (.tmp 29))]⟩,
  ⟨(some 31), none, .buildSl false 2 1 [.str [], .str []] [(0, (.tmp 30))]⟩,
  ⟨(some 32), none, .append 2 32 false (.tmp 27) (.tmp 31)⟩,
  ⟨(some 3), none, .mv (.tmp 32)⟩]
def F6_11 : ICode := .region [
  ⟨(some 33), none, .mv (.tmp 4)⟩,
  ⟨(some 34), none, .bin .eql (.tmp 33) (.const (.str [106, 111, 105, 110]))⟩,
  ⟨(some 35), none, .mv (.tmp 34)⟩,
  ⟨(some 36), (some (35, false)), .mv (.tmp 4)⟩,
  ⟨(some 37), (some (35, false)), .bin .eql (.tmp 36) (.const (.str [105, 110, 118, 105, 116, 101]))⟩,
  ⟨(some 38), none, .pick (.tmp 35) (.const (.bool true)) (.tmp 37)⟩,
  ⟨(some 39), none, .mv (.tmp 38)⟩,
  ⟨(some 40), (some (39, false)), .mv (.tmp 4)⟩,
  ⟨(some 41), (some (39, false)), .bin .eql (.tmp 40) (.const (.str [107, 110, 111, 99, 107]))⟩,
  ⟨(some 42), none, .pick (.tmp 39) (.const (.bool true)) (.tmp 41)⟩]
def F6_12 : ICode := .region [
  ⟨(some 43), none, .mv (.tmp 3)⟩,
  ⟨(some 44), none, .build [.str [], .str []] [(0, 1, (.const (.str [109, 46, 114, 111, 111, 109, 46, 106, 111, 105, 110, 95, 114, 117, 108, 101, 115])))]⟩,
  ⟨(some 45), none, .buildSl false 2 1 [.str [], .str []] [(0, (.tmp 44))]⟩,
  ⟨(some 46), none, .append 2 32 false (.tmp 43) (.tmp 45)⟩,
  ⟨(some 3), none, .mv (.tmp 46)⟩]
def F6_13 : ICode := .cond (.tmp 42) F6_12 .skip
def F6_14 : ICode := .keep [1, 3, 4, 42] F6_13
def F6_15 : ICode := .seq F6_11 F6_14
def F6_16 : ICode := .region [
  ⟨(some 48), none, .fieldA 15 (.tmp 1)⟩,
  ⟨(some 49), none, .loadV (some 5) (.tmp 48)⟩,
  ⟨(some 50), none, .call .pure (.func 32) [(.tmp 49)]⟩,
  ⟨(some 47), none, .mv (.tmp 50)⟩,
  ⟨(some 51), none, .extract (.tmp 47) 0⟩,
  ⟨(some 52), none, .extract (.tmp 47) 1⟩,
  ⟨(some 53), none, .extract (.tmp 47) 2⟩,
  ⟨(some 5), none, .mv (.tmp 51)⟩,
  ⟨(some 6), none, .mv (.tmp 52)⟩,
  ⟨(some 7), none, .mv (.tmp 53)⟩]
def F6_17 : ICode := .region [
  ⟨(some 54), none, .mv (.tmp 7)⟩,
  ⟨(some 55), none, .mv (.tmp 54)⟩,
  ⟨(some 56), (some (55, true)), .mv (.tmp 4)⟩,
  ⟨(some 57), (some (55, true)), .bin .eql (.tmp 56) (.const (.str [105, 110, 118, 105, 116, 101]))⟩,
  ⟨(some 58), none, .pick (.tmp 55) (.tmp 57) (.const (.bool false))⟩]
def F6_18 : ICode := .region [
  ⟨(some 59), none, .mv (.tmp 3)⟩,
  ⟨(some 60), none, .mv (.tmp 5)⟩,
  ⟨(some 61), none, .build [.str [], .str []] [(0, 1, (.const (.str [109, 46, 114, 111, 111, 109, 46, 116, 104, 105, 114, 100, 95, 112, 97, 114, 116, 121, 95, 105, 110, 118, 105, 116, 101]))), (1, 1, (.tmp 60))]⟩,
  ⟨(some 62), none, .buildSl false 2 1 [.str [], .str []] [(0, (.tmp 61))]⟩,
  ⟨(some 63), none, .append 2 32 false (.tmp 59) (.tmp 62)⟩,
  ⟨(some 3), none, .mv (.tmp 63)⟩]
def F6_19 : ICode := .cond (.tmp 58) F6_18 .skip
def F6_20 : ICode := .keep [1, 3, 4, 5, 58] F6_19
def F6_21 : ICode := .seq F6_17 F6_20
def F6_22 : ICode := .keep [1, 3, 4, 5, 7] F6_21
def F6_23 : ICode := .seq F6_16 F6_22
def F6_24 : ICode := .region [
  ⟨(some 65), none, .fieldA 15 (.tmp 1)⟩,
  ⟨(some 66), none, .loadV (some 5) (.tmp 65)⟩,
  ⟨(some 67), none, .call .pure (.func 33) [(.tmp 66)]⟩,
  ⟨(some 64), none, .mv (.tmp 67)⟩,
  ⟨(some 68), none, .extract (.tmp 64) 0⟩,
  ⟨(some 69), none, .extract (.tmp 64) 1⟩,
  ⟨(some 8), none, .mv (.tmp 68)⟩,
  ⟨(some 9), none, .mv (.tmp 69)⟩]
def F6_25 : ICode := .region [
  ⟨(some 70), none, .mv (.tmp 9)⟩,
  ⟨(some 71), none, .mv (.tmp 70)⟩,
  ⟨(some 72), (some (71, true)), .mv (.tmp 4)⟩,
  ⟨(some 73), (some (71, true)), .bin .eql (.tmp 72) (.const (.str [106, 111, 105, 110]))⟩,
  ⟨(some 74), none, .pick (.tmp 71) (.tmp 73) (.const (.bool false))⟩]
def F6_26 : ICode := .region [
  ⟨(some 75), none, .mv (.tmp 3)⟩,
  ⟨(some 76), none, .mv (.tmp 8)⟩,
  ⟨(some 77), none, .build [.str [], .str []] [(0, 1, (.const (.str [109, 46, 114, 111, 111, 109, 46, 109, 101, 109, 98, 101, 114]))), (1, 1, (.tmp 76))]⟩,
  ⟨(some 78), none, .buildSl false 2 1 [.str [], .str []] [(0, (.tmp 77))]⟩,
  ⟨(some 79), none, .append 2 32 false (.tmp 75) (.tmp 78)⟩,
  ⟨(some 3), none, .mv (.tmp 79)⟩]
def F6_27 : ICode := .cond (.tmp 74) F6_26 .skip
def F6_28 : ICode := .keep [3, 8, 74] F6_27
def F6_29 : ICode := .seq F6_25 F6_28
def F6_30 : ICode := .keep [3, 4, 8, 9] F6_29
def F6_31 : ICode := .seq F6_24 F6_30
def F6_32 : ICode := .keep [1, 3, 4] F6_31
def F6_33 : ICode := .seq F6_23 F6_32
def F6_34 : ICode := .keep [1, 3, 4] F6_33
def F6_35 : ICode := .seq F6_15 F6_34
def F6_36 : ICode := .keep [1, 3, 4] F6_35
def F6_37 : ICode := .seq F6_10 F6_36
def F6_38 : ICode := .keep [1, 3, 4] F6_37
def F6_39 : ICode := .seq F6_9 F6_38
def F6_40 : ICode := .cond (.tmp 23) F6_39 .skip
def F6_41 : ICode := .keep [1, 3, 23] F6_40
def F6_42 : ICode := .seq F6_8 F6_41
def F6_43 : ICode := .region [
  ⟨(some 10), none, .mv (.const (.nils))⟩]
def F6_44 : ICode := .region [
  ⟨(some 11), none, .mv (.const (.int .i64 0))⟩]
def F6_45 : ICode := .region [
  ⟨(some 80), none, .mv (.tmp 11)⟩,
  ⟨(some 81), none, .mv (.tmp 3)⟩,
  ⟨(some 82), none, .len false (.tmp 81)⟩,
  ⟨(some 83), none, .bin .lss (.tmp 80) (.tmp 82)⟩]
def F6_46 : ICode := .cond (.tmp 83) .skip (.exit 0)
def F6_47 : ICode := .keep [3, 10, 11, 83] F6_46
def F6_48 : ICode := .seq F6_45 F6_47
def F6_49 : ICode := .region [
  ⟨(some 86), none, .mv (.tmp 10)⟩,
  ⟨(some 87), none, .mv (.tmp 3)⟩,
  ⟨(some 88), none, .mv (.tmp 11)⟩,
  ⟨(some 89), none, .idxA 2 none (.tmp 87) (.tmp 88)⟩,
  ⟨(some 90), none, .load (some 2) (.tmp 89)⟩,
  ⟨(some 91), none, .call .pure (.func 34) [(.tmp 86), (.tmp 90)]⟩,
  ⟨(some 92), none, .un .not (.tmp 91)⟩]
def F6_50 : ICode := .region [
  ⟨(some 93), none, .mv (.tmp 10)⟩,
  ⟨(some 94), none, .mv (.tmp 3)⟩,
  ⟨(some 95), none, .mv (.tmp 11)⟩,
  ⟨(some 96), none, .idxA 2 none (.tmp 94) (.tmp 95)⟩,
  ⟨(some 97), none, .load (some 2) (.tmp 96)⟩,
  ⟨(some 98), none, .buildSl false 2 1 [.str [], .str []] [(0, (.tmp 97))]⟩,
  ⟨(some 99), none, .append 2 32 false (.tmp 93) (.tmp 98)⟩,
  ⟨(some 10), none, .mv (.tmp 99)⟩]
def F6_51 : ICode := .cond (.tmp 92) F6_50 .skip
def F6_52 : ICode := .keep [3, 10, 11, 92] F6_51
def F6_53 : ICode := .seq F6_49 F6_52
def F6_54 : ICode := .block 1 F6_53
def F6_55 : ICode := .region [
  ⟨(some 84), none, .mv (.tmp 11)⟩,
  ⟨(some 85), none, .bin .add (.tmp 84) (.const (.int .i64 1))⟩,
  ⟨(some 11), none, .mv (.tmp 85)⟩]
def F6_56 : ICode := .keep [3, 10, 11] F6_55
def F6_57 : ICode := .seq F6_54 F6_56
def F6_58 : ICode := .keep [3, 10, 11] F6_57
def F6_59 : ICode := .seq F6_48 F6_58
def F6_60 : ICode := .loop [3, 10, 11] F6_59
def F6_61 : ICode := .block 0 F6_60
def F6_62 : ICode := .keep [3, 10, 11] F6_61
def F6_63 : ICode := .seq F6_44 F6_62
def F6_64 : ICode := .region [
  ⟨(some 100), none, .mv (.tmp 10)⟩,
  ⟨(some 2), none, .mv (.tmp 100)⟩]
def F6_65 : ICode := .seq F6_64 .ret
def F6_66 : ICode := .keep [10] F6_65
def F6_67 : ICode := .seq F6_63 F6_66
def F6_68 : ICode := .keep [3, 10] F6_67
def F6_69 : ICode := .seq F6_43 F6_68
def F6_70 : ICode := .keep [3] F6_69
def F6_71 : ICode := .seq F6_42 F6_70
def F6_72 : ICode := .keep [1, 3] F6_71
def F6_73 : ICode := .seq F6_7 F6_72
def F6_74 : ICode := .keep [1] F6_73
def F6_75 : ICode := .seq F6_6 F6_74
def F6_76 : ICode := .keep [1] F6_75
def F6_77 : ICode := .seq F6_0 F6_76
/-- introit/introitref17.Needs -/
def F6 : IFunc := ⟨F6_77, [.tmp 2]⟩

def F10_0 : ICode := .region [
  ⟨(some 4), none, .mv (.const (.bool false))⟩]
def F10_1 : ICode := .region [
  ⟨(some 6), none, .mv (.tmp 0)⟩,
  ⟨(some 7), none, .len false (.tmp 6)⟩,
  ⟨(some 8), none, .mv (.tmp 1)⟩,
  ⟨(some 9), none, .len false (.tmp 8)⟩,
  ⟨(some 10), none, .bin .neq (.tmp 7) (.tmp 9)⟩]
def F10_2 : ICode := .region [
  ⟨(some 4), none, .mv (.const (.bool false))⟩]
def F10_3 : ICode := .seq F10_2 .ret
def F10_4 : ICode := .cond (.tmp 10) F10_3 .skip
def F10_5 : ICode := .keep [0, 1, 10] F10_4
def F10_6 : ICode := .seq F10_1 F10_5
def F10_7 : ICode := .region [
  ⟨(some 5), none, .mv (.const (.int .i64 0))⟩]
def F10_8 : ICode := .region [
  ⟨(some 11), none, .mv (.tmp 5)⟩,
  ⟨(some 12), none, .mv (.tmp 0)⟩,
  ⟨(some 13), none, .len false (.tmp 12)⟩,
  ⟨(some 14), none, .bin .lss (.tmp 11) (.tmp 13)⟩]
def F10_9 : ICode := .cond (.tmp 14) .skip (.exit 0)
def F10_10 : ICode := .keep [0, 1, 5, 14] F10_9
def F10_11 : ICode := .seq F10_8 F10_10
def F10_12 : ICode := .region [
  ⟨(some 17), none, .mv (.tmp 0)⟩,
  ⟨(some 18), none, .mv (.tmp 5)⟩,
  ⟨(some 19), none, .idxA 1 none (.tmp 17) (.tmp 18)⟩,
  ⟨(some 20), none, .load none (.tmp 19)⟩,
  ⟨(some 21), none, .mv (.tmp 1)⟩,
  ⟨(some 22), none, .mv (.tmp 5)⟩,
  ⟨(some 23), none, .idxA 1 none (.tmp 21) (.tmp 22)⟩,
  ⟨(some 24), none, .load none (.tmp 23)⟩,
  ⟨(some 25), none, .bin .neq (.tmp 20) (.tmp 24)⟩]
def F10_13 : ICode := .region [
  ⟨(some 4), none, .mv (.const (.bool false))⟩]
def F10_14 : ICode := .seq F10_13 .ret
def F10_15 : ICode := .cond (.tmp 25) F10_14 .skip
def F10_16 : ICode := .keep [0, 1, 5, 25] F10_15
def F10_17 : ICode := .seq F10_12 F10_16
def F10_18 : ICode := .block 1 F10_17
def F10_19 : ICode := .region [
  ⟨(some 15), none, .mv (.tmp 5)⟩,
  ⟨(some 16), none, .bin .add (.tmp 15) (.const (.int .i64 1))⟩,
  ⟨(some 5), none, .mv (.tmp 16)⟩]
def F10_20 : ICode := .keep [0, 1, 5] F10_19
def F10_21 : ICode := .seq F10_18 F10_20
def F10_22 : ICode := .keep [0, 1, 5] F10_21
def F10_23 : ICode := .seq F10_11 F10_22
def F10_24 : ICode := .loop [0, 1, 5] F10_23
def F10_25 : ICode := .block 0 F10_24
def F10_26 : ICode := .keep [0, 1, 5] F10_25
def F10_27 : ICode := .seq F10_7 F10_26
def F10_28 : ICode := .region [
  ⟨(some 4), none, .mv (.const (.bool true))⟩]
def F10_29 : ICode := .seq F10_28 .ret
def F10_30 : ICode := .keep [] F10_29
def F10_31 : ICode := .seq F10_27 F10_30
def F10_32 : ICode := .keep [0, 1] F10_31
def F10_33 : ICode := .seq F10_6 F10_32
def F10_34 : ICode := .keep [0, 1] F10_33
def F10_35 : ICode := .seq F10_0 F10_34
/-- introit/introitref22.Texts -/
def F10 : IFunc := ⟨F10_35, [.tmp 4]⟩

def F8_0 : ICode := .region [
  ⟨(some 3), none, .boxV (.tmp 1)⟩,
  ⟨(some 4), none, .mv (.const (.nils))⟩]
def F8_1 : ICode := .region [
  ⟨(some 11), none, .mv (.tmp 0)⟩,
  ⟨(some 12), none, .mkfn 26 [(.tmp 11)] []⟩,
  ⟨(some 5), none, .mv (.tmp 12)⟩]
def F8_2 : ICode := .region [
  ⟨(some 6), none, .mv (.const (.nils))⟩]
def F8_3 : ICode := .region [
  ⟨(some 13), none, .loadV (some 20) (.tmp 3)⟩,
  ⟨(some 14), none, .call .pure (.func 5) [(.tmp 13)]⟩,
  ⟨(some 15), none, .len false (.tmp 14)⟩,
  ⟨(some 16), none, .mv (.const (.int .i64 0))⟩]
def F8_4 : ICode := .region [
  ⟨(some 17), none, .bin .lss (.tmp 16) (.tmp 15)⟩]
def F8_5 : ICode := .cond (.tmp 17) .skip (.exit 0)
def F8_6 : ICode := .region [
  ⟨(some 18), none, .idxA 2 none (.tmp 14) (.tmp 16)⟩,
  ⟨(some 19), none, .load (some 2) (.tmp 18)⟩,
  ⟨(some 8), none, .new [.str [], .str []]⟩,
  ⟨none, none, .store 2 (.tmp 8) (.tmp 19)⟩]
def F8_7 : ICode := .region [
  ⟨(some 21), none, .mv (.tmp 5)⟩,
  ⟨(some 22), none, .load (some 2) (.tmp 8)⟩,
  ⟨(some 23), none, .call .pure (.tmp 21) [(.tmp 22)]⟩,
  ⟨(some 20), none, .mv (.tmp 23)⟩,
  ⟨(some 24), none, .extract (.tmp 20) 0⟩,
  ⟨(some 25), none, .extract (.tmp 20) 1⟩,
  ⟨(some 9), none, .new [.int .i64 0, .int .i64 0, .str [], .nils, .nils, .str [], .str [], .str [], .str [], .str [], .bool false, .int .i64 0, .int .i64 0, .nils, .nils, .int .i64 0, .int .i64 0, .str [], .nils, .nils]⟩,
  ⟨none, none, .store 20 (.tmp 9) (.tmp 24)⟩,
  ⟨(some 10), none, .mv (.tmp 25)⟩]
def F8_8 : ICode := .region [
  ⟨(some 26), none, .mv (.tmp 10)⟩]
def F8_9 : ICode := .region [
  ⟨(some 27), none, .mv (.tmp 6)⟩,
  ⟨(some 28), none, .fieldA 5 (.tmp 9)⟩,
  ⟨(some 29), none, .load none (.tmp 28)⟩,
  ⟨(some 30), none, .buildSl false 1 1 [.str []] [(0, (.tmp 29))]⟩,
  ⟨(some 31), none, .append 1 16 false (.tmp 27) (.tmp 30)⟩,
  ⟨(some 6), none, .mv (.tmp 31)⟩]
def F8_10 : ICode := .cond (.tmp 26) F8_9 .skip
def F8_11 : ICode := .keep [5, 6, 9, 14, 15, 16, 26] F8_10
def F8_12 : ICode := .seq F8_8 F8_11
def F8_13 : ICode := .keep [5, 6, 9, 10, 14, 15, 16] F8_12
def F8_14 : ICode := .seq F8_7 F8_13
def F8_15 : ICode := .keep [5, 6, 8, 14, 15, 16] F8_14
def F8_16 : ICode := .seq F8_6 F8_15
def F8_17 : ICode := .block 1 F8_16
def F8_18 : ICode := .region [
  ⟨(some 32), none, .bin .add (.tmp 16) (.const (.int .i64 1))⟩,
  ⟨(some 16), none, .mv (.tmp 32)⟩]
def F8_19 : ICode := .keep [5, 6, 14, 15, 16] F8_18
def F8_20 : ICode := .seq F8_17 F8_19
def F8_21 : ICode := .keep [5, 6, 14, 15, 16] F8_20
def F8_22 : ICode := .seq F8_5 F8_21
def F8_23 : ICode := .keep [5, 6, 14, 15, 16, 17] F8_22
def F8_24 : ICode := .seq F8_4 F8_23
def F8_25 : ICode := .loop [5, 6, 14, 15, 16] F8_24
def F8_26 : ICode := .block 0 F8_25
def F8_27 : ICode := .keep [5, 6, 14, 15, 16] F8_26
def F8_28 : ICode := .seq F8_3 F8_27
def F8_29 : ICode := .region [
  ⟨(some 33), none, .mv (.tmp 6)⟩,
  ⟨(some 4), none, .mv (.tmp 33)⟩]
def F8_30 : ICode := .seq F8_29 .ret
def F8_31 : ICode := .keep [6] F8_30
def F8_32 : ICode := .seq F8_28 F8_31
def F8_33 : ICode := .keep [3, 5, 6] F8_32
def F8_34 : ICode := .seq F8_2 F8_33
def F8_35 : ICode := .keep [3, 5] F8_34
def F8_36 : ICode := .seq F8_1 F8_35
def F8_37 : ICode := .keep [0, 3] F8_36
def F8_38 : ICode := .seq F8_0 F8_37
/-- introit/pick.Pick -/
def F8 : IFunc := ⟨F8_38, [.tmp 4]⟩

def F9_0 : ICode := .region [
  ⟨(some 3), none, .boxV (.tmp 1)⟩,
  ⟨(some 4), none, .mv (.const (.nils))⟩]
def F9_1 : ICode := .region [
  ⟨(some 5), none, .mv (.const (.nils))⟩]
def F9_2 : ICode := .region [
  ⟨(some 10), none, .loadV (some 20) (.tmp 3)⟩,
  ⟨(some 11), none, .call .pure (.func 6) [(.tmp 10)]⟩,
  ⟨(some 6), none, .mv (.tmp 11)⟩]
def F9_3 : ICode := .region [
  ⟨(some 7), none, .mv (.const (.int .i64 0))⟩]
def F9_4 : ICode := .region [
  ⟨(some 12), none, .mv (.tmp 7)⟩,
  ⟨(some 13), none, .mv (.tmp 6)⟩,
  ⟨(some 14), none, .len false (.tmp 13)⟩,
  ⟨(some 15), none, .bin .lss (.tmp 12) (.tmp 14)⟩]
def F9_5 : ICode := .cond (.tmp 15) .skip (.exit 0)
def F9_6 : ICode := .keep [0, 5, 6, 7, 15] F9_5
def F9_7 : ICode := .seq F9_4 F9_6
def F9_8 : ICode := .region [
  ⟨(some 19), none, .mv (.tmp 0)⟩,
  ⟨(some 20), none, .mv (.tmp 6)⟩,
  ⟨(some 21), none, .mv (.tmp 7)⟩,
  ⟨(some 22), none, .idxA 2 none (.tmp 20) (.tmp 21)⟩,
  ⟨(some 23), none, .fieldA 0 (.tmp 22)⟩,
  ⟨(some 24), none, .load none (.tmp 23)⟩,
  ⟨(some 25), none, .mv (.tmp 6)⟩,
  ⟨(some 26), none, .mv (.tmp 7)⟩,
  ⟨(some 27), none, .idxA 2 none (.tmp 25) (.tmp 26)⟩,
  ⟨(some 28), none, .fieldA 1 (.tmp 27)⟩,
  ⟨(some 29), none, .load none (.tmp 28)⟩,
  ⟨(some 30), none, .call .strict (.func 4) [(.tmp 19), (.tmp 24), (.tmp 29)]⟩,
  ⟨(some 18), none, .mv (.tmp 30)⟩,
  ⟨(some 31), none, .extract (.tmp 18) 0⟩,
  ⟨(some 32), none, .extract (.tmp 18) 1⟩,
  ⟨(some 8), none, .new [.int .i64 0, .int .i64 0, .str [], .nils, .nils, .str [], .str [], .str [], .str [], .str [], .bool false, .int .i64 0, .int .i64 0, .nils, .nils, .int .i64 0, .int .i64 0, .str [], .nils, .nils]⟩,
  ⟨none, none, .store 20 (.tmp 8) (.tmp 31)⟩,
  ⟨(some 9), none, .mv (.tmp 32)⟩]
def F9_9 : ICode := .region [
  ⟨(some 33), none, .mv (.tmp 9)⟩]
def F9_10 : ICode := .region [
  ⟨(some 34), none, .mv (.tmp 5)⟩,
  ⟨(some 35), none, .fieldA 5 (.tmp 8)⟩,
  ⟨(some 36), none, .load none (.tmp 35)⟩,
  ⟨(some 37), none, .buildSl false 1 1 [.str []] [(0, (.tmp 36))]⟩,
  ⟨(some 38), none, .append 1 16 false (.tmp 34) (.tmp 37)⟩,
  ⟨(some 5), none, .mv (.tmp 38)⟩]
def F9_11 : ICode := .cond (.tmp 33) F9_10 .skip
def F9_12 : ICode := .keep [0, 5, 6, 7, 8, 33] F9_11
def F9_13 : ICode := .seq F9_9 F9_12
def F9_14 : ICode := .keep [0, 5, 6, 7, 8, 9] F9_13
def F9_15 : ICode := .seq F9_8 F9_14
def F9_16 : ICode := .block 1 F9_15
def F9_17 : ICode := .region [
  ⟨(some 16), none, .mv (.tmp 7)⟩,
  ⟨(some 17), none, .bin .add (.tmp 16) (.const (.int .i64 1))⟩,
  ⟨(some 7), none, .mv (.tmp 17)⟩]
def F9_18 : ICode := .keep [0, 5, 6, 7] F9_17
def F9_19 : ICode := .seq F9_16 F9_18
def F9_20 : ICode := .keep [0, 5, 6, 7] F9_19
def F9_21 : ICode := .seq F9_7 F9_20
def F9_22 : ICode := .loop [0, 5, 6, 7] F9_21
def F9_23 : ICode := .block 0 F9_22
def F9_24 : ICode := .keep [0, 5, 6, 7] F9_23
def F9_25 : ICode := .seq F9_3 F9_24
def F9_26 : ICode := .region [
  ⟨(some 39), none, .mv (.tmp 5)⟩,
  ⟨(some 4), none, .mv (.tmp 39)⟩]
def F9_27 : ICode := .seq F9_26 .ret
def F9_28 : ICode := .keep [5] F9_27
def F9_29 : ICode := .seq F9_25 F9_28
def F9_30 : ICode := .keep [0, 5, 6] F9_29
def F9_31 : ICode := .seq F9_2 F9_30
def F9_32 : ICode := .keep [0, 3, 5] F9_31
def F9_33 : ICode := .seq F9_1 F9_32
def F9_34 : ICode := .keep [0, 3] F9_33
def F9_35 : ICode := .seq F9_0 F9_34
/-- introit/introitref17.Pick -/
def F9 : IFunc := ⟨F9_35, [.tmp 4]⟩

def F11_0 : ICode := .region [
  ⟨(some 2), none, .boxV (.tmp 0)⟩,
  ⟨(some 3), none, .boxV (.tmp 1)⟩,
  ⟨(some 4), none, .mv (.const (.bool false))⟩]
def F11_1 : ICode := .region [
  ⟨(some 5), none, .fieldA 5 (.tmp 2)⟩,
  ⟨(some 6), none, .loadV none (.tmp 5)⟩,
  ⟨(some 7), none, .fieldA 5 (.tmp 3)⟩,
  ⟨(some 8), none, .loadV none (.tmp 7)⟩,
  ⟨(some 9), none, .bin .eql (.tmp 6) (.tmp 8)⟩,
  ⟨(some 10), none, .mv (.tmp 9)⟩,
  ⟨(some 11), (some (10, true)), .fieldA 6 (.tmp 2)⟩,
  ⟨(some 12), (some (10, true)), .loadV none (.tmp 11)⟩,
  ⟨(some 13), (some (10, true)), .fieldA 6 (.tmp 3)⟩,
  ⟨(some 14), (some (10, true)), .loadV none (.tmp 13)⟩,
  ⟨(some 15), (some (10, true)), .bin .eql (.tmp 12) (.tmp 14)⟩,
  ⟨(some 16), none, .pick (.tmp 10) (.tmp 15) (.const (.bool false))⟩,
  ⟨(some 17), none, .mv (.tmp 16)⟩,
  ⟨(some 18), (some (17, true)), .fieldA 7 (.tmp 2)⟩,
  ⟨(some 19), (some (17, true)), .loadV none (.tmp 18)⟩,
  ⟨(some 20), (some (17, true)), .fieldA 7 (.tmp 3)⟩,
  ⟨(some 21), (some (17, true)), .loadV none (.tmp 20)⟩,
  ⟨(some 22), (some (17, true)), .bin .eql (.tmp 19) (.tmp 21)⟩,
  ⟨(some 23), none, .pick (.tmp 17) (.tmp 22) (.const (.bool false))⟩,
  ⟨(some 24), none, .mv (.tmp 23)⟩,
  ⟨(some 25), (some (24, true)), .fieldA 8 (.tmp 2)⟩,
  ⟨(some 26), (some (24, true)), .loadV none (.tmp 25)⟩,
  ⟨(some 27), (some (24, true)), .fieldA 8 (.tmp 3)⟩,
  ⟨(some 28), (some (24, true)), .loadV none (.tmp 27)⟩,
  ⟨(some 29), (some (24, true)), .bin .eql (.tmp 26) (.tmp 28)⟩,
  ⟨(some 30), none, .pick (.tmp 24) (.tmp 29) (.const (.bool false))⟩,
  ⟨(some 31), none, .mv (.tmp 30)⟩,
  ⟨(some 32), (some (31, true)), .fieldA 9 (.tmp 2)⟩,
  ⟨(some 33), (some (31, true)), .loadV none (.tmp 32)⟩,
  ⟨(some 34), (some (31, true)), .fieldA 9 (.tmp 3)⟩,
  ⟨(some 35), (some (31, true)), .loadV none (.tmp 34)⟩,
  ⟨(some 36), (some (31, true)), .bin .eql (.tmp 33) (.tmp 35)⟩,
  ⟨(some 37), none, .pick (.tmp 31) (.tmp 36) (.const (.bool false))⟩,
  ⟨(some 38), none, .mv (.tmp 37)⟩,
  ⟨(some 39), (some (38, true)), .fieldA 10 (.tmp 2)⟩,
  ⟨(some 40), (some (38, true)), .loadV none (.tmp 39)⟩,
  ⟨(some 41), (some (38, true)), .fieldA 10 (.tmp 3)⟩,
  ⟨(some 42), (some (38, true)), .loadV none (.tmp 41)⟩,
  ⟨(some 43), (some (38, true)), .eqb false (.tmp 40) (.tmp 42)⟩,
  ⟨(some 44), none, .pick (.tmp 38) (.tmp 43) (.const (.bool false))⟩,
  ⟨(some 45), none, .mv (.tmp 44)⟩,
  ⟨(some 46), (some (45, true)), .fieldA 11 (.tmp 2)⟩,
  ⟨(some 47), (some (45, true)), .loadV none (.tmp 46)⟩,
  ⟨(some 48), (some (45, true)), .fieldA 11 (.tmp 3)⟩,
  ⟨(some 49), (some (45, true)), .loadV none (.tmp 48)⟩,
  ⟨(some 50), (some (45, true)), .bin .eql (.tmp 47) (.tmp 49)⟩,
  ⟨(some 51), none, .pick (.tmp 45) (.tmp 50) (.const (.bool false))⟩,
  ⟨(some 52), none, .mv (.tmp 51)⟩,
  ⟨(some 53), (some (52, true)), .fieldA 12 (.tmp 2)⟩,
  ⟨(some 54), (some (52, true)), .loadV none (.tmp 53)⟩,
  ⟨(some 55), (some (52, true)), .fieldA 12 (.tmp 3)⟩,
  ⟨(some 56), (some (52, true)), .loadV none (.tmp 55)⟩,
  ⟨(some 57), (some (52, true)), .bin .eql (.tmp 54) (.tmp 56)⟩,
  ⟨(some 58), none, .pick (.tmp 52) (.tmp 57) (.const (.bool false))⟩,
  ⟨(some 59), none, .mv (.tmp 58)⟩,
  ⟨(some 60), (some (59, true)), .fieldA 13 (.tmp 2)⟩,
  ⟨(some 61), (some (59, true)), .loadV none (.tmp 60)⟩,
  ⟨(some 62), (some (59, true)), .fieldA 13 (.tmp 3)⟩,
  ⟨(some 63), (some (59, true)), .loadV none (.tmp 62)⟩,
  ⟨(some 64), (some (59, true)), .call .pure (.func 10) [(.tmp 61), (.tmp 63)]⟩,
  ⟨(some 65), none, .pick (.tmp 59) (.tmp 64) (.const (.bool false))⟩,
  ⟨(some 66), none, .mv (.tmp 65)⟩,
  ⟨(some 67), (some (66, true)), .fieldA 14 (.tmp 2)⟩,
  ⟨(some 68), (some (66, true)), .loadV none (.tmp 67)⟩,
  ⟨(some 69), (some (66, true)), .fieldA 14 (.tmp 3)⟩,
  ⟨(some 70), (some (66, true)), .loadV none (.tmp 69)⟩,
  ⟨(some 71), (some (66, true)), .call .pure (.func 10) [(.tmp 68), (.tmp 70)]⟩,
  ⟨(some 72), none, .pick (.tmp 66) (.tmp 71) (.const (.bool false))⟩,
  ⟨(some 73), none, .mv (.tmp 72)⟩,
  ⟨(some 74), (some (73, true)), .fieldA 15 (.tmp 2)⟩,
  ⟨(some 75), (some (73, true)), .loadV (some 5) (.tmp 74)⟩,
  ⟨(some 76), (some (73, true)), .fieldA 15 (.tmp 3)⟩,
  ⟨(some 77), (some (73, true)), .loadV (some 5) (.tmp 76)⟩,
  ⟨(some 78), (some (73, true)), .call .pure (.func 35) [(.tmp 75), (.tmp 77)]⟩,
  ⟨(some 79), none, .pick (.tmp 73) (.tmp 78) (.const (.bool false))⟩,
  ⟨(some 80), none, .mv (.tmp 79)⟩,
  ⟨(some 81), (some (80, true)), .fieldA 0 (.tmp 2)⟩,
  ⟨(some 82), (some (80, true)), .loadV (some 5) (.tmp 81)⟩,
  ⟨(some 83), (some (80, true)), .fieldA 0 (.tmp 3)⟩,
  ⟨(some 84), (some (80, true)), .loadV (some 5) (.tmp 83)⟩,
  ⟨(some 85), (some (80, true)), .call .pure (.func 35) [(.tmp 82), (.tmp 84)]⟩,
  ⟨(some 86), none, .pick (.tmp 80) (.tmp 85) (.const (.bool false))⟩,
  ⟨(some 4), none, .mv (.tmp 86)⟩]
def F11_2 : ICode := .keep [4] .ret
def F11_3 : ICode := .seq F11_1 F11_2
def F11_4 : ICode := .keep [2, 3] F11_3
def F11_5 : ICode := .seq F11_0 F11_4
/-- introit/introitref22.SameEvent -/
def F11 : IFunc := ⟨F11_5, [.tmp 4]⟩

def F12_0 : ICode := .region [
  ⟨(some 2), none, .boxV (.tmp 0)⟩,
  ⟨(some 4), none, .mv (.const (.bool false))⟩]
def F12_1 : ICode := .region [
  ⟨(some 10), none, .loadV (some 20) (.tmp 2)⟩,
  ⟨(some 11), none, .call .pure (.func 5) [(.tmp 10)]⟩,
  ⟨(some 5), none, .mv (.tmp 11)⟩]
def F12_2 : ICode := .region [
  ⟨(some 6), none, .mv (.const (.nils))⟩]
def F12_3 : ICode := .region [
  ⟨(some 12), none, .mv (.tmp 1)⟩,
  ⟨(some 13), none, .len false (.tmp 12)⟩,
  ⟨(some 14), none, .mv (.const (.int .i64 0))⟩]
def F12_4 : ICode := .region [
  ⟨(some 15), none, .bin .lss (.tmp 14) (.tmp 13)⟩]
def F12_5 : ICode := .cond (.tmp 15) .skip (.exit 0)
def F12_6 : ICode := .region [
  ⟨(some 16), none, .idxA 20 none (.tmp 12) (.tmp 14)⟩,
  ⟨(some 17), none, .load (some 20) (.tmp 16)⟩,
  ⟨(some 8), none, .new [.int .i64 0, .int .i64 0, .str [], .nils, .nils, .str [], .str [], .str [], .str [], .str [], .bool false, .int .i64 0, .int .i64 0, .nils, .nils, .int .i64 0, .int .i64 0, .str [], .nils, .nils]⟩,
  ⟨none, none, .store 20 (.tmp 8) (.tmp 17)⟩]
def F12_7 : ICode := .region [
  ⟨(some 18), none, .load (some 20) (.tmp 8)⟩,
  ⟨(some 19), none, .call .pure (.func 36) [(.tmp 18)]⟩,
  ⟨(some 9), none, .new [.str [], .str []]⟩,
  ⟨none, none, .store 2 (.tmp 9) (.tmp 19)⟩]
def F12_8 : ICode := .region [
  ⟨(some 20), none, .fieldA 10 (.tmp 8)⟩,
  ⟨(some 21), none, .load none (.tmp 20)⟩,
  ⟨(some 22), none, .un .not (.tmp 21)⟩,
  ⟨(some 23), none, .mv (.tmp 22)⟩,
  ⟨(some 24), (some (23, false)), .mv (.tmp 6)⟩,
  ⟨(some 25), (some (23, false)), .load (some 2) (.tmp 9)⟩,
  ⟨(some 26), (some (23, false)), .call .pure (.func 37) [(.tmp 24), (.tmp 25)]⟩,
  ⟨(some 27), none, .pick (.tmp 23) (.const (.bool true)) (.tmp 26)⟩,
  ⟨(some 28), none, .mv (.tmp 27)⟩,
  ⟨(some 29), (some (28, false)), .mv (.tmp 5)⟩,
  ⟨(some 30), (some (28, false)), .load (some 2) (.tmp 9)⟩,
  ⟨(some 31), (some (28, false)), .call .pure (.func 37) [(.tmp 29), (.tmp 30)]⟩,
  ⟨(some 32), (some (28, false)), .un .not (.tmp 31)⟩,
  ⟨(some 33), none, .pick (.tmp 28) (.const (.bool true)) (.tmp 32)⟩]
def F12_9 : ICode := .region [
  ⟨(some 4), none, .mv (.const (.bool false))⟩]
def F12_10 : ICode := .seq F12_9 .ret
def F12_11 : ICode := .cond (.tmp 33) F12_10 .skip
def F12_12 : ICode := .keep [5, 6, 9, 12, 13, 14, 33] F12_11
def F12_13 : ICode := .seq F12_8 F12_12
def F12_14 : ICode := .region [
  ⟨(some 34), none, .mv (.tmp 6)⟩,
  ⟨(some 35), none, .load (some 2) (.tmp 9)⟩,
  ⟨(some 36), none, .buildSl false 2 1 [.str [], .str []] [(0, (.tmp 35))]⟩,
  ⟨(some 37), none, .append 2 32 false (.tmp 34) (.tmp 36)⟩,
  ⟨(some 6), none, .mv (.tmp 37)⟩]
def F12_15 : ICode := .keep [5, 6, 9, 12, 13, 14] F12_14
def F12_16 : ICode := .seq F12_13 F12_15
def F12_17 : ICode := .keep [5, 6, 8, 9, 12, 13, 14] F12_16
def F12_18 : ICode := .seq F12_7 F12_17
def F12_19 : ICode := .keep [5, 6, 8, 12, 13, 14] F12_18
def F12_20 : ICode := .seq F12_6 F12_19
def F12_21 : ICode := .block 1 F12_20
def F12_22 : ICode := .region [
  ⟨(some 38), none, .bin .add (.tmp 14) (.const (.int .i64 1))⟩,
  ⟨(some 14), none, .mv (.tmp 38)⟩]
def F12_23 : ICode := .keep [5, 6, 12, 13, 14] F12_22
def F12_24 : ICode := .seq F12_21 F12_23
def F12_25 : ICode := .keep [5, 6, 12, 13, 14] F12_24
def F12_26 : ICode := .seq F12_5 F12_25
def F12_27 : ICode := .keep [5, 6, 12, 13, 14, 15] F12_26
def F12_28 : ICode := .seq F12_4 F12_27
def F12_29 : ICode := .loop [5, 6, 12, 13, 14] F12_28
def F12_30 : ICode := .block 0 F12_29
def F12_31 : ICode := .keep [5, 6, 12, 13, 14] F12_30
def F12_32 : ICode := .seq F12_3 F12_31
def F12_33 : ICode := .region [
  ⟨(some 4), none, .mv (.const (.bool true))⟩]
def F12_34 : ICode := .seq F12_33 .ret
def F12_35 : ICode := .keep [] F12_34
def F12_36 : ICode := .seq F12_32 F12_35
def F12_37 : ICode := .keep [1, 5, 6] F12_36
def F12_38 : ICode := .seq F12_2 F12_37
def F12_39 : ICode := .keep [1, 5] F12_38
def F12_40 : ICode := .seq F12_1 F12_39
def F12_41 : ICode := .keep [1, 2] F12_40
def F12_42 : ICode := .seq F12_0 F12_41
/-- introit/pick.Fits -/
def F12 : IFunc := ⟨F12_42, [.tmp 4]⟩

def F13_0 : ICode := .region [
  ⟨(some 2), none, .boxV (.tmp 0)⟩,
  ⟨(some 4), none, .mv (.const (.bool false))⟩]
def F13_1 : ICode := .region [
  ⟨(some 9), none, .loadV (some 20) (.tmp 2)⟩,
  ⟨(some 10), none, .call .pure (.func 6) [(.tmp 9)]⟩,
  ⟨(some 5), none, .mv (.tmp 10)⟩]
def F13_2 : ICode := .region [
  ⟨(some 6), none, .mv (.const (.nils))⟩]
def F13_3 : ICode := .region [
  ⟨(some 7), none, .mv (.const (.int .i64 0))⟩]
def F13_4 : ICode := .region [
  ⟨(some 11), none, .mv (.tmp 7)⟩,
  ⟨(some 12), none, .mv (.tmp 1)⟩,
  ⟨(some 13), none, .len false (.tmp 12)⟩,
  ⟨(some 14), none, .bin .lss (.tmp 11) (.tmp 13)⟩]
def F13_5 : ICode := .cond (.tmp 14) .skip (.exit 0)
def F13_6 : ICode := .keep [1, 5, 6, 7, 14] F13_5
def F13_7 : ICode := .seq F13_4 F13_6
def F13_8 : ICode := .region [
  ⟨(some 17), none, .mv (.tmp 1)⟩,
  ⟨(some 18), none, .mv (.tmp 7)⟩,
  ⟨(some 19), none, .idxA 20 none (.tmp 17) (.tmp 18)⟩,
  ⟨(some 20), none, .fieldA 7 (.tmp 19)⟩,
  ⟨(some 21), none, .load none (.tmp 20)⟩,
  ⟨(some 22), none, .mv (.tmp 1)⟩,
  ⟨(some 23), none, .mv (.tmp 7)⟩,
  ⟨(some 24), none, .idxA 20 none (.tmp 22) (.tmp 23)⟩,
  ⟨(some 25), none, .fieldA 9 (.tmp 24)⟩,
  ⟨(some 26), none, .load none (.tmp 25)⟩,
  ⟨(some 27), none, .build [.str [], .str []] [(0, 1, (.tmp 21)), (1, 1, (.tmp 26))]⟩,
  ⟨(some 8), none, .new [.str [], .str []]⟩,
  ⟨none, none, .store 2 (.tmp 8) (.tmp 27)⟩]
def F13_9 : ICode := .region [
  ⟨(some 28), none, .mv (.tmp 1)⟩,
  ⟨(some 29), none, .mv (.tmp 7)⟩,
  ⟨(some 30), none, .idxA 20 none (.tmp 28) (.tmp 29)⟩,
  ⟨(some 31), none, .fieldA 10 (.tmp 30)⟩,
  ⟨(some 32), none, .load none (.tmp 31)⟩,
  ⟨(some 33), none, .un .not (.tmp 32)⟩,
  ⟨(some 34), none, .mv (.tmp 33)⟩,
  ⟨(some 35), (some (34, false)), .mv (.tmp 6)⟩,
  ⟨(some 36), (some (34, false)), .load (some 2) (.tmp 8)⟩,
  ⟨(some 37), (some (34, false)), .call .pure (.func 34) [(.tmp 35), (.tmp 36)]⟩,
  ⟨(some 38), none, .pick (.tmp 34) (.const (.bool true)) (.tmp 37)⟩,
  ⟨(some 39), none, .mv (.tmp 38)⟩,
  ⟨(some 40), (some (39, false)), .mv (.tmp 5)⟩,
  ⟨(some 41), (some (39, false)), .load (some 2) (.tmp 8)⟩,
  ⟨(some 42), (some (39, false)), .call .pure (.func 34) [(.tmp 40), (.tmp 41)]⟩,
  ⟨(some 43), (some (39, false)), .un .not (.tmp 42)⟩,
  ⟨(some 44), none, .pick (.tmp 39) (.const (.bool true)) (.tmp 43)⟩]
def F13_10 : ICode := .region [
  ⟨(some 4), none, .mv (.const (.bool false))⟩]
def F13_11 : ICode := .seq F13_10 .ret
def F13_12 : ICode := .cond (.tmp 44) F13_11 .skip
def F13_13 : ICode := .keep [1, 5, 6, 7, 8, 44] F13_12
def F13_14 : ICode := .seq F13_9 F13_13
def F13_15 : ICode := .region [
  ⟨(some 45), none, .mv (.tmp 6)⟩,
  ⟨(some 46), none, .load (some 2) (.tmp 8)⟩,
  ⟨(some 47), none, .buildSl false 2 1 [.str [], .str []] [(0, (.tmp 46))]⟩,
  ⟨(some 48), none, .append 2 32 false (.tmp 45) (.tmp 47)⟩,
  ⟨(some 6), none, .mv (.tmp 48)⟩]
def F13_16 : ICode := .keep [1, 5, 6, 7, 8] F13_15
def F13_17 : ICode := .seq F13_14 F13_16
def F13_18 : ICode := .keep [1, 5, 6, 7, 8] F13_17
def F13_19 : ICode := .seq F13_8 F13_18
def F13_20 : ICode := .block 1 F13_19
def F13_21 : ICode := .region [
  ⟨(some 15), none, .mv (.tmp 7)⟩,
  ⟨(some 16), none, .bin .add (.tmp 15) (.const (.int .i64 1))⟩,
  ⟨(some 7), none, .mv (.tmp 16)⟩]
def F13_22 : ICode := .keep [1, 5, 6, 7] F13_21
def F13_23 : ICode := .seq F13_20 F13_22
def F13_24 : ICode := .keep [1, 5, 6, 7] F13_23
def F13_25 : ICode := .seq F13_7 F13_24
def F13_26 : ICode := .loop [1, 5, 6, 7] F13_25
def F13_27 : ICode := .block 0 F13_26
def F13_28 : ICode := .keep [1, 5, 6, 7] F13_27
def F13_29 : ICode := .seq F13_3 F13_28
def F13_30 : ICode := .region [
  ⟨(some 4), none, .mv (.const (.bool true))⟩]
def F13_31 : ICode := .seq F13_30 .ret
def F13_32 : ICode := .keep [] F13_31
def F13_33 : ICode := .seq F13_29 F13_32
def F13_34 : ICode := .keep [1, 5, 6] F13_33
def F13_35 : ICode := .seq F13_2 F13_34
def F13_36 : ICode := .keep [1, 5] F13_35
def F13_37 : ICode := .seq F13_1 F13_36
def F13_38 : ICode := .keep [1, 2] F13_37
def F13_39 : ICode := .seq F13_0 F13_38
/-- introit/introitref17.Fits -/
def F13 : IFunc := ⟨F13_39, [.tmp 4]⟩

def F15_0 : ICode := .region [
  ⟨(some 4), none, .new [.int .i64 0, .int .i64 0, .str [], .nils, .nils, .str [], .str [], .str [], .str [], .str [], .bool false, .int .i64 0, .int .i64 0, .nils, .nils, .int .i64 0, .int .i64 0, .str [], .nils, .nils]⟩,
  ⟨(some 5), none, .mv (.const (.bool false))⟩]
def F15_1 : ICode := .region [
  ⟨(some 6), none, .mv (.const (.int .i64 0))⟩]
def F15_2 : ICode := .region [
  ⟨(some 7), none, .mv (.tmp 6)⟩,
  ⟨(some 8), none, .mv (.tmp 0)⟩,
  ⟨(some 9), none, .len false (.tmp 8)⟩,
  ⟨(some 10), none, .bin .lss (.tmp 7) (.tmp 9)⟩]
def F15_3 : ICode := .cond (.tmp 10) .skip (.exit 0)
def F15_4 : ICode := .keep [0, 1, 4, 6, 10] F15_3
def F15_5 : ICode := .seq F15_2 F15_4
def F15_6 : ICode := .region [
  ⟨(some 13), none, .mv (.tmp 0)⟩,
  ⟨(some 14), none, .mv (.tmp 6)⟩,
  ⟨(some 15), none, .idxA 20 none (.tmp 13) (.tmp 14)⟩,
  ⟨(some 16), none, .fieldA 5 (.tmp 15)⟩,
  ⟨(some 17), none, .load none (.tmp 16)⟩,
  ⟨(some 18), none, .mv (.tmp 1)⟩,
  ⟨(some 19), none, .bin .eql (.tmp 17) (.tmp 18)⟩]
def F15_7 : ICode := .region [
  ⟨(some 20), none, .mv (.tmp 0)⟩,
  ⟨(some 21), none, .mv (.tmp 6)⟩,
  ⟨(some 22), none, .idxA 20 none (.tmp 20) (.tmp 21)⟩,
  ⟨(some 23), none, .load (some 20) (.tmp 22)⟩,
  ⟨none, none, .store 20 (.tmp 4) (.tmp 23)⟩,
  ⟨(some 5), none, .mv (.const (.bool true))⟩]
def F15_8 : ICode := .seq F15_7 .ret
def F15_9 : ICode := .cond (.tmp 19) F15_8 .skip
def F15_10 : ICode := .keep [0, 1, 4, 6, 19] F15_9
def F15_11 : ICode := .seq F15_6 F15_10
def F15_12 : ICode := .block 1 F15_11
def F15_13 : ICode := .region [
  ⟨(some 11), none, .mv (.tmp 6)⟩,
  ⟨(some 12), none, .bin .add (.tmp 11) (.const (.int .i64 1))⟩,
  ⟨(some 6), none, .mv (.tmp 12)⟩]
def F15_14 : ICode := .keep [0, 1, 4, 6] F15_13
def F15_15 : ICode := .seq F15_12 F15_14
def F15_16 : ICode := .keep [0, 1, 4, 6] F15_15
def F15_17 : ICode := .seq F15_5 F15_16
def F15_18 : ICode := .loop [0, 1, 4, 6] F15_17
def F15_19 : ICode := .block 0 F15_18
def F15_20 : ICode := .keep [0, 1, 4, 6] F15_19
def F15_21 : ICode := .seq F15_1 F15_20
def F15_22 : ICode := .region [
  ⟨(some 24), none, .build [.int .i64 0, .int .i64 0, .str [], .nils, .nils, .str [], .str [], .str [], .str [], .str [], .bool false, .int .i64 0, .int .i64 0, .nils, .nils, .int .i64 0, .int .i64 0, .str [], .nils, .nils] []⟩,
  ⟨none, none, .store 20 (.tmp 4) (.tmp 24)⟩,
  ⟨(some 5), none, .mv (.const (.bool false))⟩]
def F15_23 : ICode := .seq F15_22 .ret
def F15_24 : ICode := .keep [4] F15_23
def F15_25 : ICode := .seq F15_21 F15_24
def F15_26 : ICode := .keep [0, 1, 4] F15_25
def F15_27 : ICode := .seq F15_0 F15_26
/-- introit/introitref22.Find -/
def F15 : IFunc := ⟨F15_27, [.cell 4 (some 20), .tmp 5]⟩

def F17_0 : ICode := .region [
  ⟨(some 0), none, .mv (.const (.bool false))⟩]
def F17_1 : ICode := .region [
  ⟨(some 2), none, .call .pure (.func 18) [(.const (.str [107, 110, 111, 99, 107]))]⟩,
  ⟨(some 3), none, .build [.str [], .int .i64 0, .int .i64 0, .str [], .nils, .nils] [(0, 1, (.const (.str [106, 111, 105, 110, 95, 114, 117, 108, 101]))), (1, 5, (.tmp 2))]⟩,
  ⟨(some 4), none, .buildSl false 6 1 [.str [], .int .i64 0, .int .i64 0, .str [], .nils, .nils] [(0, (.tmp 3))]⟩,
  ⟨(some 5), none, .call .pure (.func 20) [(.tmp 4)]⟩,
  ⟨(some 1), none, .new [.int .i64 0, .int .i64 0, .str [], .nils, .nils]⟩,
  ⟨none, none, .store 5 (.tmp 1) (.tmp 5)⟩]
def F17_2 : ICode := .region [
  ⟨(some 6), none, .load (some 5) (.tmp 1)⟩,
  ⟨(some 7), none, .call .pure (.func 23) [(.tmp 6)]⟩,
  ⟨(some 8), none, .bin .eql (.tmp 7) (.const (.str [107, 110, 111, 99, 107]))⟩,
  ⟨(some 9), none, .mv (.tmp 8)⟩,
  ⟨(some 10), (some (9, true)), .load (some 5) (.tmp 1)⟩,
  ⟨(some 11), (some (9, true)), .call .pure (.func 28) [(.tmp 10)]⟩,
  ⟨(some 12), (some (9, true)), .bin .eql (.tmp 11) (.const (.str []))⟩,
  ⟨(some 13), none, .pick (.tmp 9) (.tmp 12) (.const (.bool false))⟩,
  ⟨(some 14), none, .mv (.tmp 13)⟩,
  ⟨(some 15), (some (14, true)), .call .pure (.func 18) [(.const (.str [98, 97, 110]))]⟩,
  ⟨(some 16), (some (14, true)), .build [.str [], .int .i64 0, .int .i64 0, .str [], .nils, .nils] [(0, 1, (.const (.str [109, 101, 109, 98, 101, 114, 115, 104, 105, 112]))), (1, 5, (.tmp 15))]⟩,
  ⟨(some 17), (some (14, true)), .buildSl false 6 1 [.str [], .int .i64 0, .int .i64 0, .str [], .nils, .nils] [(0, (.tmp 16))]⟩,
  ⟨(some 18), (some (14, true)), .call .pure (.func 20) [(.tmp 17)]⟩,
  ⟨(some 19), (some (14, true)), .call .pure (.func 28) [(.tmp 18)]⟩,
  ⟨(some 20), (some (14, true)), .bin .eql (.tmp 19) (.const (.str [98, 97, 110]))⟩,
  ⟨(some 21), none, .pick (.tmp 14) (.tmp 20) (.const (.bool false))⟩,
  ⟨(some 0), none, .mv (.tmp 21)⟩]
def F17_3 : ICode := .seq F17_2 .ret
def F17_4 : ICode := .keep [1] F17_3
def F17_5 : ICode := .seq F17_1 F17_4
def F17_6 : ICode := .keep [] F17_5
def F17_7 : ICode := .seq F17_0 F17_6
/-- introit/introitlaw18.awake -/
def F17 : IFunc := ⟨F17_7, [.tmp 0]⟩

def F20_0 : ICode := .region [
  ⟨(some 2), none, .new [.int .i64 0, .int .i64 0, .str [], .nils, .nils]⟩]
def F20_1 : ICode := .region [
  ⟨(some 6), none, .mv (.tmp 0)⟩,
  ⟨(some 7), none, .call .split (.func 38) [(.tmp 6)]⟩,
  ⟨(some 0), none, .mv (.tmp 7)⟩]
def F20_2 : ICode := .region [
  ⟨(some 8), none, .mv (.tmp 0)⟩,
  ⟨(some 9), none, .call .shared (.func 39) [(.tmp 8), (.func 40)]⟩]
def F20_3 : ICode := .region [
  ⟨(some 3), none, .mv (.const (.nils))⟩]
def F20_4 : ICode := .region [
  ⟨(some 10), none, .mv (.tmp 0)⟩,
  ⟨(some 11), none, .len false (.tmp 10)⟩,
  ⟨(some 12), none, .mv (.const (.int .i64 0))⟩]
def F20_5 : ICode := .region [
  ⟨(some 13), none, .bin .lss (.tmp 12) (.tmp 11)⟩]
def F20_6 : ICode := .cond (.tmp 13) .skip (.exit 0)
def F20_7 : ICode := .region [
  ⟨(some 14), none, .mv (.tmp 12)⟩,
  ⟨(some 15), none, .idxA 6 none (.tmp 10) (.tmp 12)⟩,
  ⟨(some 16), none, .load (some 6) (.tmp 15)⟩,
  ⟨(some 5), none, .new [.str [], .int .i64 0, .int .i64 0, .str [], .nils, .nils]⟩,
  ⟨(some 4), none, .mv (.tmp 14)⟩,
  ⟨none, none, .store 6 (.tmp 5) (.tmp 16)⟩]
def F20_8 : ICode := .region [
  ⟨(some 17), none, .mv (.tmp 4)⟩,
  ⟨(some 18), none, .bin .add (.tmp 17) (.const (.int .i64 1))⟩,
  ⟨(some 19), none, .mv (.tmp 0)⟩,
  ⟨(some 20), none, .len false (.tmp 19)⟩,
  ⟨(some 21), none, .bin .eql (.tmp 18) (.tmp 20)⟩,
  ⟨(some 22), none, .mv (.tmp 21)⟩,
  ⟨(some 23), (some (22, false)), .mv (.tmp 0)⟩,
  ⟨(some 24), (some (22, false)), .mv (.tmp 4)⟩,
  ⟨(some 25), (some (22, false)), .bin .add (.tmp 24) (.const (.int .i64 1))⟩,
  ⟨(some 26), (some (22, false)), .idxA 6 none (.tmp 23) (.tmp 25)⟩,
  ⟨(some 27), (some (22, false)), .fieldA 0 (.tmp 26)⟩,
  ⟨(some 28), (some (22, false)), .load none (.tmp 27)⟩,
  ⟨(some 29), (some (22, false)), .fieldA 0 (.tmp 5)⟩,
  ⟨(some 30), (some (22, false)), .load none (.tmp 29)⟩,
  ⟨(some 31), (some (22, false)), .bin .neq (.tmp 28) (.tmp 30)⟩,
  ⟨(some 32), none, .pick (.tmp 22) (.const (.bool true)) (.tmp 31)⟩]
def F20_9 : ICode := .region [
  ⟨(some 33), none, .mv (.tmp 3)⟩,
  ⟨(some 34), none, .load (some 6) (.tmp 5)⟩,
  ⟨(some 35), none, .buildSl false 6 1 [.str [], .int .i64 0, .int .i64 0, .str [], .nils, .nils] [(0, (.tmp 34))]⟩,
  ⟨(some 36), none, .append 6 96 false (.tmp 33) (.tmp 35)⟩,
  ⟨(some 3), none, .mv (.tmp 36)⟩]
def F20_10 : ICode := .cond (.tmp 32) F20_9 .skip
def F20_11 : ICode := .keep [0, 2, 3, 5, 10, 11, 12, 32] F20_10
def F20_12 : ICode := .seq F20_8 F20_11
def F20_13 : ICode := .keep [0, 2, 3, 4, 5, 10, 11, 12] F20_12
def F20_14 : ICode := .seq F20_7 F20_13
def F20_15 : ICode := .block 1 F20_14
def F20_16 : ICode := .region [
  ⟨(some 37), none, .bin .add (.tmp 12) (.const (.int .i64 1))⟩,
  ⟨(some 12), none, .mv (.tmp 37)⟩]
def F20_17 : ICode := .keep [0, 2, 3, 10, 11, 12] F20_16
def F20_18 : ICode := .seq F20_15 F20_17
def F20_19 : ICode := .keep [0, 2, 3, 10, 11, 12] F20_18
def F20_20 : ICode := .seq F20_6 F20_19
def F20_21 : ICode := .keep [0, 2, 3, 10, 11, 12, 13] F20_20
def F20_22 : ICode := .seq F20_5 F20_21
def F20_23 : ICode := .loop [0, 2, 3, 10, 11, 12] F20_22
def F20_24 : ICode := .block 0 F20_23
def F20_25 : ICode := .keep [0, 2, 3, 10, 11, 12] F20_24
def F20_26 : ICode := .seq F20_4 F20_25
def F20_27 : ICode := .region [
  ⟨(some 38), none, .mv (.tmp 3)⟩,
  ⟨(some 39), none, .build [.int .i64 0, .int .i64 0, .str [], .nils, .nils] [(0, 1, (.const (.int .i64 5))), (4, 1, (.tmp 38))]⟩,
  ⟨none, none, .store 5 (.tmp 2) (.tmp 39)⟩]
def F20_28 : ICode := .seq F20_27 .ret
def F20_29 : ICode := .keep [2, 3] F20_28
def F20_30 : ICode := .seq F20_26 F20_29
def F20_31 : ICode := .keep [0, 2, 3] F20_30
def F20_32 : ICode := .seq F20_3 F20_31
def F20_33 : ICode := .keep [0, 2] F20_32
def F20_34 : ICode := .seq F20_2 F20_33
def F20_35 : ICode := .keep [0, 2] F20_34
def F20_36 : ICode := .seq F20_1 F20_35
def F20_37 : ICode := .keep [0, 2] F20_36
def F20_38 : ICode := .seq F20_0 F20_37
/-- introit/value.Map -/
def F20 : IFunc := ⟨F20_38, [.cell 2 (some 5)]⟩

def F18_0 : ICode := .region [
  ⟨(some 2), none, .new [.int .i64 0, .int .i64 0, .str [], .nils, .nils]⟩]
def F18_1 : ICode := .region [
  ⟨(some 3), none, .mv (.tmp 0)⟩,
  ⟨(some 4), none, .build [.int .i64 0, .int .i64 0, .str [], .nils, .nils] [(0, 1, (.const (.int .i64 3))), (2, 1, (.tmp 3))]⟩,
  ⟨none, none, .store 5 (.tmp 2) (.tmp 4)⟩]
def F18_2 : ICode := .seq F18_1 .ret
def F18_3 : ICode := .keep [0, 2] F18_2
def F18_4 : ICode := .seq F18_0 F18_3
/-- introit/value.Text -/
def F18 : IFunc := ⟨F18_4, [.cell 2 (some 5)]⟩

def F19_0 : ICode := .region [
  ⟨(some 2), none, .new [.int .i64 0, .int .i64 0, .str [], .nils, .nils]⟩]
def F19_1 : ICode := .region [
  ⟨(some 3), none, .mv (.tmp 0)⟩,
  ⟨(some 4), none, .build [.int .i64 0, .int .i64 0, .str [], .nils, .nils] [(0, 1, (.const (.int .i64 2))), (1, 1, (.tmp 3))]⟩,
  ⟨none, none, .store 5 (.tmp 2) (.tmp 4)⟩]
def F19_2 : ICode := .seq F19_1 .ret
def F19_3 : ICode := .keep [0, 2] F19_2
def F19_4 : ICode := .seq F19_0 F19_3
/-- introit/value.Int -/
def F19 : IFunc := ⟨F19_4, [.cell 2 (some 5)]⟩

def F21_0 : ICode := .region [
  ⟨(some 2), none, .new [.int .i64 0, .int .i64 0, .str [], .nils, .nils]⟩]
def F21_1 : ICode := .region [
  ⟨(some 3), none, .mv (.tmp 0)⟩,
  ⟨(some 4), none, .call .split (.func 41) [(.tmp 3)]⟩,
  ⟨(some 5), none, .build [.int .i64 0, .int .i64 0, .str [], .nils, .nils] [(0, 1, (.const (.int .i64 4))), (3, 1, (.tmp 4))]⟩,
  ⟨none, none, .store 5 (.tmp 2) (.tmp 5)⟩]
def F21_2 : ICode := .seq F21_1 .ret
def F21_3 : ICode := .keep [0, 2] F21_2
def F21_4 : ICode := .seq F21_0 F21_3
/-- introit/value.List -/
def F21 : IFunc := ⟨F21_4, [.cell 2 (some 5)]⟩

def F22_0 : ICode := .region [
  ⟨(some 1), none, .boxV (.tmp 0)⟩,
  ⟨(some 2), none, .mv (.const (.nils))⟩]
def F22_1 : ICode := .region [
  ⟨(some 3), none, .mv (.func 42)⟩]
def F22_2 : ICode := .region [
  ⟨(some 4), none, .mv (.const (.nils))⟩]
def F22_3 : ICode := .region [
  ⟨(some 9), none, .loadV (some 5) (.tmp 1)⟩,
  ⟨(some 10), none, .call .pure (.func 43) [(.tmp 9)]⟩,
  ⟨(some 11), none, .call .pure (.func 44) [(.tmp 10), (.const (.str [97, 108, 108, 111, 119]))]⟩,
  ⟨(some 12), none, .len false (.tmp 11)⟩,
  ⟨(some 13), none, .mv (.const (.int .i64 0))⟩]
def F22_4 : ICode := .region [
  ⟨(some 14), none, .bin .lss (.tmp 13) (.tmp 12)⟩]
def F22_5 : ICode := .cond (.tmp 14) .skip (.exit 0)
def F22_6 : ICode := .region [
  ⟨(some 15), none, .idxA 5 none (.tmp 11) (.tmp 13)⟩,
  ⟨(some 16), none, .load (some 5) (.tmp 15)⟩,
  ⟨(some 6), none, .new [.int .i64 0, .int .i64 0, .str [], .nils, .nils]⟩,
  ⟨none, none, .store 5 (.tmp 6) (.tmp 16)⟩]
def F22_7 : ICode := .region [
  ⟨(some 18), none, .mv (.tmp 3)⟩,
  ⟨(some 19), none, .load (some 5) (.tmp 6)⟩,
  ⟨(some 20), none, .call .pure (.tmp 18) [(.tmp 19)]⟩,
  ⟨(some 17), none, .mv (.tmp 20)⟩,
  ⟨(some 21), none, .extract (.tmp 17) 0⟩,
  ⟨(some 22), none, .extract (.tmp 17) 1⟩,
  ⟨(some 7), none, .mv (.tmp 21)⟩,
  ⟨(some 8), none, .mv (.tmp 22)⟩]
def F22_8 : ICode := .region [
  ⟨(some 23), none, .mv (.tmp 8)⟩,
  ⟨(some 24), none, .mv (.tmp 23)⟩,
  ⟨(some 25), (some (24, true)), .mv (.tmp 4)⟩,
  ⟨(some 26), (some (24, true)), .mv (.tmp 7)⟩,
  ⟨(some 27), (some (24, true)), .call .pure (.func 45) [(.tmp 25), (.tmp 26)]⟩,
  ⟨(some 28), (some (24, true)), .un .not (.tmp 27)⟩,
  ⟨(some 29), none, .pick (.tmp 24) (.tmp 28) (.const (.bool false))⟩]
def F22_9 : ICode := .region [
  ⟨(some 30), none, .mv (.tmp 4)⟩,
  ⟨(some 31), none, .mv (.tmp 7)⟩,
  ⟨(some 32), none, .buildSl false 1 1 [.str []] [(0, (.tmp 31))]⟩,
  ⟨(some 33), none, .append 1 16 false (.tmp 30) (.tmp 32)⟩,
  ⟨(some 4), none, .mv (.tmp 33)⟩]
def F22_10 : ICode := .cond (.tmp 29) F22_9 .skip
def F22_11 : ICode := .keep [3, 4, 7, 11, 12, 13, 29] F22_10
def F22_12 : ICode := .seq F22_8 F22_11
def F22_13 : ICode := .keep [3, 4, 7, 8, 11, 12, 13] F22_12
def F22_14 : ICode := .seq F22_7 F22_13
def F22_15 : ICode := .keep [3, 4, 6, 11, 12, 13] F22_14
def F22_16 : ICode := .seq F22_6 F22_15
def F22_17 : ICode := .block 1 F22_16
def F22_18 : ICode := .region [
  ⟨(some 34), none, .bin .add (.tmp 13) (.const (.int .i64 1))⟩,
  ⟨(some 13), none, .mv (.tmp 34)⟩]
def F22_19 : ICode := .keep [3, 4, 11, 12, 13] F22_18
def F22_20 : ICode := .seq F22_17 F22_19
def F22_21 : ICode := .keep [3, 4, 11, 12, 13] F22_20
def F22_22 : ICode := .seq F22_5 F22_21
def F22_23 : ICode := .keep [3, 4, 11, 12, 13, 14] F22_22
def F22_24 : ICode := .seq F22_4 F22_23
def F22_25 : ICode := .loop [3, 4, 11, 12, 13] F22_24
def F22_26 : ICode := .block 0 F22_25
def F22_27 : ICode := .keep [3, 4, 11, 12, 13] F22_26
def F22_28 : ICode := .seq F22_3 F22_27
def F22_29 : ICode := .region [
  ⟨(some 35), none, .mv (.tmp 4)⟩,
  ⟨(some 2), none, .mv (.tmp 35)⟩]
def F22_30 : ICode := .seq F22_29 .ret
def F22_31 : ICode := .keep [4] F22_30
def F22_32 : ICode := .seq F22_28 F22_31
def F22_33 : ICode := .keep [1, 3, 4] F22_32
def F22_34 : ICode := .seq F22_2 F22_33
def F22_35 : ICode := .keep [1, 3] F22_34
def F22_36 : ICode := .seq F22_1 F22_35
def F22_37 : ICode := .keep [1] F22_36
def F22_38 : ICode := .seq F22_0 F22_37
/-- introit/rules.Allows -/
def F22 : IFunc := ⟨F22_38, [.tmp 2]⟩

def F23_0 : ICode := .region [
  ⟨(some 1), none, .boxV (.tmp 0)⟩,
  ⟨(some 2), none, .mv (.const (.str []))⟩]
def F23_1 : ICode := .region [
  ⟨(some 6), none, .loadV (some 5) (.tmp 1)⟩,
  ⟨(some 7), none, .call .pure (.func 43) [(.tmp 6)]⟩,
  ⟨(some 8), none, .call .pure (.func 46) [(.tmp 7), (.const (.str [106, 111, 105, 110, 95, 114, 117, 108, 101]))]⟩,
  ⟨(some 5), none, .mv (.tmp 8)⟩,
  ⟨(some 9), none, .extract (.tmp 5) 0⟩,
  ⟨(some 10), none, .extract (.tmp 5) 1⟩,
  ⟨(some 3), none, .mv (.tmp 9)⟩,
  ⟨(some 4), none, .mv (.tmp 10)⟩]
def F23_2 : ICode := .region [
  ⟨(some 11), none, .mv (.tmp 3)⟩,
  ⟨(some 2), none, .mv (.tmp 11)⟩]
def F23_3 : ICode := .seq F23_2 .ret
def F23_4 : ICode := .keep [3] F23_3
def F23_5 : ICode := .seq F23_1 F23_4
def F23_6 : ICode := .keep [1] F23_5
def F23_7 : ICode := .seq F23_0 F23_6
/-- introit/rules.Rule -/
def F23 : IFunc := ⟨F23_7, [.tmp 2]⟩

def F24_0 : ICode := .region [
  ⟨(some 2), none, .boxV (.tmp 0)⟩,
  ⟨(some 4), none, .mv (.const (.bool false))⟩]
def F24_1 : ICode := .region [
  ⟨(some 5), none, .loadV (some 5) (.tmp 2)⟩,
  ⟨(some 6), none, .mv (.tmp 1)⟩,
  ⟨(some 7), none, .call .pure (.func 47) [(.tmp 5), (.const (.int .i64 0)), (.tmp 6)]⟩,
  ⟨(some 8), none, .mv (.tmp 1)⟩,
  ⟨(some 9), none, .bin .leq (.tmp 7) (.tmp 8)⟩,
  ⟨(some 4), none, .mv (.tmp 9)⟩]
def F24_2 : ICode := .seq F24_1 .ret
def F24_3 : ICode := .keep [1, 2] F24_2
def F24_4 : ICode := .seq F24_0 F24_3
/-- introit/introitlaw2.Light -/
def F24 : IFunc := ⟨F24_4, [.tmp 4]⟩

def F25_0 : ICode := .region [
  ⟨(some 1), none, .boxV (.tmp 0)⟩,
  ⟨(some 2), none, .mv (.const (.bool false))⟩]
def F25_1 : ICode := .region [
  ⟨(some 3), none, .loadV (some 5) (.tmp 1)⟩,
  ⟨(some 4), none, .call .pure (.func 48) [(.tmp 3)]⟩,
  ⟨(some 5), none, .mv (.tmp 4)⟩,
  ⟨(some 6), (some (5, true)), .loadV (some 5) (.tmp 1)⟩,
  ⟨(some 7), (some (5, true)), .call .pure (.func 49) [(.tmp 6)]⟩,
  ⟨(some 8), (some (5, true)), .bin .leq (.tmp 7) (.const (.int .i64 50))⟩,
  ⟨(some 9), none, .pick (.tmp 5) (.tmp 8) (.const (.bool false))⟩,
  ⟨(some 2), none, .mv (.tmp 9)⟩]
def F25_2 : ICode := .seq F25_1 .ret
def F25_3 : ICode := .keep [1] F25_2
def F25_4 : ICode := .seq F25_0 F25_3
/-- introit/value.Good -/
def F25 : IFunc := ⟨F25_4, [.tmp 2]⟩

def F26_0 : ICode := .region [
  ⟨(some 3), none, .boxV (.tmp 1)⟩,
  ⟨(some 4), none, .new [.int .i64 0, .int .i64 0, .str [], .nils, .nils, .str [], .str [], .str [], .str [], .str [], .bool false, .int .i64 0, .int .i64 0, .nils, .nils, .int .i64 0, .int .i64 0, .str [], .nils, .nils]⟩,
  ⟨(some 5), none, .mv (.const (.bool false))⟩]
def F26_1 : ICode := .region [
  ⟨(some 7), none, .mv (.tmp 0)⟩,
  ⟨(some 8), none, .mkfn 50 [] [(.tmp 3)]⟩,
  ⟨(some 9), none, .call .pure (.func 51) [(.tmp 7), (.tmp 8)]⟩,
  ⟨(some 6), none, .mv (.tmp 9)⟩]
def F26_2 : ICode := .region [
  ⟨(some 10), none, .mv (.tmp 6)⟩,
  ⟨(some 11), none, .bin .lss (.tmp 10) (.const (.int .i64 0))⟩]
def F26_3 : ICode := .region [
  ⟨(some 12), none, .build [.int .i64 0, .int .i64 0, .str [], .nils, .nils, .str [], .str [], .str [], .str [], .str [], .bool false, .int .i64 0, .int .i64 0, .nils, .nils, .int .i64 0, .int .i64 0, .str [], .nils, .nils] []⟩,
  ⟨none, none, .store 20 (.tmp 4) (.tmp 12)⟩,
  ⟨(some 5), none, .mv (.const (.bool false))⟩]
def F26_4 : ICode := .seq F26_3 .ret
def F26_5 : ICode := .cond (.tmp 11) F26_4 .skip
def F26_6 : ICode := .keep [0, 4, 6, 11] F26_5
def F26_7 : ICode := .seq F26_2 F26_6
def F26_8 : ICode := .region [
  ⟨(some 13), none, .mv (.tmp 0)⟩,
  ⟨(some 14), none, .mv (.tmp 6)⟩,
  ⟨(some 15), none, .idxA 20 none (.tmp 13) (.tmp 14)⟩,
  ⟨(some 16), none, .load (some 20) (.tmp 15)⟩,
  ⟨(some 17), none, .call .pure (.func 52) [(.tmp 16)]⟩,
  ⟨none, none, .store 20 (.tmp 4) (.tmp 17)⟩,
  ⟨(some 5), none, .mv (.const (.bool true))⟩]
def F26_9 : ICode := .seq F26_8 .ret
def F26_10 : ICode := .keep [0, 4, 6] F26_9
def F26_11 : ICode := .seq F26_7 F26_10
def F26_12 : ICode := .keep [0, 4, 6] F26_11
def F26_13 : ICode := .seq F26_1 F26_12
def F26_14 : ICode := .keep [0, 3, 4] F26_13
def F26_15 : ICode := .seq F26_0 F26_14
/-- (introit/pick.state).of -/
def F26 : IFunc := ⟨F26_15, [.cell 4 (some 20), .tmp 5]⟩

def F27_0 : ICode := .region [
  ⟨(some 2), none, .boxV (.tmp 0)⟩]
def F27_1 : ICode := .region [
  ⟨(some 3), none, .load none (.tmp 1)⟩,
  ⟨(some 4), none, .loadV (some 2) (.tmp 2)⟩,
  ⟨(some 5), none, .call .pure (.func 37) [(.tmp 3), (.tmp 4)]⟩,
  ⟨(some 6), none, .un .not (.tmp 5)⟩]
def F27_2 : ICode := .region [
  ⟨(some 7), none, .load none (.tmp 1)⟩,
  ⟨(some 8), none, .loadV (some 2) (.tmp 2)⟩,
  ⟨(some 9), none, .buildSl false 2 1 [.str [], .str []] [(0, (.tmp 8))]⟩,
  ⟨(some 10), none, .append 2 32 false (.tmp 7) (.tmp 9)⟩,
  ⟨none, none, .store 1 (.tmp 1) (.tmp 10)⟩]
def F27_3 : ICode := .cond (.tmp 6) F27_2 .skip
def F27_4 : ICode := .keep [1, 2, 6] F27_3
def F27_5 : ICode := .seq F27_1 F27_4
def F27_6 : ICode := .keep [1, 2] F27_5
def F27_7 : ICode := .seq F27_0 F27_6
/-- introit/pick.Needs$1 -/
def F27 : IFunc := ⟨F27_7, []⟩

def F37_0 : ICode := .region [
  ⟨(some 3), none, .boxV (.tmp 1)⟩,
  ⟨(some 4), none, .mv (.const (.bool false))⟩]
def F37_1 : ICode := .region [
  ⟨(some 5), none, .mv (.tmp 0)⟩,
  ⟨(some 6), none, .loadV (some 2) (.tmp 3)⟩,
  ⟨(some 7), none, .call .pure (.func 53) [(.tmp 5), (.tmp 6)]⟩,
  ⟨(some 8), none, .bin .geq (.tmp 7) (.const (.int .i64 0))⟩,
  ⟨(some 4), none, .mv (.tmp 8)⟩]
def F37_2 : ICode := .seq F37_1 .ret
def F37_3 : ICode := .keep [0, 3] F37_2
def F37_4 : ICode := .seq F37_0 F37_3
/-- slices.Contains[[]introit/api.Slot,introit/api.Slot] -/
def F37 : IFunc := ⟨F37_4, [.tmp 4]⟩

def F28_0 : ICode := .region [
  ⟨(some 1), none, .boxV (.tmp 0)⟩,
  ⟨(some 2), none, .mv (.const (.str []))⟩]
def F28_1 : ICode := .region [
  ⟨(some 6), none, .loadV (some 5) (.tmp 1)⟩,
  ⟨(some 7), none, .call .pure (.func 43) [(.tmp 6)]⟩,
  ⟨(some 8), none, .call .pure (.func 46) [(.tmp 7), (.const (.str [109, 101, 109, 98, 101, 114, 115, 104, 105, 112]))]⟩,
  ⟨(some 5), none, .mv (.tmp 8)⟩,
  ⟨(some 9), none, .extract (.tmp 5) 0⟩,
  ⟨(some 10), none, .extract (.tmp 5) 1⟩,
  ⟨(some 3), none, .mv (.tmp 9)⟩,
  ⟨(some 4), none, .mv (.tmp 10)⟩]
def F28_2 : ICode := .region [
  ⟨(some 11), none, .mv (.tmp 3)⟩,
  ⟨(some 2), none, .mv (.tmp 11)⟩]
def F28_3 : ICode := .seq F28_2 .ret
def F28_4 : ICode := .keep [3] F28_3
def F28_5 : ICode := .seq F28_1 F28_4
def F28_6 : ICode := .keep [1] F28_5
def F28_7 : ICode := .seq F28_0 F28_6
/-- introit/rules.Membership -/
def F28 : IFunc := ⟨F28_7, [.tmp 2]⟩

def F29_0 : ICode := .region [
  ⟨(some 1), none, .boxV (.tmp 0)⟩,
  ⟨(some 2), none, .mv (.const (.str []))⟩,
  ⟨(some 3), none, .mv (.const (.str []))⟩,
  ⟨(some 4), none, .mv (.const (.bool false))⟩]
def F29_1 : ICode := .region [
  ⟨(some 12), none, .loadV (some 5) (.tmp 1)⟩,
  ⟨(some 13), none, .call .pure (.func 54) [(.tmp 12)]⟩,
  ⟨(some 11), none, .mv (.tmp 13)⟩,
  ⟨(some 14), none, .extract (.tmp 11) 0⟩,
  ⟨(some 15), none, .extract (.tmp 11) 1⟩,
  ⟨(some 5), none, .new [.int .i64 0, .int .i64 0, .str [], .nils, .nils]⟩,
  ⟨none, none, .store 5 (.tmp 5) (.tmp 14)⟩,
  ⟨(some 6), none, .mv (.tmp 15)⟩]
def F29_2 : ICode := .region [
  ⟨(some 16), none, .mv (.tmp 6)⟩,
  ⟨(some 17), none, .un .not (.tmp 16)⟩]
def F29_3 : ICode := .region [
  ⟨(some 2), none, .mv (.const (.str []))⟩,
  ⟨(some 3), none, .mv (.const (.str []))⟩,
  ⟨(some 4), none, .mv (.const (.bool false))⟩]
def F29_4 : ICode := .seq F29_3 .ret
def F29_5 : ICode := .cond (.tmp 17) F29_4 .skip
def F29_6 : ICode := .keep [5, 17] F29_5
def F29_7 : ICode := .seq F29_2 F29_6
def F29_8 : ICode := .region [
  ⟨(some 19), none, .load (some 5) (.tmp 5)⟩,
  ⟨(some 20), none, .call .pure (.func 46) [(.tmp 19), (.const (.str [116, 111, 107, 101, 110]))]⟩,
  ⟨(some 18), none, .mv (.tmp 20)⟩,
  ⟨(some 21), none, .extract (.tmp 18) 0⟩,
  ⟨(some 22), none, .extract (.tmp 18) 1⟩,
  ⟨(some 7), none, .mv (.tmp 21)⟩,
  ⟨(some 8), none, .mv (.tmp 22)⟩]
def F29_9 : ICode := .region [
  ⟨(some 24), none, .load (some 5) (.tmp 5)⟩,
  ⟨(some 25), none, .call .pure (.func 46) [(.tmp 24), (.const (.str [109, 120, 105, 100]))]⟩,
  ⟨(some 23), none, .mv (.tmp 25)⟩,
  ⟨(some 26), none, .extract (.tmp 23) 0⟩,
  ⟨(some 27), none, .extract (.tmp 23) 1⟩,
  ⟨(some 9), none, .mv (.tmp 26)⟩,
  ⟨(some 10), none, .mv (.tmp 27)⟩]
def F29_10 : ICode := .region [
  ⟨(some 28), none, .mv (.tmp 7)⟩,
  ⟨(some 29), none, .mv (.tmp 9)⟩,
  ⟨(some 2), none, .mv (.tmp 28)⟩,
  ⟨(some 3), none, .mv (.tmp 29)⟩,
  ⟨(some 4), none, .mv (.const (.bool true))⟩]
def F29_11 : ICode := .seq F29_10 .ret
def F29_12 : ICode := .keep [7, 9] F29_11
def F29_13 : ICode := .seq F29_9 F29_12
def F29_14 : ICode := .keep [5, 7] F29_13
def F29_15 : ICode := .seq F29_8 F29_14
def F29_16 : ICode := .keep [5] F29_15
def F29_17 : ICode := .seq F29_7 F29_16
def F29_18 : ICode := .keep [5, 6] F29_17
def F29_19 : ICode := .seq F29_1 F29_18
def F29_20 : ICode := .keep [1] F29_19
def F29_21 : ICode := .seq F29_0 F29_20
/-- introit/rules.Third -/
def F29 : IFunc := ⟨F29_21, [.tmp 2, .tmp 3, .tmp 4]⟩

def F30_0 : ICode := .region [
  ⟨(some 1), none, .boxV (.tmp 0)⟩,
  ⟨(some 2), none, .mv (.const (.str []))⟩,
  ⟨(some 3), none, .mv (.const (.bool false))⟩]
def F30_1 : ICode := .region [
  ⟨(some 10), none, .loadV (some 5) (.tmp 1)⟩,
  ⟨(some 11), none, .call .pure (.func 43) [(.tmp 10)]⟩,
  ⟨(some 12), none, .call .pure (.func 46) [(.tmp 11), (.const (.str [106, 111, 105, 110, 95, 97, 117, 116, 104, 111, 114, 105, 115, 101, 100, 95, 118, 105, 97, 95, 117, 115, 101, 114, 115, 95, 115, 101, 114, 118, 101, 114]))]⟩,
  ⟨(some 9), none, .mv (.tmp 12)⟩,
  ⟨(some 13), none, .extract (.tmp 9) 0⟩,
  ⟨(some 14), none, .extract (.tmp 9) 1⟩,
  ⟨(some 4), none, .mv (.tmp 13)⟩,
  ⟨(some 5), none, .mv (.tmp 14)⟩]
def F30_2 : ICode := .region [
  ⟨(some 16), none, .mv (.tmp 4)⟩,
  ⟨(some 17), none, .call .pure (.func 55) [(.tmp 16)]⟩,
  ⟨(some 15), none, .mv (.tmp 17)⟩,
  ⟨(some 18), none, .extract (.tmp 15) 0⟩,
  ⟨(some 19), none, .extract (.tmp 15) 1⟩,
  ⟨(some 20), none, .extract (.tmp 15) 2⟩,
  ⟨(some 6), none, .mv (.tmp 18)⟩,
  ⟨(some 7), none, .mv (.tmp 19)⟩,
  ⟨(some 8), none, .mv (.tmp 20)⟩]
def F30_3 : ICode := .region [
  ⟨(some 21), none, .mv (.tmp 8)⟩,
  ⟨(some 22), none, .un .not (.tmp 21)⟩]
def F30_4 : ICode := .region [
  ⟨(some 2), none, .mv (.const (.str []))⟩,
  ⟨(some 3), none, .mv (.const (.bool false))⟩]
def F30_5 : ICode := .seq F30_4 .ret
def F30_6 : ICode := .cond (.tmp 22) F30_5 .skip
def F30_7 : ICode := .keep [4, 22] F30_6
def F30_8 : ICode := .seq F30_3 F30_7
def F30_9 : ICode := .keep [4, 8] F30_8
def F30_10 : ICode := .seq F30_2 F30_9
def F30_11 : ICode := .region [
  ⟨(some 23), none, .mv (.tmp 4)⟩,
  ⟨(some 2), none, .mv (.tmp 23)⟩,
  ⟨(some 3), none, .mv (.const (.bool true))⟩]
def F30_12 : ICode := .seq F30_11 .ret
def F30_13 : ICode := .keep [4] F30_12
def F30_14 : ICode := .seq F30_10 F30_13
def F30_15 : ICode := .keep [4] F30_14
def F30_16 : ICode := .seq F30_1 F30_15
def F30_17 : ICode := .keep [1] F30_16
def F30_18 : ICode := .seq F30_0 F30_17
/-- introit/rules.Authoriser -/
def F30 : IFunc := ⟨F30_18, [.tmp 2, .tmp 3]⟩

def F31_0 : ICode := .region [
  ⟨(some 1), none, .boxV (.tmp 0)⟩,
  ⟨(some 2), none, .mv (.const (.str []))⟩]
def F31_1 : ICode := .region [
  ⟨(some 6), none, .loadV (some 5) (.tmp 1)⟩,
  ⟨(some 7), none, .call .pure (.func 56) [(.tmp 6), (.const (.str [109, 101, 109, 98, 101, 114, 115, 104, 105, 112]))]⟩,
  ⟨(some 5), none, .mv (.tmp 7)⟩,
  ⟨(some 8), none, .extract (.tmp 5) 0⟩,
  ⟨(some 9), none, .extract (.tmp 5) 1⟩,
  ⟨(some 3), none, .mv (.tmp 8)⟩,
  ⟨(some 4), none, .mv (.tmp 9)⟩]
def F31_2 : ICode := .region [
  ⟨(some 10), none, .mv (.tmp 3)⟩,
  ⟨(some 2), none, .mv (.tmp 10)⟩]
def F31_3 : ICode := .seq F31_2 .ret
def F31_4 : ICode := .keep [3] F31_3
def F31_5 : ICode := .seq F31_1 F31_4
def F31_6 : ICode := .keep [1] F31_5
def F31_7 : ICode := .seq F31_0 F31_6
/-- introit/introitref17.Membership -/
def F31 : IFunc := ⟨F31_7, [.tmp 2]⟩

def F32_0 : ICode := .region [
  ⟨(some 1), none, .boxV (.tmp 0)⟩,
  ⟨(some 2), none, .mv (.const (.str []))⟩,
  ⟨(some 3), none, .mv (.const (.str []))⟩,
  ⟨(some 4), none, .mv (.const (.bool false))⟩]
def F32_1 : ICode := .region [
  ⟨(some 12), none, .loadV (some 5) (.tmp 1)⟩,
  ⟨(some 13), none, .call .pure (.func 57) [(.tmp 12)]⟩,
  ⟨(some 11), none, .mv (.tmp 13)⟩,
  ⟨(some 14), none, .extract (.tmp 11) 0⟩,
  ⟨(some 15), none, .extract (.tmp 11) 1⟩,
  ⟨(some 5), none, .new [.int .i64 0, .int .i64 0, .str [], .nils, .nils]⟩,
  ⟨none, none, .store 5 (.tmp 5) (.tmp 14)⟩,
  ⟨(some 6), none, .mv (.tmp 15)⟩]
def F32_2 : ICode := .region [
  ⟨(some 17), none, .load (some 5) (.tmp 5)⟩,
  ⟨(some 18), none, .call .pure (.func 58) [(.tmp 17), (.const (.str [116, 111, 107, 101, 110]))]⟩,
  ⟨(some 16), none, .mv (.tmp 18)⟩,
  ⟨(some 19), none, .extract (.tmp 16) 0⟩,
  ⟨(some 20), none, .extract (.tmp 16) 1⟩,
  ⟨(some 7), none, .mv (.tmp 19)⟩,
  ⟨(some 8), none, .mv (.tmp 20)⟩]
def F32_3 : ICode := .region [
  ⟨(some 22), none, .load (some 5) (.tmp 5)⟩,
  ⟨(some 23), none, .call .pure (.func 58) [(.tmp 22), (.const (.str [109, 120, 105, 100]))]⟩,
  ⟨(some 21), none, .mv (.tmp 23)⟩,
  ⟨(some 24), none, .extract (.tmp 21) 0⟩,
  ⟨(some 25), none, .extract (.tmp 21) 1⟩,
  ⟨(some 9), none, .mv (.tmp 24)⟩,
  ⟨(some 10), none, .mv (.tmp 25)⟩]
def F32_4 : ICode := .region [
  ⟨(some 26), none, .mv (.tmp 6)⟩,
  ⟨(some 27), none, .un .not (.tmp 26)⟩,
  ⟨(some 28), none, .mv (.tmp 27)⟩,
  ⟨(some 29), (some (28, false)), .mv (.tmp 8)⟩,
  ⟨(some 30), (some (28, false)), .un .not (.tmp 29)⟩,
  ⟨(some 31), none, .pick (.tmp 28) (.const (.bool true)) (.tmp 30)⟩,
  ⟨(some 32), none, .mv (.tmp 31)⟩,
  ⟨(some 33), (some (32, false)), .mv (.tmp 10)⟩,
  ⟨(some 34), (some (32, false)), .un .not (.tmp 33)⟩,
  ⟨(some 35), none, .pick (.tmp 32) (.const (.bool true)) (.tmp 34)⟩]
def F32_5 : ICode := .region [
  ⟨(some 2), none, .mv (.const (.str []))⟩,
  ⟨(some 3), none, .mv (.const (.str []))⟩,
  ⟨(some 4), none, .mv (.const (.bool false))⟩]
def F32_6 : ICode := .seq F32_5 .ret
def F32_7 : ICode := .cond (.tmp 35) F32_6 .skip
def F32_8 : ICode := .keep [7, 9, 35] F32_7
def F32_9 : ICode := .seq F32_4 F32_8
def F32_10 : ICode := .region [
  ⟨(some 36), none, .mv (.tmp 7)⟩,
  ⟨(some 37), none, .mv (.tmp 9)⟩,
  ⟨(some 2), none, .mv (.tmp 36)⟩,
  ⟨(some 3), none, .mv (.tmp 37)⟩,
  ⟨(some 4), none, .mv (.const (.bool true))⟩]
def F32_11 : ICode := .seq F32_10 .ret
def F32_12 : ICode := .keep [7, 9] F32_11
def F32_13 : ICode := .seq F32_9 F32_12
def F32_14 : ICode := .keep [6, 7, 8, 9, 10] F32_13
def F32_15 : ICode := .seq F32_3 F32_14
def F32_16 : ICode := .keep [5, 6, 7, 8] F32_15
def F32_17 : ICode := .seq F32_2 F32_16
def F32_18 : ICode := .keep [5, 6] F32_17
def F32_19 : ICode := .seq F32_1 F32_18
def F32_20 : ICode := .keep [1] F32_19
def F32_21 : ICode := .seq F32_0 F32_20
/-- introit/introitref17.Third -/
def F32 : IFunc := ⟨F32_21, [.tmp 2, .tmp 3, .tmp 4]⟩

def F33_0 : ICode := .region [
  ⟨(some 1), none, .boxV (.tmp 0)⟩,
  ⟨(some 2), none, .mv (.const (.str []))⟩,
  ⟨(some 3), none, .mv (.const (.bool false))⟩]
def F33_1 : ICode := .region [
  ⟨(some 7), none, .loadV (some 5) (.tmp 1)⟩,
  ⟨(some 8), none, .call .pure (.func 56) [(.tmp 7), (.const (.str [106, 111, 105, 110, 95, 97, 117, 116, 104, 111, 114, 105, 115, 101, 100, 95, 118, 105, 97, 95, 117, 115, 101, 114, 115, 95, 115, 101, 114, 118, 101, 114]))]⟩,
  ⟨(some 6), none, .mv (.tmp 8)⟩,
  ⟨(some 9), none, .extract (.tmp 6) 0⟩,
  ⟨(some 10), none, .extract (.tmp 6) 1⟩,
  ⟨(some 4), none, .mv (.tmp 9)⟩,
  ⟨(some 5), none, .mv (.tmp 10)⟩]
def F33_2 : ICode := .region [
  ⟨(some 11), none, .mv (.tmp 5)⟩,
  ⟨(some 12), none, .un .not (.tmp 11)⟩,
  ⟨(some 13), none, .mv (.tmp 12)⟩,
  ⟨(some 14), (some (13, false)), .mv (.tmp 4)⟩,
  ⟨(some 15), (some (13, false)), .call .pure (.func 59) [(.tmp 14)]⟩,
  ⟨(some 16), (some (13, false)), .un .not (.tmp 15)⟩,
  ⟨(some 17), none, .pick (.tmp 13) (.const (.bool true)) (.tmp 16)⟩]
def F33_3 : ICode := .region [
  ⟨(some 2), none, .mv (.const (.str []))⟩,
  ⟨(some 3), none, .mv (.const (.bool false))⟩]
def F33_4 : ICode := .seq F33_3 .ret
def F33_5 : ICode := .cond (.tmp 17) F33_4 .skip
def F33_6 : ICode := .keep [4, 17] F33_5
def F33_7 : ICode := .seq F33_2 F33_6
def F33_8 : ICode := .region [
  ⟨(some 18), none, .mv (.tmp 4)⟩,
  ⟨(some 2), none, .mv (.tmp 18)⟩,
  ⟨(some 3), none, .mv (.const (.bool true))⟩]
def F33_9 : ICode := .seq F33_8 .ret
def F33_10 : ICode := .keep [4] F33_9
def F33_11 : ICode := .seq F33_7 F33_10
def F33_12 : ICode := .keep [4, 5] F33_11
def F33_13 : ICode := .seq F33_1 F33_12
def F33_14 : ICode := .keep [1] F33_13
def F33_15 : ICode := .seq F33_0 F33_14
/-- introit/introitref17.Authoriser -/
def F33 : IFunc := ⟨F33_15, [.tmp 2, .tmp 3]⟩

def F34_0 : ICode := .region [
  ⟨(some 3), none, .boxV (.tmp 1)⟩,
  ⟨(some 4), none, .mv (.const (.bool false))⟩]
def F34_1 : ICode := .region [
  ⟨(some 5), none, .mv (.const (.int .i64 0))⟩]
def F34_2 : ICode := .region [
  ⟨(some 6), none, .mv (.tmp 5)⟩,
  ⟨(some 7), none, .mv (.tmp 0)⟩,
  ⟨(some 8), none, .len false (.tmp 7)⟩,
  ⟨(some 9), none, .bin .lss (.tmp 6) (.tmp 8)⟩]
def F34_3 : ICode := .cond (.tmp 9) .skip (.exit 0)
def F34_4 : ICode := .keep [0, 3, 5, 9] F34_3
def F34_5 : ICode := .seq F34_2 F34_4
def F34_6 : ICode := .region [
  ⟨(some 12), none, .mv (.tmp 0)⟩,
  ⟨(some 13), none, .mv (.tmp 5)⟩,
  ⟨(some 14), none, .idxA 2 none (.tmp 12) (.tmp 13)⟩,
  ⟨(some 15), none, .load (some 2) (.tmp 14)⟩,
  ⟨(some 16), none, .loadV (some 2) (.tmp 3)⟩,
  ⟨(some 17), none, .eqs [.str, .str] false (.tmp 15) (.tmp 16)⟩]
def F34_7 : ICode := .region [
  ⟨(some 4), none, .mv (.const (.bool true))⟩]
def F34_8 : ICode := .seq F34_7 .ret
def F34_9 : ICode := .cond (.tmp 17) F34_8 .skip
def F34_10 : ICode := .keep [0, 3, 5, 17] F34_9
def F34_11 : ICode := .seq F34_6 F34_10
def F34_12 : ICode := .block 1 F34_11
def F34_13 : ICode := .region [
  ⟨(some 10), none, .mv (.tmp 5)⟩,
  ⟨(some 11), none, .bin .add (.tmp 10) (.const (.int .i64 1))⟩,
  ⟨(some 5), none, .mv (.tmp 11)⟩]
def F34_14 : ICode := .keep [0, 3, 5] F34_13
def F34_15 : ICode := .seq F34_12 F34_14
def F34_16 : ICode := .keep [0, 3, 5] F34_15
def F34_17 : ICode := .seq F34_5 F34_16
def F34_18 : ICode := .loop [0, 3, 5] F34_17
def F34_19 : ICode := .block 0 F34_18
def F34_20 : ICode := .keep [0, 3, 5] F34_19
def F34_21 : ICode := .seq F34_1 F34_20
def F34_22 : ICode := .region [
  ⟨(some 4), none, .mv (.const (.bool false))⟩]
def F34_23 : ICode := .seq F34_22 .ret
def F34_24 : ICode := .keep [] F34_23
def F34_25 : ICode := .seq F34_21 F34_24
def F34_26 : ICode := .keep [0, 3] F34_25
def F34_27 : ICode := .seq F34_0 F34_26
/-- introit/introitref17.slot -/
def F34 : IFunc := ⟨F34_27, [.tmp 4]⟩

def F35_0 : ICode := .region [
  ⟨(some 2), none, .boxV (.tmp 0)⟩,
  ⟨(some 3), none, .boxV (.tmp 1)⟩,
  ⟨(some 4), none, .mv (.const (.bool false))⟩]
def F35_1 : ICode := .region [
  ⟨(some 7), none, .fieldA 0 (.tmp 2)⟩,
  ⟨(some 8), none, .loadV none (.tmp 7)⟩,
  ⟨(some 9), none, .fieldA 0 (.tmp 3)⟩,
  ⟨(some 10), none, .loadV none (.tmp 9)⟩,
  ⟨(some 11), none, .bin .neq (.tmp 8) (.tmp 10)⟩,
  ⟨(some 12), none, .mv (.tmp 11)⟩,
  ⟨(some 13), (some (12, false)), .fieldA 1 (.tmp 2)⟩,
  ⟨(some 14), (some (12, false)), .loadV none (.tmp 13)⟩,
  ⟨(some 15), (some (12, false)), .fieldA 1 (.tmp 3)⟩,
  ⟨(some 16), (some (12, false)), .loadV none (.tmp 15)⟩,
  ⟨(some 17), (some (12, false)), .bin .neq (.tmp 14) (.tmp 16)⟩,
  ⟨(some 18), none, .pick (.tmp 12) (.const (.bool true)) (.tmp 17)⟩,
  ⟨(some 19), none, .mv (.tmp 18)⟩,
  ⟨(some 20), (some (19, false)), .fieldA 2 (.tmp 2)⟩,
  ⟨(some 21), (some (19, false)), .loadV none (.tmp 20)⟩,
  ⟨(some 22), (some (19, false)), .fieldA 2 (.tmp 3)⟩,
  ⟨(some 23), (some (19, false)), .loadV none (.tmp 22)⟩,
  ⟨(some 24), (some (19, false)), .bin .neq (.tmp 21) (.tmp 23)⟩,
  ⟨(some 25), none, .pick (.tmp 19) (.const (.bool true)) (.tmp 24)⟩,
  ⟨(some 26), none, .mv (.tmp 25)⟩,
  ⟨(some 27), (some (26, false)), .fieldA 3 (.tmp 2)⟩,
  ⟨(some 28), (some (26, false)), .loadV none (.tmp 27)⟩,
  ⟨(some 29), (some (26, false)), .len false (.tmp 28)⟩,
  ⟨(some 30), (some (26, false)), .fieldA 3 (.tmp 3)⟩,
  ⟨(some 31), (some (26, false)), .loadV none (.tmp 30)⟩,
  ⟨(some 32), (some (26, false)), .len false (.tmp 31)⟩,
  ⟨(some 33), (some (26, false)), .bin .neq (.tmp 29) (.tmp 32)⟩,
  ⟨(some 34), none, .pick (.tmp 26) (.const (.bool true)) (.tmp 33)⟩,
  ⟨(some 35), none, .mv (.tmp 34)⟩,
  ⟨(some 36), (some (35, false)), .fieldA 4 (.tmp 2)⟩,
  ⟨(some 37), (some (35, false)), .loadV none (.tmp 36)⟩,
  ⟨(some 38), (some (35, false)), .len false (.tmp 37)⟩,
  ⟨(some 39), (some (35, false)), .fieldA 4 (.tmp 3)⟩,
  ⟨(some 40), (some (35, false)), .loadV none (.tmp 39)⟩,
  ⟨(some 41), (some (35, false)), .len false (.tmp 40)⟩,
  ⟨(some 42), (some (35, false)), .bin .neq (.tmp 38) (.tmp 41)⟩,
  ⟨(some 43), none, .pick (.tmp 35) (.const (.bool true)) (.tmp 42)⟩]
def F35_2 : ICode := .region [
  ⟨(some 4), none, .mv (.const (.bool false))⟩]
def F35_3 : ICode := .seq F35_2 .ret
def F35_4 : ICode := .cond (.tmp 43) F35_3 .skip
def F35_5 : ICode := .keep [2, 3, 43] F35_4
def F35_6 : ICode := .seq F35_1 F35_5
def F35_7 : ICode := .region [
  ⟨(some 5), none, .mv (.const (.int .i64 0))⟩]
def F35_8 : ICode := .region [
  ⟨(some 44), none, .mv (.tmp 5)⟩,
  ⟨(some 45), none, .fieldA 3 (.tmp 2)⟩,
  ⟨(some 46), none, .loadV none (.tmp 45)⟩,
  ⟨(some 47), none, .len false (.tmp 46)⟩,
  ⟨(some 48), none, .bin .lss (.tmp 44) (.tmp 47)⟩]
def F35_9 : ICode := .cond (.tmp 48) .skip (.exit 0)
def F35_10 : ICode := .keep [2, 3, 5, 48] F35_9
def F35_11 : ICode := .seq F35_8 F35_10
def F35_12 : ICode := .region [
  ⟨(some 51), none, .fieldA 3 (.tmp 2)⟩,
  ⟨(some 52), none, .loadV none (.tmp 51)⟩,
  ⟨(some 53), none, .mv (.tmp 5)⟩,
  ⟨(some 54), none, .idxA 5 none (.tmp 52) (.tmp 53)⟩,
  ⟨(some 55), none, .load (some 5) (.tmp 54)⟩,
  ⟨(some 56), none, .fieldA 3 (.tmp 3)⟩,
  ⟨(some 57), none, .loadV none (.tmp 56)⟩,
  ⟨(some 58), none, .mv (.tmp 5)⟩,
  ⟨(some 59), none, .idxA 5 none (.tmp 57) (.tmp 58)⟩,
  ⟨(some 60), none, .load (some 5) (.tmp 59)⟩,
  ⟨(some 61), none, .call .strict (.func 35) [(.tmp 55), (.tmp 60)]⟩,
  ⟨(some 62), none, .un .not (.tmp 61)⟩]
def F35_13 : ICode := .region [
  ⟨(some 4), none, .mv (.const (.bool false))⟩]
def F35_14 : ICode := .seq F35_13 .ret
def F35_15 : ICode := .cond (.tmp 62) F35_14 .skip
def F35_16 : ICode := .keep [2, 3, 5, 62] F35_15
def F35_17 : ICode := .seq F35_12 F35_16
def F35_18 : ICode := .block 1 F35_17
def F35_19 : ICode := .region [
  ⟨(some 49), none, .mv (.tmp 5)⟩,
  ⟨(some 50), none, .bin .add (.tmp 49) (.const (.int .i64 1))⟩,
  ⟨(some 5), none, .mv (.tmp 50)⟩]
def F35_20 : ICode := .keep [2, 3, 5] F35_19
def F35_21 : ICode := .seq F35_18 F35_20
def F35_22 : ICode := .keep [2, 3, 5] F35_21
def F35_23 : ICode := .seq F35_11 F35_22
def F35_24 : ICode := .loop [2, 3, 5] F35_23
def F35_25 : ICode := .block 0 F35_24
def F35_26 : ICode := .keep [2, 3, 5] F35_25
def F35_27 : ICode := .seq F35_7 F35_26
def F35_28 : ICode := .region [
  ⟨(some 6), none, .mv (.const (.int .i64 0))⟩]
def F35_29 : ICode := .region [
  ⟨(some 63), none, .mv (.tmp 6)⟩,
  ⟨(some 64), none, .fieldA 4 (.tmp 2)⟩,
  ⟨(some 65), none, .loadV none (.tmp 64)⟩,
  ⟨(some 66), none, .len false (.tmp 65)⟩,
  ⟨(some 67), none, .bin .lss (.tmp 63) (.tmp 66)⟩]
def F35_30 : ICode := .cond (.tmp 67) .skip (.exit 2)
def F35_31 : ICode := .keep [2, 3, 6, 67] F35_30
def F35_32 : ICode := .seq F35_29 F35_31
def F35_33 : ICode := .region [
  ⟨(some 70), none, .fieldA 4 (.tmp 2)⟩,
  ⟨(some 71), none, .loadV none (.tmp 70)⟩,
  ⟨(some 72), none, .mv (.tmp 6)⟩,
  ⟨(some 73), none, .idxA 6 none (.tmp 71) (.tmp 72)⟩,
  ⟨(some 74), none, .fieldA 0 (.tmp 73)⟩,
  ⟨(some 75), none, .load none (.tmp 74)⟩,
  ⟨(some 76), none, .fieldA 4 (.tmp 3)⟩,
  ⟨(some 77), none, .loadV none (.tmp 76)⟩,
  ⟨(some 78), none, .mv (.tmp 6)⟩,
  ⟨(some 79), none, .idxA 6 none (.tmp 77) (.tmp 78)⟩,
  ⟨(some 80), none, .fieldA 0 (.tmp 79)⟩,
  ⟨(some 81), none, .load none (.tmp 80)⟩,
  ⟨(some 82), none, .bin .neq (.tmp 75) (.tmp 81)⟩,
  ⟨(some 83), none, .mv (.tmp 82)⟩,
  ⟨(some 84), (some (83, false)), .fieldA 4 (.tmp 2)⟩,
  ⟨(some 85), (some (83, false)), .loadV none (.tmp 84)⟩,
  ⟨(some 86), (some (83, false)), .mv (.tmp 6)⟩,
  ⟨(some 87), (some (83, false)), .idxA 6 none (.tmp 85) (.tmp 86)⟩,
  ⟨(some 88), (some (83, false)), .fieldA 1 (.tmp 87)⟩,
  ⟨(some 89), (some (83, false)), .load (some 5) (.tmp 88)⟩,
  ⟨(some 90), (some (83, false)), .fieldA 4 (.tmp 3)⟩,
  ⟨(some 91), (some (83, false)), .loadV none (.tmp 90)⟩,
  ⟨(some 92), (some (83, false)), .mv (.tmp 6)⟩,
  ⟨(some 93), (some (83, false)), .idxA 6 none (.tmp 91) (.tmp 92)⟩,
  ⟨(some 94), (some (83, false)), .fieldA 1 (.tmp 93)⟩,
  ⟨(some 95), (some (83, false)), .load (some 5) (.tmp 94)⟩,
  ⟨(some 96), (some (83, false)), .call .strict (.func 35) [(.tmp 89), (.tmp 95)]⟩,
  ⟨(some 97), (some (83, false)), .un .not (.tmp 96)⟩,
  ⟨(some 98), none, .pick (.tmp 83) (.const (.bool true)) (.tmp 97)⟩]
def F35_34 : ICode := .region [
  ⟨(some 4), none, .mv (.const (.bool false))⟩]
def F35_35 : ICode := .seq F35_34 .ret
def F35_36 : ICode := .cond (.tmp 98) F35_35 .skip
def F35_37 : ICode := .keep [2, 3, 6, 98] F35_36
def F35_38 : ICode := .seq F35_33 F35_37
def F35_39 : ICode := .block 3 F35_38
def F35_40 : ICode := .region [
  ⟨(some 68), none, .mv (.tmp 6)⟩,
  ⟨(some 69), none, .bin .add (.tmp 68) (.const (.int .i64 1))⟩,
  ⟨(some 6), none, .mv (.tmp 69)⟩]
def F35_41 : ICode := .keep [2, 3, 6] F35_40
def F35_42 : ICode := .seq F35_39 F35_41
def F35_43 : ICode := .keep [2, 3, 6] F35_42
def F35_44 : ICode := .seq F35_32 F35_43
def F35_45 : ICode := .loop [2, 3, 6] F35_44
def F35_46 : ICode := .block 2 F35_45
def F35_47 : ICode := .keep [2, 3, 6] F35_46
def F35_48 : ICode := .seq F35_28 F35_47
def F35_49 : ICode := .region [
  ⟨(some 4), none, .mv (.const (.bool true))⟩]
def F35_50 : ICode := .seq F35_49 .ret
def F35_51 : ICode := .keep [] F35_50
def F35_52 : ICode := .seq F35_48 F35_51
def F35_53 : ICode := .keep [2, 3] F35_52
def F35_54 : ICode := .seq F35_27 F35_53
def F35_55 : ICode := .keep [2, 3] F35_54
def F35_56 : ICode := .seq F35_6 F35_55
def F35_57 : ICode := .keep [2, 3] F35_56
def F35_58 : ICode := .seq F35_0 F35_57
/-- introit/introitref1.Same -/
def F35 : IFunc := ⟨F35_58, [.tmp 4]⟩

def F36_0 : ICode := .region [
  ⟨(some 1), none, .boxV (.tmp 0)⟩,
  ⟨(some 2), none, .new [.str [], .str []]⟩]
def F36_1 : ICode := .region [
  ⟨(some 3), none, .fieldA 7 (.tmp 1)⟩,
  ⟨(some 4), none, .loadV none (.tmp 3)⟩,
  ⟨(some 5), none, .fieldA 9 (.tmp 1)⟩,
  ⟨(some 6), none, .loadV none (.tmp 5)⟩,
  ⟨(some 7), none, .build [.str [], .str []] [(0, 1, (.tmp 4)), (1, 1, (.tmp 6))]⟩,
  ⟨none, none, .store 2 (.tmp 2) (.tmp 7)⟩]
def F36_2 : ICode := .seq F36_1 .ret
def F36_3 : ICode := .keep [1, 2] F36_2
def F36_4 : ICode := .seq F36_0 F36_3
/-- introit/event.Slot -/
def F36 : IFunc := ⟨F36_4, [.cell 2 (some 2)]⟩

def F38_0 : ICode := .region [
  ⟨(some 2), none, .mv (.const (.nils))⟩]
def F38_1 : ICode := .region [
  ⟨(some 3), none, .mv (.tmp 0)⟩,
  ⟨(some 4), none, .eqn .sl false (.tmp 3)⟩]
def F38_2 : ICode := .region [
  ⟨(some 2), none, .mv (.const (.nils))⟩]
def F38_3 : ICode := .seq F38_2 .ret
def F38_4 : ICode := .cond (.tmp 4) F38_3 .skip
def F38_5 : ICode := .keep [0, 4] F38_4
def F38_6 : ICode := .seq F38_1 F38_5
def F38_7 : ICode := .region [
  ⟨(some 5), none, .buildSl false 6 0 [.str [], .int .i64 0, .int .i64 0, .str [], .nils, .nils] []⟩,
  ⟨(some 6), none, .mv (.tmp 0)⟩,
  ⟨(some 7), none, .append 6 96 false (.tmp 5) (.tmp 6)⟩,
  ⟨(some 2), none, .mv (.tmp 7)⟩]
def F38_8 : ICode := .seq F38_7 .ret
def F38_9 : ICode := .keep [0] F38_8
def F38_10 : ICode := .seq F38_6 F38_9
def F38_11 : ICode := .keep [0] F38_10
def F38_12 : ICode := .seq F38_0 F38_11
/-- slices.Clone[[]introit/api.Member,introit/api.Member] -/
def F38 : IFunc := ⟨F38_12, [.tmp 2]⟩

def F39_0 : ICode := .region [
  ⟨(some 4), none, .mv (.tmp 0)⟩,
  ⟨(some 5), none, .mv (.tmp 0)⟩,
  ⟨(some 6), none, .len false (.tmp 5)⟩,
  ⟨(some 7), none, .mv (.tmp 1)⟩,
  ⟨(some 8), none, .call .shared (.func 60) [(.tmp 4), (.tmp 6), (.tmp 7)]⟩]
/-- slices.SortStableFunc[[]introit/api.Member,introit/api.Member] -/
def F39 : IFunc := ⟨F39_0, []⟩

def F40_0 : ICode := .region [
  ⟨(some 2), none, .boxV (.tmp 0)⟩,
  ⟨(some 3), none, .boxV (.tmp 1)⟩,
  ⟨(some 4), none, .mv (.const (.int .i64 0))⟩]
def F40_1 : ICode := .region [
  ⟨(some 6), none, .fieldA 0 (.tmp 2)⟩,
  ⟨(some 7), none, .loadV none (.tmp 6)⟩,
  ⟨(some 8), none, .fieldA 0 (.tmp 3)⟩,
  ⟨(some 9), none, .loadV none (.tmp 8)⟩,
  ⟨(some 10), none, .call .pure (.func 61) [(.tmp 7), (.tmp 9)]⟩,
  ⟨(some 5), none, .mv (.tmp 10)⟩]
def F40_2 : ICode := .region [
  ⟨(some 4), none, .mv (.const (.int .i64 (-1)))⟩]
def F40_3 : ICode := .seq F40_2 .ret
def F40_4 : ICode := .region [
  ⟨(some 12), none, .fieldA 0 (.tmp 3)⟩,
  ⟨(some 13), none, .loadV none (.tmp 12)⟩,
  ⟨(some 14), none, .fieldA 0 (.tmp 2)⟩,
  ⟨(some 15), none, .loadV none (.tmp 14)⟩,
  ⟨(some 16), none, .call .pure (.func 61) [(.tmp 13), (.tmp 15)]⟩,
  ⟨(some 11), none, .mv (.tmp 16)⟩]
def F40_5 : ICode := .region [
  ⟨(some 4), none, .mv (.const (.int .i64 1))⟩]
def F40_6 : ICode := .seq F40_5 .ret
def F40_7 : ICode := .cond (.tmp 11) F40_6 .skip
def F40_8 : ICode := .keep [11] F40_7
def F40_9 : ICode := .seq F40_4 F40_8
def F40_10 : ICode := .cond (.tmp 5) F40_3 F40_9
def F40_11 : ICode := .keep [2, 3, 5] F40_10
def F40_12 : ICode := .seq F40_1 F40_11
def F40_13 : ICode := .block 0 F40_12
def F40_14 : ICode := .region [
  ⟨(some 4), none, .mv (.const (.int .i64 0))⟩]
def F40_15 : ICode := .seq F40_14 .ret
def F40_16 : ICode := .keep [] F40_15
def F40_17 : ICode := .seq F40_13 F40_16
def F40_18 : ICode := .keep [2, 3] F40_17
def F40_19 : ICode := .seq F40_0 F40_18
/-- introit/value.key -/
def F40 : IFunc := ⟨F40_19, [.tmp 4]⟩

def F41_0 : ICode := .region [
  ⟨(some 2), none, .mv (.const (.nils))⟩]
def F41_1 : ICode := .region [
  ⟨(some 3), none, .mv (.tmp 0)⟩,
  ⟨(some 4), none, .eqn .sl false (.tmp 3)⟩]
def F41_2 : ICode := .region [
  ⟨(some 2), none, .mv (.const (.nils))⟩]
def F41_3 : ICode := .seq F41_2 .ret
def F41_4 : ICode := .cond (.tmp 4) F41_3 .skip
def F41_5 : ICode := .keep [0, 4] F41_4
def F41_6 : ICode := .seq F41_1 F41_5
def F41_7 : ICode := .region [
  ⟨(some 5), none, .buildSl false 5 0 [.int .i64 0, .int .i64 0, .str [], .nils, .nils] []⟩,
  ⟨(some 6), none, .mv (.tmp 0)⟩,
  ⟨(some 7), none, .append 5 80 false (.tmp 5) (.tmp 6)⟩,
  ⟨(some 2), none, .mv (.tmp 7)⟩]
def F41_8 : ICode := .seq F41_7 .ret
def F41_9 : ICode := .keep [0] F41_8
def F41_10 : ICode := .seq F41_6 F41_9
def F41_11 : ICode := .keep [0] F41_10
def F41_12 : ICode := .seq F41_0 F41_11
/-- slices.Clone[[]introit/api.Value,introit/api.Value] -/
def F41 : IFunc := ⟨F41_12, [.tmp 2]⟩

def F42_0 : ICode := .region [
  ⟨(some 1), none, .boxV (.tmp 0)⟩,
  ⟨(some 2), none, .mv (.const (.str []))⟩,
  ⟨(some 3), none, .mv (.const (.bool false))⟩]
def F42_1 : ICode := .region [
  ⟨(some 12), none, .loadV (some 5) (.tmp 1)⟩,
  ⟨(some 4), none, .new [.int .i64 0, .int .i64 0, .str [], .nils, .nils]⟩,
  ⟨none, none, .store 5 (.tmp 4) (.tmp 12)⟩]
def F42_2 : ICode := .region [
  ⟨(some 14), none, .load (some 5) (.tmp 4)⟩,
  ⟨(some 15), none, .call .pure (.func 46) [(.tmp 14), (.const (.str [116, 121, 112, 101]))]⟩,
  ⟨(some 13), none, .mv (.tmp 15)⟩,
  ⟨(some 16), none, .extract (.tmp 13) 0⟩,
  ⟨(some 17), none, .extract (.tmp 13) 1⟩,
  ⟨(some 5), none, .mv (.tmp 16)⟩,
  ⟨(some 6), none, .mv (.tmp 17)⟩]
def F42_3 : ICode := .region [
  ⟨(some 19), none, .load (some 5) (.tmp 4)⟩,
  ⟨(some 20), none, .call .pure (.func 46) [(.tmp 19), (.const (.str [114, 111, 111, 109, 95, 105, 100]))]⟩,
  ⟨(some 18), none, .mv (.tmp 20)⟩,
  ⟨(some 21), none, .extract (.tmp 18) 0⟩,
  ⟨(some 22), none, .extract (.tmp 18) 1⟩,
  ⟨(some 7), none, .mv (.tmp 21)⟩,
  ⟨(some 8), none, .mv (.tmp 22)⟩]
def F42_4 : ICode := .region [
  ⟨(some 24), none, .mv (.tmp 7)⟩,
  ⟨(some 25), none, .call .pure (.func 62) [(.tmp 24)]⟩,
  ⟨(some 23), none, .mv (.tmp 25)⟩,
  ⟨(some 26), none, .extract (.tmp 23) 0⟩,
  ⟨(some 27), none, .extract (.tmp 23) 1⟩,
  ⟨(some 28), none, .extract (.tmp 23) 2⟩,
  ⟨(some 9), none, .mv (.tmp 26)⟩,
  ⟨(some 10), none, .mv (.tmp 27)⟩,
  ⟨(some 11), none, .mv (.tmp 28)⟩]
def F42_5 : ICode := .region [
  ⟨(some 29), none, .mv (.tmp 5)⟩,
  ⟨(some 30), none, .bin .neq (.tmp 29) (.const (.str [109, 46, 114, 111, 111, 109, 95, 109, 101, 109, 98, 101, 114, 115, 104, 105, 112]))⟩,
  ⟨(some 31), none, .mv (.tmp 30)⟩,
  ⟨(some 32), (some (31, false)), .mv (.tmp 11)⟩,
  ⟨(some 33), (some (31, false)), .un .not (.tmp 32)⟩,
  ⟨(some 34), none, .pick (.tmp 31) (.const (.bool true)) (.tmp 33)⟩]
def F42_6 : ICode := .region [
  ⟨(some 2), none, .mv (.const (.str []))⟩,
  ⟨(some 3), none, .mv (.const (.bool false))⟩]
def F42_7 : ICode := .seq F42_6 .ret
def F42_8 : ICode := .cond (.tmp 34) F42_7 .skip
def F42_9 : ICode := .keep [7, 34] F42_8
def F42_10 : ICode := .seq F42_5 F42_9
def F42_11 : ICode := .region [
  ⟨(some 35), none, .mv (.tmp 7)⟩,
  ⟨(some 2), none, .mv (.tmp 35)⟩,
  ⟨(some 3), none, .mv (.const (.bool true))⟩]
def F42_12 : ICode := .seq F42_11 .ret
def F42_13 : ICode := .keep [7] F42_12
def F42_14 : ICode := .seq F42_10 F42_13
def F42_15 : ICode := .keep [5, 7, 11] F42_14
def F42_16 : ICode := .seq F42_4 F42_15
def F42_17 : ICode := .keep [5, 7] F42_16
def F42_18 : ICode := .seq F42_3 F42_17
def F42_19 : ICode := .keep [4, 5] F42_18
def F42_20 : ICode := .seq F42_2 F42_19
def F42_21 : ICode := .keep [4] F42_20
def F42_22 : ICode := .seq F42_1 F42_21
def F42_23 : ICode := .keep [1] F42_22
def F42_24 : ICode := .seq F42_0 F42_23
/-- (introit/rules.condition).room -/
def F42 : IFunc := ⟨F42_24, [.tmp 2, .tmp 3]⟩

def F44_0 : ICode := .region [
  ⟨(some 2), none, .boxV (.tmp 0)⟩,
  ⟨(some 4), none, .mv (.const (.nils))⟩]
def F44_1 : ICode := .region [
  ⟨(some 8), none, .loadV (some 5) (.tmp 2)⟩,
  ⟨(some 9), none, .mv (.tmp 1)⟩,
  ⟨(some 10), none, .call .pure (.func 63) [(.tmp 8), (.tmp 9)]⟩,
  ⟨(some 7), none, .mv (.tmp 10)⟩,
  ⟨(some 11), none, .extract (.tmp 7) 0⟩,
  ⟨(some 12), none, .extract (.tmp 7) 1⟩,
  ⟨(some 5), none, .new [.int .i64 0, .int .i64 0, .str [], .nils, .nils]⟩,
  ⟨none, none, .store 5 (.tmp 5) (.tmp 11)⟩,
  ⟨(some 6), none, .mv (.tmp 12)⟩]
def F44_2 : ICode := .region [
  ⟨(some 13), none, .fieldA 0 (.tmp 5)⟩,
  ⟨(some 14), none, .load none (.tmp 13)⟩,
  ⟨(some 15), none, .bin .neq (.tmp 14) (.const (.int .i64 4))⟩]
def F44_3 : ICode := .region [
  ⟨(some 4), none, .mv (.const (.nils))⟩]
def F44_4 : ICode := .seq F44_3 .ret
def F44_5 : ICode := .cond (.tmp 15) F44_4 .skip
def F44_6 : ICode := .keep [5, 15] F44_5
def F44_7 : ICode := .seq F44_2 F44_6
def F44_8 : ICode := .region [
  ⟨(some 16), none, .fieldA 3 (.tmp 5)⟩,
  ⟨(some 17), none, .load none (.tmp 16)⟩,
  ⟨(some 4), none, .mv (.tmp 17)⟩]
def F44_9 : ICode := .seq F44_8 .ret
def F44_10 : ICode := .keep [5] F44_9
def F44_11 : ICode := .seq F44_7 F44_10
def F44_12 : ICode := .keep [5] F44_11
def F44_13 : ICode := .seq F44_1 F44_12
def F44_14 : ICode := .keep [1, 2] F44_13
def F44_15 : ICode := .seq F44_0 F44_14
/-- introit/rules.items -/
def F44 : IFunc := ⟨F44_15, [.tmp 4]⟩

def F43_0 : ICode := .region [
  ⟨(some 1), none, .boxV (.tmp 0)⟩,
  ⟨(some 2), none, .new [.int .i64 0, .int .i64 0, .str [], .nils, .nils]⟩]
def F43_1 : ICode := .region [
  ⟨(some 3), none, .loadV (some 5) (.tmp 1)⟩,
  ⟨(some 4), none, .call .pure (.func 25) [(.tmp 3)]⟩,
  ⟨(some 5), none, .un .not (.tmp 4)⟩,
  ⟨(some 6), none, .mv (.tmp 5)⟩,
  ⟨(some 7), (some (6, false)), .fieldA 0 (.tmp 1)⟩,
  ⟨(some 8), (some (6, false)), .loadV none (.tmp 7)⟩,
  ⟨(some 9), (some (6, false)), .bin .neq (.tmp 8) (.const (.int .i64 5))⟩,
  ⟨(some 10), none, .pick (.tmp 6) (.const (.bool true)) (.tmp 9)⟩]
def F43_2 : ICode := .region [
  ⟨(some 11), none, .build [.int .i64 0, .int .i64 0, .str [], .nils, .nils] []⟩,
  ⟨none, none, .store 5 (.tmp 2) (.tmp 11)⟩]
def F43_3 : ICode := .seq F43_2 .ret
def F43_4 : ICode := .cond (.tmp 10) F43_3 .skip
def F43_5 : ICode := .keep [1, 2, 10] F43_4
def F43_6 : ICode := .seq F43_1 F43_5
def F43_7 : ICode := .region [
  ⟨(some 12), none, .loadV (some 5) (.tmp 1)⟩,
  ⟨none, none, .store 5 (.tmp 2) (.tmp 12)⟩]
def F43_8 : ICode := .seq F43_7 .ret
def F43_9 : ICode := .keep [1, 2] F43_8
def F43_10 : ICode := .seq F43_6 F43_9
def F43_11 : ICode := .keep [1, 2] F43_10
def F43_12 : ICode := .seq F43_0 F43_11
/-- introit/rules.said -/
def F43 : IFunc := ⟨F43_12, [.cell 2 (some 5)]⟩

def F45_0 : ICode := .region [
  ⟨(some 4), none, .mv (.const (.bool false))⟩]
def F45_1 : ICode := .region [
  ⟨(some 5), none, .mv (.tmp 0)⟩,
  ⟨(some 6), none, .mv (.tmp 1)⟩,
  ⟨(some 7), none, .call .pure (.func 64) [(.tmp 5), (.tmp 6)]⟩,
  ⟨(some 8), none, .bin .geq (.tmp 7) (.const (.int .i64 0))⟩,
  ⟨(some 4), none, .mv (.tmp 8)⟩]
def F45_2 : ICode := .seq F45_1 .ret
def F45_3 : ICode := .keep [0, 1] F45_2
def F45_4 : ICode := .seq F45_0 F45_3
/-- slices.Contains[[]string,string] -/
def F45 : IFunc := ⟨F45_4, [.tmp 4]⟩

def F46_0 : ICode := .region [
  ⟨(some 2), none, .boxV (.tmp 0)⟩,
  ⟨(some 4), none, .mv (.const (.str []))⟩,
  ⟨(some 5), none, .mv (.const (.bool false))⟩]
def F46_1 : ICode := .region [
  ⟨(some 9), none, .loadV (some 5) (.tmp 2)⟩,
  ⟨(some 10), none, .mv (.tmp 1)⟩,
  ⟨(some 11), none, .call .pure (.func 63) [(.tmp 9), (.tmp 10)]⟩,
  ⟨(some 8), none, .mv (.tmp 11)⟩,
  ⟨(some 12), none, .extract (.tmp 8) 0⟩,
  ⟨(some 13), none, .extract (.tmp 8) 1⟩,
  ⟨(some 6), none, .new [.int .i64 0, .int .i64 0, .str [], .nils, .nils]⟩,
  ⟨none, none, .store 5 (.tmp 6) (.tmp 12)⟩,
  ⟨(some 7), none, .mv (.tmp 13)⟩]
def F46_2 : ICode := .region [
  ⟨(some 14), none, .mv (.tmp 7)⟩,
  ⟨(some 15), none, .un .not (.tmp 14)⟩,
  ⟨(some 16), none, .mv (.tmp 15)⟩,
  ⟨(some 17), (some (16, false)), .fieldA 0 (.tmp 6)⟩,
  ⟨(some 18), (some (16, false)), .load none (.tmp 17)⟩,
  ⟨(some 19), (some (16, false)), .bin .neq (.tmp 18) (.const (.int .i64 3))⟩,
  ⟨(some 20), none, .pick (.tmp 16) (.const (.bool true)) (.tmp 19)⟩]
def F46_3 : ICode := .region [
  ⟨(some 4), none, .mv (.const (.str []))⟩,
  ⟨(some 5), none, .mv (.const (.bool false))⟩]
def F46_4 : ICode := .seq F46_3 .ret
def F46_5 : ICode := .cond (.tmp 20) F46_4 .skip
def F46_6 : ICode := .keep [6, 20] F46_5
def F46_7 : ICode := .seq F46_2 F46_6
def F46_8 : ICode := .region [
  ⟨(some 21), none, .fieldA 2 (.tmp 6)⟩,
  ⟨(some 22), none, .load none (.tmp 21)⟩,
  ⟨(some 4), none, .mv (.tmp 22)⟩,
  ⟨(some 5), none, .mv (.const (.bool true))⟩]
def F46_9 : ICode := .seq F46_8 .ret
def F46_10 : ICode := .keep [6] F46_9
def F46_11 : ICode := .seq F46_7 F46_10
def F46_12 : ICode := .keep [6, 7] F46_11
def F46_13 : ICode := .seq F46_1 F46_12
def F46_14 : ICode := .keep [1, 2] F46_13
def F46_15 : ICode := .seq F46_0 F46_14
/-- introit/value.TextAt -/
def F46 : IFunc := ⟨F46_15, [.tmp 4, .tmp 5]⟩

def F47_0 : ICode := .region [
  ⟨(some 3), none, .boxV (.tmp 0)⟩,
  ⟨(some 6), none, .mv (.const (.int .i64 0))⟩]
def F47_1 : ICode := .region [
  ⟨(some 10), none, .fieldA 2 (.tmp 3)⟩,
  ⟨(some 11), none, .loadV none (.tmp 10)⟩,
  ⟨(some 12), none, .len true (.tmp 11)⟩,
  ⟨(some 13), none, .bin .add (.const (.int .i64 1)) (.tmp 12)⟩,
  ⟨(some 7), none, .mv (.tmp 13)⟩]
def F47_2 : ICode := .region [
  ⟨(some 14), none, .mv (.tmp 1)⟩,
  ⟨(some 15), none, .bin .gtr (.tmp 14) (.const (.int .i64 70))⟩]
def F47_3 : ICode := .region [
  ⟨(some 16), none, .mv (.tmp 2)⟩,
  ⟨(some 17), none, .bin .add (.tmp 16) (.const (.int .i64 1))⟩,
  ⟨(some 6), none, .mv (.tmp 17)⟩]
def F47_4 : ICode := .seq F47_3 .ret
def F47_5 : ICode := .cond (.tmp 15) F47_4 .skip
def F47_6 : ICode := .keep [1, 2, 3, 7, 15] F47_5
def F47_7 : ICode := .seq F47_2 F47_6
def F47_8 : ICode := .region [
  ⟨(some 8), none, .mv (.const (.int .i64 0))⟩]
def F47_9 : ICode := .region [
  ⟨(some 18), none, .mv (.tmp 8)⟩,
  ⟨(some 19), none, .fieldA 3 (.tmp 3)⟩,
  ⟨(some 20), none, .loadV none (.tmp 19)⟩,
  ⟨(some 21), none, .len false (.tmp 20)⟩,
  ⟨(some 22), none, .bin .lss (.tmp 18) (.tmp 21)⟩,
  ⟨(some 23), none, .mv (.tmp 22)⟩,
  ⟨(some 24), (some (23, true)), .mv (.tmp 7)⟩,
  ⟨(some 25), (some (23, true)), .mv (.tmp 2)⟩,
  ⟨(some 26), (some (23, true)), .bin .leq (.tmp 24) (.tmp 25)⟩,
  ⟨(some 27), none, .pick (.tmp 23) (.tmp 26) (.const (.bool false))⟩]
def F47_10 : ICode := .cond (.tmp 27) .skip (.exit 0)
def F47_11 : ICode := .keep [1, 2, 3, 7, 8, 27] F47_10
def F47_12 : ICode := .seq F47_9 F47_11
def F47_13 : ICode := .region [
  ⟨(some 30), none, .mv (.tmp 7)⟩,
  ⟨(some 31), none, .fieldA 3 (.tmp 3)⟩,
  ⟨(some 32), none, .loadV none (.tmp 31)⟩,
  ⟨(some 33), none, .mv (.tmp 8)⟩,
  ⟨(some 34), none, .idxA 5 none (.tmp 32) (.tmp 33)⟩,
  ⟨(some 35), none, .load (some 5) (.tmp 34)⟩,
  ⟨(some 36), none, .mv (.tmp 1)⟩,
  ⟨(some 37), none, .bin .add (.tmp 36) (.const (.int .i64 1))⟩,
  ⟨(some 38), none, .mv (.tmp 2)⟩,
  ⟨(some 39), none, .call .pure (.func 47) [(.tmp 35), (.tmp 37), (.tmp 38)]⟩,
  ⟨(some 40), none, .bin .add (.tmp 30) (.tmp 39)⟩,
  ⟨(some 7), none, .mv (.tmp 40)⟩]
def F47_14 : ICode := .block 1 F47_13
def F47_15 : ICode := .region [
  ⟨(some 28), none, .mv (.tmp 8)⟩,
  ⟨(some 29), none, .bin .add (.tmp 28) (.const (.int .i64 1))⟩,
  ⟨(some 8), none, .mv (.tmp 29)⟩]
def F47_16 : ICode := .keep [1, 2, 3, 7, 8] F47_15
def F47_17 : ICode := .seq F47_14 F47_16
def F47_18 : ICode := .keep [1, 2, 3, 7, 8] F47_17
def F47_19 : ICode := .seq F47_12 F47_18
def F47_20 : ICode := .loop [1, 2, 3, 7, 8] F47_19
def F47_21 : ICode := .block 0 F47_20
def F47_22 : ICode := .keep [1, 2, 3, 7, 8] F47_21
def F47_23 : ICode := .seq F47_8 F47_22
def F47_24 : ICode := .region [
  ⟨(some 9), none, .mv (.const (.int .i64 0))⟩]
def F47_25 : ICode := .region [
  ⟨(some 41), none, .mv (.tmp 9)⟩,
  ⟨(some 42), none, .fieldA 4 (.tmp 3)⟩,
  ⟨(some 43), none, .loadV none (.tmp 42)⟩,
  ⟨(some 44), none, .len false (.tmp 43)⟩,
  ⟨(some 45), none, .bin .lss (.tmp 41) (.tmp 44)⟩,
  ⟨(some 46), none, .mv (.tmp 45)⟩,
  ⟨(some 47), (some (46, true)), .mv (.tmp 7)⟩,
  ⟨(some 48), (some (46, true)), .mv (.tmp 2)⟩,
  ⟨(some 49), (some (46, true)), .bin .leq (.tmp 47) (.tmp 48)⟩,
  ⟨(some 50), none, .pick (.tmp 46) (.tmp 49) (.const (.bool false))⟩]
def F47_26 : ICode := .cond (.tmp 50) .skip (.exit 2)
def F47_27 : ICode := .keep [1, 2, 3, 7, 9, 50] F47_26
def F47_28 : ICode := .seq F47_25 F47_27
def F47_29 : ICode := .region [
  ⟨(some 53), none, .mv (.tmp 7)⟩,
  ⟨(some 54), none, .fieldA 4 (.tmp 3)⟩,
  ⟨(some 55), none, .loadV none (.tmp 54)⟩,
  ⟨(some 56), none, .mv (.tmp 9)⟩,
  ⟨(some 57), none, .idxA 6 none (.tmp 55) (.tmp 56)⟩,
  ⟨(some 58), none, .fieldA 0 (.tmp 57)⟩,
  ⟨(some 59), none, .load none (.tmp 58)⟩,
  ⟨(some 60), none, .len true (.tmp 59)⟩,
  ⟨(some 61), none, .fieldA 4 (.tmp 3)⟩,
  ⟨(some 62), none, .loadV none (.tmp 61)⟩,
  ⟨(some 63), none, .mv (.tmp 9)⟩,
  ⟨(some 64), none, .idxA 6 none (.tmp 62) (.tmp 63)⟩,
  ⟨(some 65), none, .fieldA 1 (.tmp 64)⟩,
  ⟨(some 66), none, .load (some 5) (.tmp 65)⟩,
  ⟨(some 67), none, .mv (.tmp 1)⟩,
  ⟨(some 68), none, .bin .add (.tmp 67) (.const (.int .i64 1))⟩,
  ⟨(some 69), none, .mv (.tmp 2)⟩,
  ⟨(some 70), none, .call .strict (.func 47) [(.tmp 66), (.tmp 68), (.tmp 69)]⟩,
  ⟨(some 71), none, .bin .add (.tmp 60) (.tmp 70)⟩,
  ⟨(some 72), none, .bin .add (.tmp 53) (.tmp 71)⟩,
  ⟨(some 7), none, .mv (.tmp 72)⟩]
def F47_30 : ICode := .block 3 F47_29
def F47_31 : ICode := .region [
  ⟨(some 51), none, .mv (.tmp 9)⟩,
  ⟨(some 52), none, .bin .add (.tmp 51) (.const (.int .i64 1))⟩,
  ⟨(some 9), none, .mv (.tmp 52)⟩]
def F47_32 : ICode := .keep [1, 2, 3, 7, 9] F47_31
def F47_33 : ICode := .seq F47_30 F47_32
def F47_34 : ICode := .keep [1, 2, 3, 7, 9] F47_33
def F47_35 : ICode := .seq F47_28 F47_34
def F47_36 : ICode := .loop [1, 2, 3, 7, 9] F47_35
def F47_37 : ICode := .block 2 F47_36
def F47_38 : ICode := .keep [1, 2, 3, 7, 9] F47_37
def F47_39 : ICode := .seq F47_24 F47_38
def F47_40 : ICode := .region [
  ⟨(some 73), none, .mv (.tmp 7)⟩,
  ⟨(some 6), none, .mv (.tmp 73)⟩]
def F47_41 : ICode := .seq F47_40 .ret
def F47_42 : ICode := .keep [7] F47_41
def F47_43 : ICode := .seq F47_39 F47_42
def F47_44 : ICode := .keep [1, 2, 3, 7] F47_43
def F47_45 : ICode := .seq F47_23 F47_44
def F47_46 : ICode := .keep [1, 2, 3, 7] F47_45
def F47_47 : ICode := .seq F47_7 F47_46
def F47_48 : ICode := .keep [1, 2, 3, 7] F47_47
def F47_49 : ICode := .seq F47_1 F47_48
def F47_50 : ICode := .keep [1, 2, 3] F47_49
def F47_51 : ICode := .seq F47_0 F47_50
/-- introit/introitlaw2.weight -/
def F47 : IFunc := ⟨F47_51, [.tmp 6]⟩

def F48_0 : ICode := .region [
  ⟨(some 1), none, .boxV (.tmp 0)⟩,
  ⟨(some 2), none, .mv (.const (.bool false))⟩]
def F48_1 : ICode := .region [
  ⟨(some 6), none, .fieldA 0 (.tmp 1)⟩,
  ⟨(some 7), none, .loadV none (.tmp 6)⟩,
  ⟨(some 8), none, .call .pure (.func 65) [(.tmp 7)]⟩,
  ⟨(some 5), none, .mv (.tmp 8)⟩,
  ⟨(some 9), none, .extract (.tmp 5) 0⟩,
  ⟨(some 10), none, .extract (.tmp 5) 1⟩,
  ⟨(some 3), none, .mv (.tmp 9)⟩,
  ⟨(some 4), none, .mv (.tmp 10)⟩]
def F48_2 : ICode := .region [
  ⟨(some 11), none, .mv (.tmp 4)⟩,
  ⟨(some 12), none, .mv (.tmp 11)⟩,
  ⟨(some 13), (some (12, true)), .mv (.tmp 3)⟩,
  ⟨(some 14), (some (12, true)), .loadV (some 5) (.tmp 1)⟩,
  ⟨(some 15), (some (12, true)), .call .pure (.tmp 13) [(.tmp 14)]⟩,
  ⟨(some 16), none, .pick (.tmp 12) (.tmp 15) (.const (.bool false))⟩,
  ⟨(some 2), none, .mv (.tmp 16)⟩]
def F48_3 : ICode := .seq F48_2 .ret
def F48_4 : ICode := .keep [1, 3, 4] F48_3
def F48_5 : ICode := .seq F48_1 F48_4
def F48_6 : ICode := .keep [1] F48_5
def F48_7 : ICode := .seq F48_0 F48_6
/-- introit/value.fine -/
def F48 : IFunc := ⟨F48_7, [.tmp 2]⟩

def F49_0 : ICode := .region [
  ⟨(some 1), none, .boxV (.tmp 0)⟩,
  ⟨(some 2), none, .mv (.const (.int .i64 0))⟩]
def F49_1 : ICode := .region [
  ⟨(some 3), none, .mv (.const (.int .i64 0))⟩]
def F49_2 : ICode := .region [
  ⟨(some 8), none, .fieldA 0 (.tmp 1)⟩,
  ⟨(some 9), none, .loadV none (.tmp 8)⟩]
def F49_3 : ICode := .region [
  ⟨(some 11), none, .bin .eql (.tmp 9) (.const (.int .i64 4))⟩,
  ⟨(some 10), none, .mv (.tmp 11)⟩]
def F49_4 : ICode := .region [
  ⟨(some 12), none, .fieldA 3 (.tmp 1)⟩,
  ⟨(some 13), none, .loadV none (.tmp 12)⟩,
  ⟨(some 14), none, .len false (.tmp 13)⟩,
  ⟨(some 15), none, .mv (.const (.int .i64 0))⟩]
def F49_5 : ICode := .region [
  ⟨(some 16), none, .bin .lss (.tmp 15) (.tmp 14)⟩]
def F49_6 : ICode := .cond (.tmp 16) .skip (.exit 1)
def F49_7 : ICode := .region [
  ⟨(some 17), none, .idxA 5 none (.tmp 13) (.tmp 15)⟩,
  ⟨(some 18), none, .load (some 5) (.tmp 17)⟩,
  ⟨(some 5), none, .new [.int .i64 0, .int .i64 0, .str [], .nils, .nils]⟩,
  ⟨none, none, .store 5 (.tmp 5) (.tmp 18)⟩]
def F49_8 : ICode := .region [
  ⟨(some 19), none, .mv (.tmp 3)⟩,
  ⟨(some 20), none, .load (some 5) (.tmp 5)⟩,
  ⟨(some 21), none, .call .pure (.func 49) [(.tmp 20)]⟩,
  ⟨(some 22), none, .max2 false (.tmp 19) (.tmp 21)⟩,
  ⟨(some 3), none, .mv (.tmp 22)⟩]
def F49_9 : ICode := .keep [3, 5, 13, 14, 15] F49_8
def F49_10 : ICode := .seq F49_7 F49_9
def F49_11 : ICode := .block 2 F49_10
def F49_12 : ICode := .region [
  ⟨(some 23), none, .bin .add (.tmp 15) (.const (.int .i64 1))⟩,
  ⟨(some 15), none, .mv (.tmp 23)⟩]
def F49_13 : ICode := .keep [3, 13, 14, 15] F49_12
def F49_14 : ICode := .seq F49_11 F49_13
def F49_15 : ICode := .keep [3, 13, 14, 15] F49_14
def F49_16 : ICode := .seq F49_6 F49_15
def F49_17 : ICode := .keep [3, 13, 14, 15, 16] F49_16
def F49_18 : ICode := .seq F49_5 F49_17
def F49_19 : ICode := .loop [3, 13, 14, 15] F49_18
def F49_20 : ICode := .block 1 F49_19
def F49_21 : ICode := .keep [3, 13, 14, 15] F49_20
def F49_22 : ICode := .seq F49_4 F49_21
def F49_23 : ICode := .region [
  ⟨(some 25), none, .bin .eql (.tmp 9) (.const (.int .i64 5))⟩,
  ⟨(some 24), none, .mv (.tmp 25)⟩]
def F49_24 : ICode := .region [
  ⟨(some 26), none, .fieldA 4 (.tmp 1)⟩,
  ⟨(some 27), none, .loadV none (.tmp 26)⟩,
  ⟨(some 28), none, .len false (.tmp 27)⟩,
  ⟨(some 29), none, .mv (.const (.int .i64 0))⟩]
def F49_25 : ICode := .region [
  ⟨(some 30), none, .bin .lss (.tmp 29) (.tmp 28)⟩]
def F49_26 : ICode := .cond (.tmp 30) .skip (.exit 3)
def F49_27 : ICode := .region [
  ⟨(some 31), none, .idxA 6 none (.tmp 27) (.tmp 29)⟩,
  ⟨(some 32), none, .load (some 6) (.tmp 31)⟩,
  ⟨(some 7), none, .new [.str [], .int .i64 0, .int .i64 0, .str [], .nils, .nils]⟩,
  ⟨none, none, .store 6 (.tmp 7) (.tmp 32)⟩]
def F49_28 : ICode := .region [
  ⟨(some 33), none, .mv (.tmp 3)⟩,
  ⟨(some 34), none, .fieldA 1 (.tmp 7)⟩,
  ⟨(some 35), none, .load (some 5) (.tmp 34)⟩,
  ⟨(some 36), none, .call .pure (.func 49) [(.tmp 35)]⟩,
  ⟨(some 37), none, .max2 false (.tmp 33) (.tmp 36)⟩,
  ⟨(some 3), none, .mv (.tmp 37)⟩]
def F49_29 : ICode := .keep [3, 7, 27, 28, 29] F49_28
def F49_30 : ICode := .seq F49_27 F49_29
def F49_31 : ICode := .block 4 F49_30
def F49_32 : ICode := .region [
  ⟨(some 38), none, .bin .add (.tmp 29) (.const (.int .i64 1))⟩,
  ⟨(some 29), none, .mv (.tmp 38)⟩]
def F49_33 : ICode := .keep [3, 27, 28, 29] F49_32
def F49_34 : ICode := .seq F49_31 F49_33
def F49_35 : ICode := .keep [3, 27, 28, 29] F49_34
def F49_36 : ICode := .seq F49_26 F49_35
def F49_37 : ICode := .keep [3, 27, 28, 29, 30] F49_36
def F49_38 : ICode := .seq F49_25 F49_37
def F49_39 : ICode := .loop [3, 27, 28, 29] F49_38
def F49_40 : ICode := .block 3 F49_39
def F49_41 : ICode := .keep [3, 27, 28, 29] F49_40
def F49_42 : ICode := .seq F49_24 F49_41
def F49_43 : ICode := .region [
  ⟨(some 2), none, .mv (.const (.int .i64 0))⟩]
def F49_44 : ICode := .seq F49_43 .ret
def F49_45 : ICode := .cond (.tmp 24) F49_42 F49_44
def F49_46 : ICode := .keep [1, 3, 24] F49_45
def F49_47 : ICode := .seq F49_23 F49_46
def F49_48 : ICode := .cond (.tmp 10) F49_22 F49_47
def F49_49 : ICode := .keep [1, 3, 9, 10] F49_48
def F49_50 : ICode := .seq F49_3 F49_49
def F49_51 : ICode := .block 0 F49_50
def F49_52 : ICode := .keep [1, 3, 9] F49_51
def F49_53 : ICode := .seq F49_2 F49_52
def F49_54 : ICode := .region [
  ⟨(some 39), none, .mv (.tmp 3)⟩,
  ⟨(some 40), none, .bin .add (.tmp 39) (.const (.int .i64 1))⟩,
  ⟨(some 2), none, .mv (.tmp 40)⟩]
def F49_55 : ICode := .seq F49_54 .ret
def F49_56 : ICode := .keep [3] F49_55
def F49_57 : ICode := .seq F49_53 F49_56
def F49_58 : ICode := .keep [1, 3] F49_57
def F49_59 : ICode := .seq F49_1 F49_58
def F49_60 : ICode := .keep [1] F49_59
def F49_61 : ICode := .seq F49_0 F49_60
/-- introit/value.Depth -/
def F49 : IFunc := ⟨F49_61, [.tmp 2]⟩

def F51_0 : ICode := .region [
  ⟨(some 4), none, .mv (.const (.int .i64 0))⟩]
def F51_1 : ICode := .region [
  ⟨(some 6), none, .mv (.tmp 0)⟩,
  ⟨(some 7), none, .len false (.tmp 6)⟩,
  ⟨(some 8), none, .mv (.const (.int .i64 0))⟩]
def F51_2 : ICode := .region [
  ⟨(some 9), none, .bin .lss (.tmp 8) (.tmp 7)⟩]
def F51_3 : ICode := .cond (.tmp 9) .skip (.exit 0)
def F51_4 : ICode := .region [
  ⟨(some 10), none, .mv (.tmp 8)⟩,
  ⟨(some 5), none, .mv (.tmp 10)⟩]
def F51_5 : ICode := .region [
  ⟨(some 11), none, .mv (.tmp 1)⟩,
  ⟨(some 12), none, .mv (.tmp 0)⟩,
  ⟨(some 13), none, .mv (.tmp 5)⟩,
  ⟨(some 14), none, .idxA 20 none (.tmp 12) (.tmp 13)⟩,
  ⟨(some 15), none, .load (some 20) (.tmp 14)⟩,
  ⟨(some 16), none, .call .pure (.tmp 11) [(.tmp 15)]⟩]
def F51_6 : ICode := .region [
  ⟨(some 17), none, .mv (.tmp 5)⟩,
  ⟨(some 4), none, .mv (.tmp 17)⟩]
def F51_7 : ICode := .seq F51_6 .ret
def F51_8 : ICode := .cond (.tmp 16) F51_7 .skip
def F51_9 : ICode := .keep [0, 1, 5, 7, 8, 16] F51_8
def F51_10 : ICode := .seq F51_5 F51_9
def F51_11 : ICode := .keep [0, 1, 5, 7, 8] F51_10
def F51_12 : ICode := .seq F51_4 F51_11
def F51_13 : ICode := .block 1 F51_12
def F51_14 : ICode := .region [
  ⟨(some 18), none, .bin .add (.tmp 8) (.const (.int .i64 1))⟩,
  ⟨(some 8), none, .mv (.tmp 18)⟩]
def F51_15 : ICode := .keep [0, 1, 7, 8] F51_14
def F51_16 : ICode := .seq F51_13 F51_15
def F51_17 : ICode := .keep [0, 1, 7, 8] F51_16
def F51_18 : ICode := .seq F51_3 F51_17
def F51_19 : ICode := .keep [0, 1, 7, 8, 9] F51_18
def F51_20 : ICode := .seq F51_2 F51_19
def F51_21 : ICode := .loop [0, 1, 7, 8] F51_20
def F51_22 : ICode := .block 0 F51_21
def F51_23 : ICode := .keep [0, 1, 7, 8] F51_22
def F51_24 : ICode := .seq F51_1 F51_23
def F51_25 : ICode := .region [
  ⟨(some 4), none, .mv (.const (.int .i64 (-1)))⟩]
def F51_26 : ICode := .seq F51_25 .ret
def F51_27 : ICode := .keep [] F51_26
def F51_28 : ICode := .seq F51_24 F51_27
def F51_29 : ICode := .keep [0, 1] F51_28
def F51_30 : ICode := .seq F51_0 F51_29
/-- slices.IndexFunc[introit/pick.state,introit/api.Event] -/
def F51 : IFunc := ⟨F51_30, [.tmp 4]⟩

def F50_0 : ICode := .region [
  ⟨(some 2), none, .boxV (.tmp 0)⟩,
  ⟨(some 3), none, .mv (.const (.bool false))⟩]
def F50_1 : ICode := .region [
  ⟨(some 4), none, .fieldA 10 (.tmp 2)⟩,
  ⟨(some 5), none, .loadV none (.tmp 4)⟩,
  ⟨(some 6), none, .mv (.tmp 5)⟩,
  ⟨(some 7), (some (6, true)), .loadV (some 20) (.tmp 2)⟩,
  ⟨(some 8), (some (6, true)), .call .strict (.func 36) [(.tmp 7)]⟩,
  ⟨(some 9), (some (6, true)), .load (some 2) (.tmp 1)⟩,
  ⟨(some 10), (some (6, true)), .eqs [.str, .str] false (.tmp 8) (.tmp 9)⟩,
  ⟨(some 11), none, .pick (.tmp 6) (.tmp 10) (.const (.bool false))⟩,
  ⟨(some 3), none, .mv (.tmp 11)⟩]
def F50_2 : ICode := .seq F50_1 .ret
def F50_3 : ICode := .keep [1, 2] F50_2
def F50_4 : ICode := .seq F50_0 F50_3
/-- (introit/pick.state).of$1 -/
def F50 : IFunc := ⟨F50_4, [.tmp 3]⟩

def F52_0 : ICode := .region [
  ⟨(some 1), none, .box (.tmp 0)⟩,
  ⟨(some 2), none, .new [.int .i64 0, .int .i64 0, .str [], .nils, .nils, .str [], .str [], .str [], .str [], .str [], .bool false, .int .i64 0, .int .i64 0, .nils, .nils, .int .i64 0, .int .i64 0, .str [], .nils, .nils]⟩]
def F52_1 : ICode := .region [
  ⟨(some 3), none, .fieldA 13 (.tmp 1)⟩,
  ⟨(some 4), none, .load none (.tmp 3)⟩,
  ⟨(some 5), none, .call .splitS (.func 66) [(.tmp 4)]⟩,
  ⟨(some 6), none, .fieldA 14 (.tmp 1)⟩,
  ⟨(some 7), none, .load none (.tmp 6)⟩,
  ⟨(some 8), none, .call .splitS (.func 66) [(.tmp 7)]⟩,
  ⟨(some 9), none, .fieldA 13 (.tmp 1)⟩,
  ⟨none, none, .store 1 (.tmp 9) (.tmp 5)⟩,
  ⟨(some 10), none, .fieldA 14 (.tmp 1)⟩,
  ⟨none, none, .store 1 (.tmp 10) (.tmp 8)⟩]
def F52_2 : ICode := .region [
  ⟨(some 11), none, .load (some 20) (.tmp 1)⟩,
  ⟨none, none, .store 20 (.tmp 2) (.tmp 11)⟩]
def F52_3 : ICode := .seq F52_2 .ret
def F52_4 : ICode := .keep [1, 2] F52_3
def F52_5 : ICode := .seq F52_1 F52_4
def F52_6 : ICode := .keep [1, 2] F52_5
def F52_7 : ICode := .seq F52_0 F52_6
/-- introit/event.Copy -/
def F52 : IFunc := ⟨F52_7, [.cell 2 (some 20)]⟩

def F53_0 : ICode := .region [
  ⟨(some 3), none, .boxV (.tmp 1)⟩,
  ⟨(some 4), none, .mv (.const (.int .i64 0))⟩]
def F53_1 : ICode := .region [
  ⟨(some 6), none, .mv (.tmp 0)⟩,
  ⟨(some 7), none, .len false (.tmp 6)⟩,
  ⟨(some 8), none, .mv (.const (.int .i64 0))⟩]
def F53_2 : ICode := .region [
  ⟨(some 9), none, .bin .lss (.tmp 8) (.tmp 7)⟩]
def F53_3 : ICode := .cond (.tmp 9) .skip (.exit 0)
def F53_4 : ICode := .region [
  ⟨(some 10), none, .mv (.tmp 8)⟩,
  ⟨(some 5), none, .mv (.tmp 10)⟩]
def F53_5 : ICode := .region [
  ⟨(some 11), none, .loadV (some 2) (.tmp 3)⟩,
  ⟨(some 12), none, .mv (.tmp 0)⟩,
  ⟨(some 13), none, .mv (.tmp 5)⟩,
  ⟨(some 14), none, .idxA 2 none (.tmp 12) (.tmp 13)⟩,
  ⟨(some 15), none, .load (some 2) (.tmp 14)⟩,
  ⟨(some 16), none, .eqs [.str, .str] false (.tmp 11) (.tmp 15)⟩]
def F53_6 : ICode := .region [
  ⟨(some 17), none, .mv (.tmp 5)⟩,
  ⟨(some 4), none, .mv (.tmp 17)⟩]
def F53_7 : ICode := .seq F53_6 .ret
def F53_8 : ICode := .cond (.tmp 16) F53_7 .skip
def F53_9 : ICode := .keep [0, 3, 5, 7, 8, 16] F53_8
def F53_10 : ICode := .seq F53_5 F53_9
def F53_11 : ICode := .keep [0, 3, 5, 7, 8] F53_10
def F53_12 : ICode := .seq F53_4 F53_11
def F53_13 : ICode := .block 1 F53_12
def F53_14 : ICode := .region [
  ⟨(some 18), none, .bin .add (.tmp 8) (.const (.int .i64 1))⟩,
  ⟨(some 8), none, .mv (.tmp 18)⟩]
def F53_15 : ICode := .keep [0, 3, 7, 8] F53_14
def F53_16 : ICode := .seq F53_13 F53_15
def F53_17 : ICode := .keep [0, 3, 7, 8] F53_16
def F53_18 : ICode := .seq F53_3 F53_17
def F53_19 : ICode := .keep [0, 3, 7, 8, 9] F53_18
def F53_20 : ICode := .seq F53_2 F53_19
def F53_21 : ICode := .loop [0, 3, 7, 8] F53_20
def F53_22 : ICode := .block 0 F53_21
def F53_23 : ICode := .keep [0, 3, 7, 8] F53_22
def F53_24 : ICode := .seq F53_1 F53_23
def F53_25 : ICode := .region [
  ⟨(some 4), none, .mv (.const (.int .i64 (-1)))⟩]
def F53_26 : ICode := .seq F53_25 .ret
def F53_27 : ICode := .keep [] F53_26
def F53_28 : ICode := .seq F53_24 F53_27
def F53_29 : ICode := .keep [0, 3] F53_28
def F53_30 : ICode := .seq F53_0 F53_29
/-- slices.Index[[]introit/api.Slot,introit/api.Slot] -/
def F53 : IFunc := ⟨F53_30, [.tmp 4]⟩

def F54_0 : ICode := .region [
  ⟨(some 1), none, .boxV (.tmp 0)⟩,
  ⟨(some 2), none, .new [.int .i64 0, .int .i64 0, .str [], .nils, .nils]⟩,
  ⟨(some 3), none, .mv (.const (.bool false))⟩]
def F54_1 : ICode := .region [
  ⟨(some 13), none, .loadV (some 5) (.tmp 1)⟩,
  ⟨(some 14), none, .call .pure (.func 43) [(.tmp 13)]⟩,
  ⟨(some 15), none, .call .pure (.func 67) [(.tmp 14), (.const (.str [116, 104, 105, 114, 100, 95, 112, 97, 114, 116, 121, 95, 105, 110, 118, 105, 116, 101]))]⟩,
  ⟨(some 12), none, .mv (.tmp 15)⟩,
  ⟨(some 16), none, .extract (.tmp 12) 0⟩,
  ⟨(some 17), none, .extract (.tmp 12) 1⟩,
  ⟨(some 4), none, .new [.int .i64 0, .int .i64 0, .str [], .nils, .nils]⟩,
  ⟨none, none, .store 5 (.tmp 4) (.tmp 16)⟩,
  ⟨(some 5), none, .mv (.tmp 17)⟩]
def F54_2 : ICode := .region [
  ⟨(some 19), none, .load (some 5) (.tmp 4)⟩,
  ⟨(some 20), none, .call .pure (.func 67) [(.tmp 19), (.const (.str [115, 105, 103, 110, 101, 100]))]⟩,
  ⟨(some 18), none, .mv (.tmp 20)⟩,
  ⟨(some 21), none, .extract (.tmp 18) 0⟩,
  ⟨(some 22), none, .extract (.tmp 18) 1⟩,
  ⟨(some 6), none, .new [.int .i64 0, .int .i64 0, .str [], .nils, .nils]⟩,
  ⟨none, none, .store 5 (.tmp 6) (.tmp 21)⟩,
  ⟨(some 7), none, .mv (.tmp 22)⟩]
def F54_3 : ICode := .region [
  ⟨(some 24), none, .load (some 5) (.tmp 6)⟩,
  ⟨(some 25), none, .call .pure (.func 46) [(.tmp 24), (.const (.str [116, 111, 107, 101, 110]))]⟩,
  ⟨(some 23), none, .mv (.tmp 25)⟩,
  ⟨(some 26), none, .extract (.tmp 23) 0⟩,
  ⟨(some 27), none, .extract (.tmp 23) 1⟩,
  ⟨(some 8), none, .mv (.tmp 26)⟩,
  ⟨(some 9), none, .mv (.tmp 27)⟩]
def F54_4 : ICode := .region [
  ⟨(some 29), none, .load (some 5) (.tmp 6)⟩,
  ⟨(some 30), none, .call .pure (.func 46) [(.tmp 29), (.const (.str [109, 120, 105, 100]))]⟩,
  ⟨(some 28), none, .mv (.tmp 30)⟩,
  ⟨(some 31), none, .extract (.tmp 28) 0⟩,
  ⟨(some 32), none, .extract (.tmp 28) 1⟩,
  ⟨(some 10), none, .mv (.tmp 31)⟩,
  ⟨(some 11), none, .mv (.tmp 32)⟩]
def F54_5 : ICode := .region [
  ⟨(some 33), none, .load (some 5) (.tmp 6)⟩,
  ⟨(some 34), none, .mv (.tmp 7)⟩,
  ⟨(some 35), none, .mv (.tmp 34)⟩,
  ⟨(some 36), (some (35, true)), .mv (.tmp 9)⟩,
  ⟨(some 37), none, .pick (.tmp 35) (.tmp 36) (.const (.bool false))⟩,
  ⟨(some 38), none, .mv (.tmp 37)⟩,
  ⟨(some 39), (some (38, true)), .mv (.tmp 11)⟩,
  ⟨(some 40), none, .pick (.tmp 38) (.tmp 39) (.const (.bool false))⟩,
  ⟨none, none, .store 5 (.tmp 2) (.tmp 33)⟩,
  ⟨(some 3), none, .mv (.tmp 40)⟩]
def F54_6 : ICode := .seq F54_5 .ret
def F54_7 : ICode := .keep [2, 6, 7, 9, 11] F54_6
def F54_8 : ICode := .seq F54_4 F54_7
def F54_9 : ICode := .keep [2, 6, 7, 9] F54_8
def F54_10 : ICode := .seq F54_3 F54_9
def F54_11 : ICode := .keep [2, 6, 7] F54_10
def F54_12 : ICode := .seq F54_2 F54_11
def F54_13 : ICode := .keep [2, 4] F54_12
def F54_14 : ICode := .seq F54_1 F54_13
def F54_15 : ICode := .keep [1, 2] F54_14
def F54_16 : ICode := .seq F54_0 F54_15
/-- introit/rules.signed -/
def F54 : IFunc := ⟨F54_16, [.cell 2 (some 5), .tmp 3]⟩

def F55_0 : ICode := .region [
  ⟨(some 2), none, .mv (.const (.str []))⟩,
  ⟨(some 3), none, .mv (.const (.str []))⟩,
  ⟨(some 4), none, .mv (.const (.bool false))⟩]
def F55_1 : ICode := .region [
  ⟨(some 5), none, .mv (.tmp 0)⟩,
  ⟨(some 6), none, .call .pure (.func 68) [(.tmp 5), (.const (.int .u8 64))]⟩,
  ⟨(some 7), none, .extract (.tmp 6) 0⟩,
  ⟨(some 8), none, .extract (.tmp 6) 1⟩,
  ⟨(some 9), none, .extract (.tmp 6) 2⟩,
  ⟨(some 2), none, .mv (.tmp 7)⟩,
  ⟨(some 3), none, .mv (.tmp 8)⟩,
  ⟨(some 4), none, .mv (.tmp 9)⟩]
def F55_2 : ICode := .seq F55_1 .ret
def F55_3 : ICode := .keep [0] F55_2
def F55_4 : ICode := .seq F55_0 F55_3
/-- introit/ident.User -/
def F55 : IFunc := ⟨F55_4, [.tmp 2, .tmp 3, .tmp 4]⟩

def F56_0 : ICode := .region [
  ⟨(some 2), none, .boxV (.tmp 0)⟩,
  ⟨(some 4), none, .mv (.const (.str []))⟩,
  ⟨(some 5), none, .mv (.const (.bool false))⟩]
def F56_1 : ICode := .region [
  ⟨(some 6), none, .loadV (some 5) (.tmp 2)⟩,
  ⟨(some 7), none, .call .pure (.func 69) [(.tmp 6)]⟩,
  ⟨(some 8), none, .un .not (.tmp 7)⟩]
def F56_2 : ICode := .region [
  ⟨(some 4), none, .mv (.const (.str []))⟩,
  ⟨(some 5), none, .mv (.const (.bool false))⟩]
def F56_3 : ICode := .seq F56_2 .ret
def F56_4 : ICode := .cond (.tmp 8) F56_3 .skip
def F56_5 : ICode := .keep [1, 2, 8] F56_4
def F56_6 : ICode := .seq F56_1 F56_5
def F56_7 : ICode := .region [
  ⟨(some 9), none, .loadV (some 5) (.tmp 2)⟩,
  ⟨(some 10), none, .mv (.tmp 1)⟩,
  ⟨(some 11), none, .call .pure (.func 58) [(.tmp 9), (.tmp 10)]⟩,
  ⟨(some 12), none, .extract (.tmp 11) 0⟩,
  ⟨(some 13), none, .extract (.tmp 11) 1⟩,
  ⟨(some 4), none, .mv (.tmp 12)⟩,
  ⟨(some 5), none, .mv (.tmp 13)⟩]
def F56_8 : ICode := .seq F56_7 .ret
def F56_9 : ICode := .keep [1, 2] F56_8
def F56_10 : ICode := .seq F56_6 F56_9
def F56_11 : ICode := .keep [1, 2] F56_10
def F56_12 : ICode := .seq F56_0 F56_11
/-- introit/introitref17.text -/
def F56 : IFunc := ⟨F56_12, [.tmp 4, .tmp 5]⟩

def F57_0 : ICode := .region [
  ⟨(some 1), none, .boxV (.tmp 0)⟩,
  ⟨(some 2), none, .new [.int .i64 0, .int .i64 0, .str [], .nils, .nils]⟩,
  ⟨(some 3), none, .mv (.const (.bool false))⟩]
def F57_1 : ICode := .region [
  ⟨(some 8), none, .loadV (some 5) (.tmp 1)⟩,
  ⟨(some 9), none, .call .pure (.func 69) [(.tmp 8)]⟩,
  ⟨(some 10), none, .un .not (.tmp 9)⟩]
def F57_2 : ICode := .region [
  ⟨(some 11), none, .build [.int .i64 0, .int .i64 0, .str [], .nils, .nils] []⟩,
  ⟨none, none, .store 5 (.tmp 2) (.tmp 11)⟩,
  ⟨(some 3), none, .mv (.const (.bool false))⟩]
def F57_3 : ICode := .seq F57_2 .ret
def F57_4 : ICode := .cond (.tmp 10) F57_3 .skip
def F57_5 : ICode := .keep [1, 2, 10] F57_4
def F57_6 : ICode := .seq F57_1 F57_5
def F57_7 : ICode := .region [
  ⟨(some 13), none, .loadV (some 5) (.tmp 1)⟩,
  ⟨(some 14), none, .call .pure (.func 70) [(.tmp 13), (.const (.str [116, 104, 105, 114, 100, 95, 112, 97, 114, 116, 121, 95, 105, 110, 118, 105, 116, 101]))]⟩,
  ⟨(some 12), none, .mv (.tmp 14)⟩,
  ⟨(some 15), none, .extract (.tmp 12) 0⟩,
  ⟨(some 16), none, .extract (.tmp 12) 1⟩,
  ⟨(some 4), none, .new [.int .i64 0, .int .i64 0, .str [], .nils, .nils]⟩,
  ⟨none, none, .store 5 (.tmp 4) (.tmp 15)⟩,
  ⟨(some 5), none, .mv (.tmp 16)⟩]
def F57_8 : ICode := .region [
  ⟨(some 18), none, .load (some 5) (.tmp 4)⟩,
  ⟨(some 19), none, .call .pure (.func 70) [(.tmp 18), (.const (.str [115, 105, 103, 110, 101, 100]))]⟩,
  ⟨(some 17), none, .mv (.tmp 19)⟩,
  ⟨(some 20), none, .extract (.tmp 17) 0⟩,
  ⟨(some 21), none, .extract (.tmp 17) 1⟩,
  ⟨(some 6), none, .new [.int .i64 0, .int .i64 0, .str [], .nils, .nils]⟩,
  ⟨none, none, .store 5 (.tmp 6) (.tmp 20)⟩,
  ⟨(some 7), none, .mv (.tmp 21)⟩]
def F57_9 : ICode := .region [
  ⟨(some 22), none, .loadF (some 5) (.tmp 6)⟩,
  ⟨(some 23), none, .mv (.tmp 7)⟩,
  ⟨(some 24), none, .mv (.tmp 23)⟩,
  ⟨(some 25), (some (24, true)), .fieldA 0 (.tmp 6)⟩,
  ⟨(some 26), (some (24, true)), .loadF none (.tmp 25)⟩,
  ⟨(some 27), (some (24, true)), .bin .eql (.tmp 26) (.const (.int .i64 5))⟩,
  ⟨(some 28), none, .pick (.tmp 24) (.tmp 27) (.const (.bool false))⟩,
  ⟨none, none, .store 5 (.tmp 2) (.tmp 22)⟩,
  ⟨(some 3), none, .mv (.tmp 28)⟩]
def F57_10 : ICode := .frz [6] F57_9
def F57_11 : ICode := .seq F57_10 .ret
def F57_12 : ICode := .keep [2, 6, 7] F57_11
def F57_13 : ICode := .seq F57_8 F57_12
def F57_14 : ICode := .keep [2, 4] F57_13
def F57_15 : ICode := .seq F57_7 F57_14
def F57_16 : ICode := .keep [1, 2] F57_15
def F57_17 : ICode := .seq F57_6 F57_16
def F57_18 : ICode := .keep [1, 2] F57_17
def F57_19 : ICode := .seq F57_0 F57_18
/-- introit/introitref17.signed -/
def F57 : IFunc := ⟨F57_19, [.cell 2 (some 5), .tmp 3]⟩

def F58_0 : ICode := .region [
  ⟨(some 2), none, .boxV (.tmp 0)⟩,
  ⟨(some 4), none, .mv (.const (.str []))⟩,
  ⟨(some 5), none, .mv (.const (.bool false))⟩]
def F58_1 : ICode := .region [
  ⟨(some 9), none, .loadV (some 5) (.tmp 2)⟩,
  ⟨(some 10), none, .mv (.tmp 1)⟩,
  ⟨(some 11), none, .call .pure (.func 70) [(.tmp 9), (.tmp 10)]⟩,
  ⟨(some 8), none, .mv (.tmp 11)⟩,
  ⟨(some 12), none, .extract (.tmp 8) 0⟩,
  ⟨(some 13), none, .extract (.tmp 8) 1⟩,
  ⟨(some 6), none, .new [.int .i64 0, .int .i64 0, .str [], .nils, .nils]⟩,
  ⟨none, none, .store 5 (.tmp 6) (.tmp 12)⟩,
  ⟨(some 7), none, .mv (.tmp 13)⟩]
def F58_2 : ICode := .region [
  ⟨(some 14), none, .mv (.tmp 7)⟩,
  ⟨(some 15), none, .un .not (.tmp 14)⟩,
  ⟨(some 16), none, .mv (.tmp 15)⟩,
  ⟨(some 17), (some (16, false)), .fieldA 0 (.tmp 6)⟩,
  ⟨(some 18), (some (16, false)), .load none (.tmp 17)⟩,
  ⟨(some 19), (some (16, false)), .bin .neq (.tmp 18) (.const (.int .i64 3))⟩,
  ⟨(some 20), none, .pick (.tmp 16) (.const (.bool true)) (.tmp 19)⟩]
def F58_3 : ICode := .region [
  ⟨(some 4), none, .mv (.const (.str []))⟩,
  ⟨(some 5), none, .mv (.const (.bool false))⟩]
def F58_4 : ICode := .seq F58_3 .ret
def F58_5 : ICode := .cond (.tmp 20) F58_4 .skip
def F58_6 : ICode := .keep [6, 20] F58_5
def F58_7 : ICode := .seq F58_2 F58_6
def F58_8 : ICode := .region [
  ⟨(some 21), none, .fieldA 2 (.tmp 6)⟩,
  ⟨(some 22), none, .load none (.tmp 21)⟩,
  ⟨(some 4), none, .mv (.tmp 22)⟩,
  ⟨(some 5), none, .mv (.const (.bool true))⟩]
def F58_9 : ICode := .seq F58_8 .ret
def F58_10 : ICode := .keep [6] F58_9
def F58_11 : ICode := .seq F58_7 F58_10
def F58_12 : ICode := .keep [6, 7] F58_11
def F58_13 : ICode := .seq F58_1 F58_12
def F58_14 : ICode := .keep [1, 2] F58_13
def F58_15 : ICode := .seq F58_0 F58_14
/-- introit/introitref1.TextAt -/
def F58 : IFunc := ⟨F58_15, [.tmp 4, .tmp 5]⟩

def F59_0 : ICode := .region [
  ⟨(some 2), none, .mv (.const (.bool false))⟩]
def F59_1 : ICode := .region [
  ⟨(some 7), none, .mv (.tmp 0)⟩,
  ⟨(some 8), none, .call .pure (.func 71) [(.tmp 7)]⟩,
  ⟨(some 6), none, .mv (.tmp 8)⟩,
  ⟨(some 9), none, .extract (.tmp 6) 0⟩,
  ⟨(some 10), none, .extract (.tmp 6) 1⟩,
  ⟨(some 11), none, .extract (.tmp 6) 2⟩,
  ⟨(some 3), none, .mv (.tmp 9)⟩,
  ⟨(some 4), none, .mv (.tmp 10)⟩,
  ⟨(some 5), none, .mv (.tmp 11)⟩]
def F59_2 : ICode := .region [
  ⟨(some 12), none, .mv (.tmp 5)⟩,
  ⟨(some 2), none, .mv (.tmp 12)⟩]
def F59_3 : ICode := .seq F59_2 .ret
def F59_4 : ICode := .keep [5] F59_3
def F59_5 : ICode := .seq F59_1 F59_4
def F59_6 : ICode := .keep [0] F59_5
def F59_7 : ICode := .seq F59_0 F59_6
/-- introit/introitref1.IsUser -/
def F59 : IFunc := ⟨F59_7, [.tmp 2]⟩

def F60_0 : ICode := .region [
  ⟨(some 6), none, .mv (.const (.int .i64 20))⟩]
def F60_1 : ICode := .region [
  ⟨(some 10), none, .mv (.tmp 6)⟩,
  ⟨(some 7), none, .mv (.const (.int .i64 0))⟩,
  ⟨(some 8), none, .mv (.tmp 10)⟩]
def F60_2 : ICode := .region [
  ⟨(some 11), none, .mv (.tmp 8)⟩,
  ⟨(some 12), none, .mv (.tmp 1)⟩,
  ⟨(some 13), none, .bin .leq (.tmp 11) (.tmp 12)⟩]
def F60_3 : ICode := .cond (.tmp 13) .skip (.exit 0)
def F60_4 : ICode := .keep [0, 1, 2, 6, 7, 8, 13] F60_3
def F60_5 : ICode := .seq F60_2 F60_4
def F60_6 : ICode := .region [
  ⟨(some 14), none, .mv (.tmp 0)⟩,
  ⟨(some 15), none, .mv (.tmp 7)⟩,
  ⟨(some 16), none, .mv (.tmp 8)⟩,
  ⟨(some 17), none, .mv (.tmp 2)⟩,
  ⟨(some 18), none, .call .shared (.func 72) [(.tmp 14), (.tmp 15), (.tmp 16), (.tmp 17)]⟩]
def F60_7 : ICode := .region [
  ⟨(some 19), none, .mv (.tmp 8)⟩,
  ⟨(some 7), none, .mv (.tmp 19)⟩]
def F60_8 : ICode := .region [
  ⟨(some 20), none, .mv (.tmp 8)⟩,
  ⟨(some 21), none, .mv (.tmp 6)⟩,
  ⟨(some 22), none, .bin .add (.tmp 20) (.tmp 21)⟩,
  ⟨(some 8), none, .mv (.tmp 22)⟩]
def F60_9 : ICode := .keep [0, 1, 2, 6, 7, 8] F60_8
def F60_10 : ICode := .seq F60_7 F60_9
def F60_11 : ICode := .keep [0, 1, 2, 6, 8] F60_10
def F60_12 : ICode := .seq F60_6 F60_11
def F60_13 : ICode := .block 1 F60_12
def F60_14 : ICode := .keep [0, 1, 2, 6, 7, 8] F60_13
def F60_15 : ICode := .seq F60_5 F60_14
def F60_16 : ICode := .loop [0, 1, 2, 6, 7, 8] F60_15
def F60_17 : ICode := .block 0 F60_16
def F60_18 : ICode := .region [
  ⟨(some 23), none, .mv (.tmp 0)⟩,
  ⟨(some 24), none, .mv (.tmp 7)⟩,
  ⟨(some 25), none, .mv (.tmp 1)⟩,
  ⟨(some 26), none, .mv (.tmp 2)⟩,
  ⟨(some 27), none, .call .shared (.func 72) [(.tmp 23), (.tmp 24), (.tmp 25), (.tmp 26)]⟩]
def F60_19 : ICode := .region [
  ⟨(some 28), none, .mv (.tmp 6)⟩,
  ⟨(some 29), none, .mv (.tmp 1)⟩,
  ⟨(some 30), none, .bin .lss (.tmp 28) (.tmp 29)⟩]
def F60_20 : ICode := .cond (.tmp 30) .skip (.exit 2)
def F60_21 : ICode := .keep [0, 1, 2, 6, 30] F60_20
def F60_22 : ICode := .seq F60_19 F60_21
def F60_23 : ICode := .region [
  ⟨(some 31), none, .mv (.tmp 6)⟩,
  ⟨(some 32), none, .bin .mul (.const (.int .i64 2)) (.tmp 31)⟩,
  ⟨(some 7), none, .mv (.const (.int .i64 0))⟩,
  ⟨(some 8), none, .mv (.tmp 32)⟩]
def F60_24 : ICode := .region [
  ⟨(some 33), none, .mv (.tmp 8)⟩,
  ⟨(some 34), none, .mv (.tmp 1)⟩,
  ⟨(some 35), none, .bin .leq (.tmp 33) (.tmp 34)⟩]
def F60_25 : ICode := .cond (.tmp 35) .skip (.exit 4)
def F60_26 : ICode := .keep [0, 1, 2, 6, 7, 8, 35] F60_25
def F60_27 : ICode := .seq F60_24 F60_26
def F60_28 : ICode := .region [
  ⟨(some 36), none, .mv (.tmp 0)⟩,
  ⟨(some 37), none, .mv (.tmp 7)⟩,
  ⟨(some 38), none, .mv (.tmp 7)⟩,
  ⟨(some 39), none, .mv (.tmp 6)⟩,
  ⟨(some 40), none, .bin .add (.tmp 38) (.tmp 39)⟩,
  ⟨(some 41), none, .mv (.tmp 8)⟩,
  ⟨(some 42), none, .mv (.tmp 2)⟩,
  ⟨(some 43), none, .call .shared (.func 73) [(.tmp 36), (.tmp 37), (.tmp 40), (.tmp 41), (.tmp 42)]⟩]
def F60_29 : ICode := .region [
  ⟨(some 44), none, .mv (.tmp 8)⟩,
  ⟨(some 7), none, .mv (.tmp 44)⟩]
def F60_30 : ICode := .region [
  ⟨(some 45), none, .mv (.tmp 8)⟩,
  ⟨(some 46), none, .mv (.tmp 6)⟩,
  ⟨(some 47), none, .bin .mul (.const (.int .i64 2)) (.tmp 46)⟩,
  ⟨(some 48), none, .bin .add (.tmp 45) (.tmp 47)⟩,
  ⟨(some 8), none, .mv (.tmp 48)⟩]
def F60_31 : ICode := .keep [0, 1, 2, 6, 7, 8] F60_30
def F60_32 : ICode := .seq F60_29 F60_31
def F60_33 : ICode := .keep [0, 1, 2, 6, 8] F60_32
def F60_34 : ICode := .seq F60_28 F60_33
def F60_35 : ICode := .block 5 F60_34
def F60_36 : ICode := .keep [0, 1, 2, 6, 7, 8] F60_35
def F60_37 : ICode := .seq F60_27 F60_36
def F60_38 : ICode := .loop [0, 1, 2, 6, 7, 8] F60_37
def F60_39 : ICode := .block 4 F60_38
def F60_40 : ICode := .region [
  ⟨(some 49), none, .mv (.tmp 7)⟩,
  ⟨(some 50), none, .mv (.tmp 6)⟩,
  ⟨(some 51), none, .bin .add (.tmp 49) (.tmp 50)⟩,
  ⟨(some 9), none, .mv (.tmp 51)⟩]
def F60_41 : ICode := .region [
  ⟨(some 52), none, .mv (.tmp 9)⟩,
  ⟨(some 53), none, .mv (.tmp 1)⟩,
  ⟨(some 54), none, .bin .lss (.tmp 52) (.tmp 53)⟩]
def F60_42 : ICode := .region [
  ⟨(some 55), none, .mv (.tmp 0)⟩,
  ⟨(some 56), none, .mv (.tmp 7)⟩,
  ⟨(some 57), none, .mv (.tmp 9)⟩,
  ⟨(some 58), none, .mv (.tmp 1)⟩,
  ⟨(some 59), none, .mv (.tmp 2)⟩,
  ⟨(some 60), none, .call .shared (.func 73) [(.tmp 55), (.tmp 56), (.tmp 57), (.tmp 58), (.tmp 59)]⟩]
def F60_43 : ICode := .cond (.tmp 54) F60_42 .skip
def F60_44 : ICode := .keep [0, 1, 2, 6, 7, 9, 54] F60_43
def F60_45 : ICode := .seq F60_41 F60_44
def F60_46 : ICode := .keep [0, 1, 2, 6, 7, 9] F60_45
def F60_47 : ICode := .seq F60_40 F60_46
def F60_48 : ICode := .region [
  ⟨(some 61), none, .mv (.tmp 6)⟩,
  ⟨(some 62), none, .bin .mul (.tmp 61) (.const (.int .i64 2))⟩,
  ⟨(some 6), none, .mv (.tmp 62)⟩]
def F60_49 : ICode := .keep [0, 1, 2, 6] F60_48
def F60_50 : ICode := .seq F60_47 F60_49
def F60_51 : ICode := .keep [0, 1, 2, 6, 7] F60_50
def F60_52 : ICode := .seq F60_39 F60_51
def F60_53 : ICode := .keep [0, 1, 2, 6, 7, 8] F60_52
def F60_54 : ICode := .seq F60_23 F60_53
def F60_55 : ICode := .block 3 F60_54
def F60_56 : ICode := .keep [0, 1, 2, 6] F60_55
def F60_57 : ICode := .seq F60_22 F60_56
def F60_58 : ICode := .loop [0, 1, 2, 6] F60_57
def F60_59 : ICode := .block 2 F60_58
def F60_60 : ICode := .keep [0, 1, 2, 6] F60_59
def F60_61 : ICode := .seq F60_18 F60_60
def F60_62 : ICode := .keep [0, 1, 2, 6, 7] F60_61
def F60_63 : ICode := .seq F60_17 F60_62
def F60_64 : ICode := .keep [0, 1, 2, 6, 7, 8] F60_63
def F60_65 : ICode := .seq F60_1 F60_64
def F60_66 : ICode := .keep [0, 1, 2, 6] F60_65
def F60_67 : ICode := .seq F60_0 F60_66
/-- slices.stableCmpFunc[introit/api.Member] -/
def F60 : IFunc := ⟨F60_67, []⟩
end Go.Ab
