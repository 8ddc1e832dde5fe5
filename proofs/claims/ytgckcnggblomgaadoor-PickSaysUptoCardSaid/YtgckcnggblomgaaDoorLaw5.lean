/- What functions of the program, and of the library, answer. Conditions: none. -/
import Derived.Test.YtgckcnggblomgaaDoorLaw4
import Derived.Test.YtgckcnggblomgaaDoorEx
set_option linter.unusedVariables false
set_option linter.unusedSimpArgs false
set_option linter.defProp false
/- Names. -/
namespace Go.Ab
set_option linter.unusedSimpArgs false
set_option linter.defProp false
set_option maxHeartbeats 1000000
def T9Fa := And.intro @F101_0.eq_1 (And.intro @F101_1.eq_1 (And.intro @F101_2.eq_1 (And.intro @F101_3.eq_1 (And.intro @F101_4.eq_1 (And.intro @F101_5.eq_1 (And.intro @F101_6.eq_1 (And.intro @F101_7.eq_1 (And.intro @F101_8.eq_1 (And.intro @F101_9.eq_1 (And.intro @F101_10.eq_1 (And.intro @F101_11.eq_1 (And.intro @F101_12.eq_1 (And.intro @F101_13.eq_1 (And.intro @F101_14.eq_1 (And.intro @F101_15.eq_1 (And.intro @F101_16.eq_1 (And.intro @F101_17.eq_1 (And.intro @F101_18.eq_1 (And.intro @F101_19.eq_1 (And.intro @F101_20.eq_1 (And.intro @F101_21.eq_1 (And.intro @F101_22.eq_1 (And.intro @F101_23.eq_1 (And.intro @F101_24.eq_1 (And.intro @F101_25.eq_1 (And.intro @F101_26.eq_1 (And.intro @F101_27.eq_1 (And.intro @F101_28.eq_1 (And.intro @F101_29.eq_1 (And.intro @F101_30.eq_1 (And.intro @F101_31.eq_1 (And.intro @F101_32.eq_1 (And.intro @F101_33.eq_1 (And.intro @F101_34.eq_1 (And.intro @F101_35.eq_1 (And.intro @F101_36.eq_1 (And.intro @F101_37.eq_1 (And.intro @F101_38.eq_1 (And.intro @F101_39.eq_1 (And.intro @F101_40.eq_1 (And.intro @F101_41.eq_1 (And.intro @F101_42.eq_1 (And.intro @F101_43.eq_1 (And.intro @F101_44.eq_1 (And.intro @F101_45.eq_1 (And.intro @F101_46.eq_1 (And.intro @F101_47.eq_1 (And.intro @F101_48.eq_1 (And.intro @F101_49.eq_1 (And.intro @F101_50.eq_1 (And.intro @F101_51.eq_1 (And.intro @F101_52.eq_1 (And.intro @F101_53.eq_1 (And.intro @F101_54.eq_1 (And.intro @F101_55.eq_1 (And.intro @F101_56.eq_1 (And.intro @F101_57.eq_1 (And.intro @F101_58.eq_1 (And.intro @F101_59.eq_1 (And.intro @F101_60.eq_1 (And.intro @F101_61.eq_1 (And.intro @F101_62.eq_1 (And.intro @F101_63.eq_1 (And.intro @F101_64.eq_1 (And.intro @F101_65.eq_1 (And.intro @F101_66.eq_1 (And.intro @F101_67.eq_1 (And.intro @F101_68.eq_1 (And.intro @F101_69.eq_1 (And.intro @F101_70.eq_1 (And.intro @F101_71.eq_1 (And.intro @F101_72.eq_1 (And.intro @F101_73.eq_1 (And.intro @F101_74.eq_1 (And.intro @F101_75.eq_1 (And.intro @F101_76.eq_1 (And.intro @F101_77.eq_1 (And.intro @F101_78.eq_1 (And.intro @F101_79.eq_1 (And.intro @F101_80.eq_1 (And.intro @F101_81.eq_1 (And.intro @F101_82.eq_1 (And.intro @F101_83.eq_1 (And.intro @F101_84.eq_1 (And.intro @F101_85.eq_1 (And.intro @F101_86.eq_1 (And.intro @F101_87.eq_1 (And.intro @F101_88.eq_1 (And.intro @F101_89.eq_1 (And.intro @F101_90.eq_1 (And.intro @F101_91.eq_1 (And.intro @F101_92.eq_1 (And.intro @F101_93.eq_1 (And.intro @F101_94.eq_1 (And.intro @F101_95.eq_1 (And.intro @F101_96.eq_1 (And.intro @F101_97.eq_1 (And.intro @F101_98.eq_1 (And.intro @F101_99.eq_1 (And.intro @F101_100.eq_1 (And.intro @F101_101.eq_1 (And.intro @F101_102.eq_1 (And.intro @F101_103.eq_1 (And.intro @F101_105.eq_1 (And.intro @F101_106.eq_1 (And.intro @F101_107.eq_1 (And.intro @F101_108.eq_1 (And.intro @F101_109.eq_1 (And.intro @F101_110.eq_1 (And.intro @F101_111.eq_1 (And.intro @F101_112.eq_1 (And.intro @F101_113.eq_1 (And.intro @F101_114.eq_1 (And.intro @F101_115.eq_1 (And.intro @F101_116.eq_1 (And.intro @F101_117.eq_1 (And.intro @F101_118.eq_1 (And.intro @F101_119.eq_1 (And.intro @F101_120.eq_1 (And.intro @F101_121.eq_1 (And.intro @F101_122.eq_1 (And.intro @F101_123.eq_1 (And.intro @F101_124.eq_1 (And.intro @F101_125.eq_1 (And.intro @F101_126.eq_1 (@F101.eq_1))))))))))))))))))))))))))))))))))))))))))))))))))))))))))))))))))))))))))))))))))))))))))))))))))))))))))))))))))))))))))))))
def T9Ff := And.intro @F68_0.eq_1 (And.intro @F68_1.eq_1 (And.intro @F68_2.eq_1 (And.intro @F68_3.eq_1 (And.intro @F68_4.eq_1 (And.intro @F68_5.eq_1 (And.intro @F68_6.eq_1 (And.intro @F68_7.eq_1 (And.intro @F68_8.eq_1 (And.intro @F68_9.eq_1 (And.intro @F68_10.eq_1 (And.intro @F68_11.eq_1 (And.intro @F68_12.eq_1 (And.intro @F68_13.eq_1 (And.intro @F68_14.eq_1 (And.intro @F68_15.eq_1 (And.intro @F68_16.eq_1 (And.intro @F68_17.eq_1 (And.intro @F68_18.eq_1 (And.intro @F68_19.eq_1 (And.intro @F68_20.eq_1 (And.intro @F68_21.eq_1 (And.intro @F68_22.eq_1 (And.intro @F68_23.eq_1 (@F68.eq_1))))))))))))))))))))))))
def T9Fh := And.intro @F76_0.eq_1 (And.intro @F76_1.eq_1 (And.intro @F76_2.eq_1 (And.intro @F76_3.eq_1 (And.intro @F76_4.eq_1 (And.intro @F76_5.eq_1 (And.intro @F76_6.eq_1 (And.intro @F76_7.eq_1 (And.intro @F76_8.eq_1 (And.intro @F76_9.eq_1 (And.intro @F76_10.eq_1 (And.intro @F76_11.eq_1 (And.intro @F76_12.eq_1 (And.intro @F76_13.eq_1 (And.intro @F76_14.eq_1 (And.intro @F76_15.eq_1 (And.intro @F76_16.eq_1 (And.intro @F76_17.eq_1 (And.intro @F76_18.eq_1 (And.intro @F76_19.eq_1 (And.intro @F76_20.eq_1 (And.intro @F76_21.eq_1 (And.intro @F76_22.eq_1 (And.intro @F76_23.eq_1 (And.intro @F76_24.eq_1 (And.intro @F76_25.eq_1 (And.intro @F76_26.eq_1 (And.intro @F76_27.eq_1 (And.intro @F76_28.eq_1 (And.intro @F76_29.eq_1 (And.intro @F76_30.eq_1 (@F76.eq_1)))))))))))))))))))))))))))))))
def T9Fl := And.intro @F93_0.eq_1 (And.intro @F93_1.eq_1 (And.intro @F93_2.eq_1 (And.intro @F93_3.eq_1 (And.intro @F93_4.eq_1 (And.intro @F93_5.eq_1 (And.intro @F93_6.eq_1 (And.intro @F93_7.eq_1 (And.intro @F93_8.eq_1 (And.intro @F93_9.eq_1 (And.intro @F93_10.eq_1 (And.intro @F93_11.eq_1 (And.intro @F93_12.eq_1 (And.intro @F93_13.eq_1 (And.intro @F93_14.eq_1 (And.intro @F93_15.eq_1 (@F93.eq_1))))))))))))))))
def T9Fm := And.intro @F94_0.eq_1 (And.intro @F94_1.eq_1 (And.intro @F94_2.eq_1 (And.intro @F94_3.eq_1 (And.intro @F94_4.eq_1 (And.intro @F94_5.eq_1 (And.intro @F94_6.eq_1 (And.intro @F94_7.eq_1 (And.intro @F94_8.eq_1 (And.intro @F94_9.eq_1 (And.intro @F94_10.eq_1 (And.intro @F94_11.eq_1 (And.intro @F94_12.eq_1 (And.intro @F94_13.eq_1 (And.intro @F94_14.eq_1 (And.intro @F94_15.eq_1 (And.intro @F94_16.eq_1 (And.intro @F94_17.eq_1 (And.intro @F94_18.eq_1 (And.intro @F94_19.eq_1 (And.intro @F94_20.eq_1 (And.intro @F94_21.eq_1 (And.intro @F94_22.eq_1 (And.intro @F94_23.eq_1 (And.intro @F94_24.eq_1 (And.intro @F94_25.eq_1 (And.intro @F94_26.eq_1 (And.intro @F94_27.eq_1 (And.intro @F94_28.eq_1 (And.intro @F94_29.eq_1 (And.intro @F94_30.eq_1 (@F94.eq_1)))))))))))))))))))))))))))))))
set_option maxRecDepth 100000
theorem u8back (c : UInt8) : ((c.toNat : Int).toNat).toUInt8 = c := by simp
theorem r_ib (s : Bs) (c : UInt8) : cR 107 [.str s, .int .u8 c.toNat] = some (.int .i64 (firstByte s c)) := by
  refine cR_of (F := F107) rfl ?_
  simp only [F107_0, F107_1, F107_2, F107_3, F107_4, F107, EXA, Nat.reduceEqDiff, reduceIte, reduceCtorEq, Nat.reduceAdd, Nat.reduceLeDiff, Nat.reduceSub, Nat.reduceMul, Int.reduceEq, Int.reduceBEq, Int.reduceBNe, Int.reduceLT, Int.reduceLE, Nat.reduceLT, u8back]
theorem r_ib2 (s : Bs) (c : UInt8) : cR 102 [.str s, .int .u8 c.toNat] = some (.int .i64 (firstByte s c)) := by
  refine cR_of (F := F102) rfl ?_
  simp only [F102_0, F102_1, F102_2, F102_3, F102_4, F102, EXA, Nat.reduceEqDiff, reduceIte, reduceCtorEq, Nat.reduceAdd, Nat.reduceLeDiff, Nat.reduceSub, Nat.reduceMul, Int.reduceEq, Int.reduceBEq, Int.reduceBNe, Int.reduceLT, Int.reduceLE, Nat.reduceLT, r_ib]
theorem firstByte_none {s : Bs} {c : UInt8} (h : s.findIdx? (fun b => b == c) = none) : firstByte s c = -1 := by
  unfold firstByte; rw [h]
theorem firstByte_some {s : Bs} {c : UInt8} {i : Nat} (h : s.findIdx? (fun b => b == c) = some i) : firstByte s c = (i : Int) := by
  unfold firstByte; rw [h]
theorem firstByte_ge (s : Bs) (c : UInt8) : decide (firstByte s c ≥ 0) = s.contains c := by
  cases h : s.findIdx? (fun b => b == c) with
  | none =>
    rw [firstByte_none h]
    have := List.findIdx?_eq_none_iff.1 h
    have h2 : s.contains c = false := by
      rw [← Bool.not_eq_true, List.contains_iff_mem]
      intro hm
      have := this c hm
      simp at this
    rw [h2]; rfl
  | some i =>
    rw [firstByte_some h]
    obtain ⟨h1, h2, _⟩ := List.findIdx?_eq_some_iff_getElem.1 h
    have h3 : s.contains c = true := by
      rw [List.contains_iff_mem]
      have : s[i] = c := by simpa using h2
      rw [← this]; exact List.getElem_mem h1
    rw [h3]; simp
theorem r_index1 (s : Bs) (c : UInt8) : cR 101 [.str s, .str [c]] = some (.int .i64 (firstByte s c)) := by
  refine cR_of (F := F101) rfl ?_
  have h0 : (((1 : Nat) : Int) == 0) = false := rfl
  have h1 : (((1 : Nat) : Int) == 1) = true := rfl
  have hb : byteAt (.str [c]) (.int .i64 0) = some (.int .u8 c.toNat) := rfl
  by_cases hs : [c] = s
  · subst hs
    have e : firstByte [c] c = 0 := by simp [firstByte, List.findIdx?_cons]
    have hs' : ([c] == [c]) = true := by simp
    simp only [T9Fa, EXA, Nat.reduceEqDiff, reduceIte, reduceCtorEq, Nat.reduceAdd, Nat.reduceLeDiff, Nat.reduceSub, Nat.reduceMul, Int.reduceEq, Int.reduceBEq, Int.reduceBNe, Int.reduceLT, Int.reduceLE, Nat.reduceLT, h0, hs', e]
  · have hs' : ([c] == s) = false := by simp [hs]
    simp only [T9Fa, EXA, Nat.reduceEqDiff, reduceIte, reduceCtorEq, Nat.reduceAdd, Nat.reduceLeDiff, Nat.reduceSub, Nat.reduceMul, Int.reduceEq, Int.reduceBEq, Int.reduceBNe, Int.reduceLT, Int.reduceLE, Nat.reduceLT, h0, h1, hs', hb, r_ib]
def cutB (s : Bs) (c : UInt8) : Bs × Bs × Bool := match s.findIdx? (fun b => b == c) with
  | some i => (s.take i, s.drop (i + 1), true)
  | none => (s, [], false)
theorem r_cut1 (s : Bs) (c : UInt8) (hb : s.length < big) : cR 93 [.str s, .str [c]] = some (.tup [.str (cutB s c).1, .str (cutB s c).2.1, .bool (cutB s c).2.2]) := by
  unfold big at hb
  refine cR_of (F := F93) rfl ?_
  cases h : s.findIdx? (fun b => b == c) with
  | none =>
    have e := firstByte_none h
    have q : decide ((-1 : Int) ≥ 0) = false := rfl
    simp only [T9Fl, EXA, Nat.reduceEqDiff, reduceIte, reduceCtorEq, Nat.reduceAdd, Nat.reduceLeDiff, Nat.reduceSub, Nat.reduceMul, Int.reduceEq, Int.reduceBEq, Int.reduceBNe, Int.reduceLT, Int.reduceLE, Nat.reduceLT, r_index1, e, q, cutB, h]
  | some i =>
    have e := firstByte_some h
    obtain ⟨h1, h2, _⟩ := List.findIdx?_eq_some_iff_getElem.1 h
    have q : decide ((i : Int) ≥ 0) = true := by simp
    have b1 : sliceSOf (.str s) (some none) (some (some (i : Int))) = some (.str (s.take i)) := by
      have h3 : ((i : Int) ≤ s.length) := by omega
      simp [sliceSOf, bounds, h3]
    have w := wsucc (j := i) (n := s.length) h1 (by omega)
    have b2 : sliceSOf (.str s) (some (some ((i + 1 : Nat) : Int))) (some none) = some (.str (s.drop (i + 1))) := by
      have := sliceS_lo (s := s) (i := ((i + 1 : Nat) : Int)) (by omega) (by omega)
      simpa using this
    have w' : IntKind.wrap .i64 ((i : Int) + ((1 : Nat) : Int)) = ((i + 1 : Nat) : Int) := w
    simp only [T9Fl, EXA, Nat.reduceEqDiff, reduceIte, reduceCtorEq, Nat.reduceAdd, Nat.reduceLeDiff, Nat.reduceSub, Nat.reduceMul, Int.reduceEq, Int.reduceBEq, Int.reduceBNe, Int.reduceLT, Int.reduceLE, Nat.reduceLT, r_index1, e, q, cutB, h, b1, w, w', b2]
theorem r_cut (s : Bs) (c : UInt8) (hb : s.length < big) : cR 75 [.str s, .str [c]] = some (.tup [.str (cutB s c).1, .str (cutB s c).2.1, .bool (cutB s c).2.2]) := by
  refine cR_of (F := F75) rfl ?_
  simp only [F75_0, F75_1, F75_2, F75_3, F75_4, F75, EXA, Nat.reduceEqDiff, reduceIte, reduceCtorEq, Nat.reduceAdd, Nat.reduceLeDiff, Nat.reduceSub, Nat.reduceMul, Int.reduceEq, Int.reduceBEq, Int.reduceBNe, Int.reduceLT, Int.reduceLE, Nat.reduceLT, r_cut1 s c hb]
theorem cutB_len (s : Bs) (c : UInt8) : (cutB s c).1.length ≤ s.length ∧ (cutB s c).2.1.length ≤ s.length := by
  unfold cutB
  split
  · simp; omega
  · simp
def setB (set : Bs) (c : UInt8) : Bool := set.contains c
theorem r_setHas (set : Bs) (c : UInt8) : cR 95 [.str set, .int .u8 c.toNat] = some (.bool (setB set c)) := by
  refine cR_of (F := F95) rfl ?_
  simp only [F95_0, F95_1, F95_2, F95_3, F95_4, F95, EXA, Nat.reduceEqDiff, reduceIte, reduceCtorEq, Nat.reduceAdd, Nat.reduceLeDiff, Nat.reduceSub, Nat.reduceMul, Int.reduceEq, Int.reduceBEq, Int.reduceBNe, Int.reduceLT, Int.reduceLE, Nat.reduceLT, r_ib2, firstByte_ge, setB]
def shownB (c : UInt8) : Bool := decide (33 ≤ c) && (decide (c ≤ 126) && c != 58)
theorem g33 (c : UInt8) : decide ((c.toNat : Int) ≥ 33) = decide (33 ≤ c) := by rw [decide_eq_decide, UInt8.le_iff_toNat_le]; simp; omega
theorem l126 (c : UInt8) : decide ((c.toNat : Int) ≤ 126) = decide (c ≤ 126) := by rw [decide_eq_decide, UInt8.le_iff_toNat_le]; simp; omega
theorem n58 (c : UInt8) : ((c.toNat : Int) != 58) = (c != 58) :=
  u8_all (P := fun c => ((c.toNat : Int) != 58) = (c != 58)) (by decide +kernel) c
theorem r_shownHas (c : UInt8) : cR 77 [.agg [], .int .u8 c.toNat] = some (.bool (shownB c)) := by
  refine cR_of (F := F77) rfl ?_
  simp only [F77_0, F77_1, F77_2, F77_3, F77_4, F77, EXA, Nat.reduceEqDiff, reduceIte, reduceCtorEq, Nat.reduceAdd, Nat.reduceLeDiff, Nat.reduceSub, Nat.reduceMul, Int.reduceEq, Int.reduceBEq, Int.reduceBNe, Int.reduceLT, Int.reduceLE, Nat.reduceLT, g33, l126, n58, shownB]
  cases decide (33 ≤ c) <;> cases decide (c ≤ 126) <;> rfl
def allB (p : UInt8 → Bool) (n : Nat) (s : Bs) : Bool := s.all p && (decide (0 < s.length) && decide (s.length ≤ n))
theorem byte_get {s : Bs} {j : Nat} {c : UInt8} (h : s[j]? = some c) : byteAt (.str s) (.int .i64 (j : Int)) = some (.int .u8 c.toNat) := by
  simp [byteAt, h]
theorem lpos (n : Nat) : decide (0 < (n : Int)) = decide (0 < n) := by rw [decide_eq_decide]; omega
theorem lleN (a b : Nat) : decide ((a : Int) ≤ (b : Int)) = decide (a ≤ b) := by rw [decide_eq_decide]; omega
theorem r_allSet (s set : Bs) (n : Nat) (hb : s.length < big) : cR 94 [.str s, .int .i64 (n : Int), .str set, .fn 95 [] []] = some (.bool (allB (setB set) n s)) := by
  unfold big at hb
  refine cR_of (F := F94) rfl ?_
  simp only [F94_0, F94_1, F94_2, F94_3, F94_4, F94_5, F94_6, F94_7, F94_8, F94_9, F94_10, F94_11, F94_12, F94_13, F94_14, F94_15, F94_16, F94_17, F94_18, F94_19, F94_21, F94_22, F94_23, F94_24, F94_25, F94_26, F94_27, F94_28, F94_29, F94_30, F94, ex_loop, EXA, Nat.reduceEqDiff, reduceIte, reduceCtorEq, Nat.reduceAdd, Nat.reduceLeDiff, Nat.reduceSub, Nat.reduceMul, Int.reduceEq, Int.reduceBEq, Int.reduceBNe, Int.reduceLT, Int.reduceLE, Nat.reduceLT]
  refine ex_while (S := Nat) (fun j => [(0, .str s), (1, .int .i64 (n : Int)), (2, .str set), (3, .fn 95 [] []), (11, .int .i64 s.length), (12, .int .i64 (j : Int))]) (fun _ => .empty) (fun j => s.length - j) (fun j => (s.drop j).all (setB set) = s.all (setB set)) ?_ 0 rfl
  intro b j hj ih
  by_cases hlt : j < s.length
  · obtain ⟨c, hc⟩ := get_lt hlt
    have hcond := dlt hlt
    have hbyte := byte_get hc
    rw [drop_cons hc, List.all_cons] at hj
    cases hp : setB set c
    · simp only [T9Fm, EXA, Nat.reduceEqDiff, reduceIte, reduceCtorEq, Nat.reduceAdd, Nat.reduceLeDiff, Nat.reduceSub, Nat.reduceMul, Int.reduceEq, Int.reduceBEq, Int.reduceBNe, Int.reduceLT, Int.reduceLE, Nat.reduceLT, hcond, hbyte, r_setHas, hp, allB]
      rw [hp] at hj
      rw [← hj]; rfl
    · simp only [T9Fm, EXA, Nat.reduceEqDiff, reduceIte, reduceCtorEq, Nat.reduceAdd, Nat.reduceLeDiff, Nat.reduceSub, Nat.reduceMul, Int.reduceEq, Int.reduceBEq, Int.reduceBNe, Int.reduceLT, Int.reduceLE, Nat.reduceLT, hcond, hbyte, r_setHas, hp]
      exact ih (j + 1) _ _ (by omega) (by rw [← hj, hp]; rfl) (by rw [wsucc hlt (by omega)]; simp only [EXA, Nat.reduceEqDiff, reduceIte, reduceCtorEq, Nat.reduceAdd, Nat.reduceLeDiff, Nat.reduceSub, Nat.reduceMul, Int.reduceEq, Int.reduceBEq, Int.reduceBNe, Int.reduceLT, Int.reduceLE, Nat.reduceLT]) rfl
  · have hcond := dge (Nat.not_lt.1 hlt)
    rw [List.drop_eq_nil_of_le (by omega)] at hj
    simp only [T9Fm, EXA, Nat.reduceEqDiff, reduceIte, reduceCtorEq, Nat.reduceAdd, Nat.reduceLeDiff, Nat.reduceSub, Nat.reduceMul, Int.reduceEq, Int.reduceBEq, Int.reduceBNe, Int.reduceLT, Int.reduceLE, Nat.reduceLT, hcond, lpos, lleN, allB, ← hj]
    by_cases h0 : 0 < s.length
    · simp [h0]
    · simp [h0]
theorem r_allShown (s : Bs) (n : Nat) (hb : s.length < big) : cR 76 [.str s, .int .i64 (n : Int), .agg [], .fn 77 [] []] = some (.bool (allB shownB n s)) := by
  unfold big at hb
  refine cR_of (F := F76) rfl ?_
  simp only [F76_0, F76_1, F76_2, F76_3, F76_4, F76_5, F76_6, F76_7, F76_8, F76_9, F76_10, F76_11, F76_12, F76_13, F76_14, F76_15, F76_16, F76_17, F76_18, F76_19, F76_21, F76_22, F76_23, F76_24, F76_25, F76_26, F76_27, F76_28, F76_29, F76_30, F76, ex_loop, EXA, Nat.reduceEqDiff, reduceIte, reduceCtorEq, Nat.reduceAdd, Nat.reduceLeDiff, Nat.reduceSub, Nat.reduceMul, Int.reduceEq, Int.reduceBEq, Int.reduceBNe, Int.reduceLT, Int.reduceLE, Nat.reduceLT]
  refine ex_while (S := Nat) (fun j => [(0, .str s), (1, .int .i64 (n : Int)), (3, .fn 77 [] []), (6, .vptr [] 0), (11, .int .i64 s.length), (12, .int .i64 (j : Int))]) (fun _ => .empty) (fun j => s.length - j) (fun j => (s.drop j).all shownB = s.all shownB) ?_ 0 rfl
  intro b j hj ih
  by_cases hlt : j < s.length
  · obtain ⟨c, hc⟩ := get_lt hlt
    have hcond := dlt hlt
    have hbyte := byte_get hc
    have hr : readAt [] 0 (some 0) = some (.agg []) := rfl
    rw [drop_cons hc, List.all_cons] at hj
    cases hp : shownB c
    · simp only [T9Fh, EXA, Nat.reduceEqDiff, reduceIte, reduceCtorEq, Nat.reduceAdd, Nat.reduceLeDiff, Nat.reduceSub, Nat.reduceMul, Int.reduceEq, Int.reduceBEq, Int.reduceBNe, Int.reduceLT, Int.reduceLE, Nat.reduceLT, hcond, hbyte, r_shownHas, hp, allB, hr]
      rw [hp] at hj
      rw [← hj]; rfl
    · simp only [T9Fh, EXA, Nat.reduceEqDiff, reduceIte, reduceCtorEq, Nat.reduceAdd, Nat.reduceLeDiff, Nat.reduceSub, Nat.reduceMul, Int.reduceEq, Int.reduceBEq, Int.reduceBNe, Int.reduceLT, Int.reduceLE, Nat.reduceLT, hcond, hbyte, r_shownHas, hp, hr]
      exact ih (j + 1) _ _ (by omega) (by rw [← hj, hp]; rfl) (by rw [wsucc hlt (by omega)]; simp only [EXA, Nat.reduceEqDiff, reduceIte, reduceCtorEq, Nat.reduceAdd, Nat.reduceLeDiff, Nat.reduceSub, Nat.reduceMul, Int.reduceEq, Int.reduceBEq, Int.reduceBNe, Int.reduceLT, Int.reduceLE, Nat.reduceLT]) rfl
  · have hcond := dge (Nat.not_lt.1 hlt)
    rw [List.drop_eq_nil_of_le (by omega)] at hj
    simp only [T9Fh, EXA, Nat.reduceEqDiff, reduceIte, reduceCtorEq, Nat.reduceAdd, Nat.reduceLeDiff, Nat.reduceSub, Nat.reduceMul, Int.reduceEq, Int.reduceBEq, Int.reduceBNe, Int.reduceLT, Int.reduceLE, Nat.reduceLT, hcond, lpos, lleN, allB, ← hj]
    by_cases h0 : 0 < s.length
    · simp [h0]
    · simp [h0]
def digitsS : Bs := [48, 49, 50, 51, 52, 53, 54, 55, 56, 57]
def lettersS : Bs := [97, 98, 99, 100, 101, 102, 103, 104, 105, 106, 107, 108, 109, 110, 111, 112, 113, 114, 115, 116, 117, 118, 119, 120, 121, 122, 65, 66, 67, 68, 69, 70, 71, 72, 73, 74, 75, 76, 77, 78, 79, 80, 81, 82, 83, 84, 85, 86, 87, 88, 89, 90, 48, 49, 50, 51, 52, 53, 54, 55, 56, 57, 46, 45]
def serverB (s : Bs) : Bool := (!((cutB s 58).2.2 && !allB (setB digitsS) 5 (cutB s 58).2.1)) && (decide (s.length ≤ 255) && allB (setB lettersS) 255 (cutB s 58).1)
theorem l255 (n : Nat) : decide ((n : Int) ≤ 255) = decide (n ≤ 255) := by rw [decide_eq_decide]; omega
theorem r_server (s : Bs) (hb : s.length < big) : cR 78 [.str s] = some (.bool (serverB s)) := by
  have hc := r_cut s 58 hb
  obtain ⟨c1, c2⟩ := cutB_len s 58
  unfold serverB
  generalize cutB s 58 = c at hc c1 c2 ⊢
  obtain ⟨name, port, ok⟩ := c
  simp only at hc c1 c2 ⊢
  have a1 : cR 94 [.str port, .int .i64 5, .str digitsS, .fn 95 [] []] = _ := r_allSet port digitsS 5 (by omega)
  have a2 : cR 94 [.str name, .int .i64 255, .str lettersS, .fn 95 [] []] = _ := r_allSet name lettersS 255 (by omega)
  generalize allB (setB digitsS) 5 port = A at a1 ⊢
  generalize allB (setB lettersS) 255 name = B at a2 ⊢
  simp only [digitsS, lettersS] at a1 a2
  refine cR_of (F := F78) rfl ?_
  simp only [F78_0, F78_1, F78_2, F78_3, F78_4, F78_5, F78_6, F78_7, F78_8, F78_9, F78_10, F78_11, F78_12, F78_13, F78_14, F78_15, F78, EXA, Nat.reduceEqDiff, reduceIte, reduceCtorEq, Nat.reduceAdd, Nat.reduceLeDiff, Nat.reduceSub, Nat.reduceMul, Int.reduceEq, Int.reduceBEq, Int.reduceBNe, Int.reduceLT, Int.reduceLE, Nat.reduceLT, hc, a1, a2, l255]
  generalize decide (s.length ≤ 255) = L
  cases ok <;> cases A <;> cases L <;> rfl
def partsB (s : Bs) (sign : UInt8) : Bs × Bs × Bool := match s with
  | [] => ([], [], false)
  | a :: r => if a = sign ∧ s.length ≤ 255 ∧ (cutB r 58).2.2 = true ∧ allB shownB 255 (cutB r 58).1 = true ∧ serverB (cutB r 58).2.1 = true then ((cutB r 58).1, (cutB r 58).2.1, true) else ([], [], false)
theorem ne8 (a b : UInt8) : ((a.toNat : Int) != (b.toNat : Int)) = (a != b) := by
  by_cases h : a = b
  · subst h; simp
  · have : (a.toNat : Int) ≠ (b.toNat : Int) := fun h' => h (UInt8.toNat_inj.1 (by omega))
    rw [bne_iff_ne.2 this, bne_iff_ne.2 h]
theorem r_parts (s : Bs) (sign : UInt8) (hb : s.length < big) : cR 68 [.str s, .int .u8 sign.toNat] = some (.tup [.str (partsB s sign).1, .str (partsB s sign).2.1, .bool (partsB s sign).2.2]) := by
  refine cR_of (F := F68) rfl ?_
  cases s with
  | nil =>
    have q : (([] : Bs) == []) = true := rfl
    simp only [T9Ff, EXA, Nat.reduceEqDiff, reduceIte, reduceCtorEq, Nat.reduceAdd, Nat.reduceLeDiff, Nat.reduceSub, Nat.reduceMul, Int.reduceEq, Int.reduceBEq, Int.reduceBNe, Int.reduceLT, Int.reduceLE, Nat.reduceLT, q, partsB]
  | cons a r =>
    have q : ((a :: r) == []) = false := rfl
    have ha : byteAt (.str (a :: r)) (.int .i64 0) = some (.int .u8 a.toNat) := rfl
    have hs : sliceSOf (.str (a :: r)) (some (some 1)) (some none) = some (.str r) := sliceS_lo (s := a :: r) (i := 1) (by omega) (by simp; omega)
    simp only [List.length_cons] at hb
    have hc := r_cut r 58 (by omega)
    obtain ⟨c1, c2⟩ := cutB_len r 58
    simp only [partsB]
    generalize cutB r 58 = c at hc c1 c2 ⊢
    obtain ⟨loc, srv, ok⟩ := c
    simp only at hc c1 c2 ⊢
    have a1 : cR 76 [.str loc, .int .i64 255, .agg [], .fn 77 [] []] = _ := r_allShown loc 255 (by omega)
    have a2 := r_server srv (by omega)
    have hl : decide (255 < ((r.length + 1 : Nat) : Int)) = decide (255 < r.length + 1) := by rw [decide_eq_decide]; omega
    by_cases hsg : a = sign
    · have q1 : (a != sign) = false := by simp [hsg]
      by_cases hlen : 255 < r.length + 1
      · have hl' : decide (255 < r.length + 1) = true := by simp [hlen]
        have hn : ¬ (r.length + 1 ≤ 255) := by omega
        simp only [T9Ff, EXA, Nat.reduceEqDiff, reduceIte, reduceCtorEq, Nat.reduceAdd, Nat.reduceLeDiff, Nat.reduceSub, Nat.reduceMul, Int.reduceEq, Int.reduceBEq, Int.reduceBNe, Int.reduceLT, Int.reduceLE, Nat.reduceLT, q, ha, ne8, q1, hl, hl', List.length_cons, hn, false_and, and_false]
      · have hl' : decide (255 < r.length + 1) = false := by simp [hlen]
        have hn : r.length + 1 ≤ 255 := by omega
        cases ok
        · simp only [T9Ff, EXA, Nat.reduceEqDiff, reduceIte, reduceCtorEq, Nat.reduceAdd, Nat.reduceLeDiff, Nat.reduceSub, Nat.reduceMul, Int.reduceEq, Int.reduceBEq, Int.reduceBNe, Int.reduceLT, Int.reduceLE, Nat.reduceLT, q, ha, ne8, q1, hl, hl', hs, hc, false_and, and_false]
        · cases hA : allB shownB 255 loc
          · rw [hA] at a1
            simp only [T9Ff, EXA, Nat.reduceEqDiff, reduceIte, reduceCtorEq, Nat.reduceAdd, Nat.reduceLeDiff, Nat.reduceSub, Nat.reduceMul, Int.reduceEq, Int.reduceBEq, Int.reduceBNe, Int.reduceLT, Int.reduceLE, Nat.reduceLT, q, ha, ne8, q1, hl, hl', hs, hc, a1, hA, false_and, and_false]
          · rw [hA] at a1
            cases hB : serverB srv
            · rw [hB] at a2
              simp only [T9Ff, EXA, Nat.reduceEqDiff, reduceIte, reduceCtorEq, Nat.reduceAdd, Nat.reduceLeDiff, Nat.reduceSub, Nat.reduceMul, Int.reduceEq, Int.reduceBEq, Int.reduceBNe, Int.reduceLT, Int.reduceLE, Nat.reduceLT, q, ha, ne8, q1, hl, hl', hs, hc, a1, a2, hA, hB, false_and, and_false]
            · rw [hB] at a2
              have hsgT : (a = sign) = True := eq_true hsg
              simp only [T9Ff, EXA, Nat.reduceEqDiff, reduceIte, reduceCtorEq, Nat.reduceAdd, Nat.reduceLeDiff, Nat.reduceSub, Nat.reduceMul, Int.reduceEq, Int.reduceBEq, Int.reduceBNe, Int.reduceLT, Int.reduceLE, Nat.reduceLT, q, ha, ne8, q1, hl, hl', hs, hc, a1, a2, hA, hB, hn, hsgT, List.length_cons]
    · have q1 : (a != sign) = true := by simp [hsg]
      simp only [T9Ff, EXA, Nat.reduceEqDiff, reduceIte, reduceCtorEq, Nat.reduceAdd, Nat.reduceLeDiff, Nat.reduceSub, Nat.reduceMul, Int.reduceEq, Int.reduceBEq, Int.reduceBNe, Int.reduceLT, Int.reduceLE, Nat.reduceLT, q, ha, ne8, q1, hsg, false_and]
theorem r_Room (s : Bs) (hb : s.length < big) : cR 62 [.str s] = some (.tup [.str (partsB s 33).1, .str (partsB s 33).2.1, .bool (partsB s 33).2.2]) := by
  have h : cR 68 [.str s, .int .u8 33] = _ := r_parts s 33 hb
  refine cR_of (F := F62) rfl ?_
  simp only [F62_0, F62_1, F62_2, F62_3, F62_4, F62, EXA, Nat.reduceEqDiff, reduceIte, reduceCtorEq, Nat.reduceAdd, Nat.reduceLeDiff, Nat.reduceSub, Nat.reduceMul, Int.reduceEq, Int.reduceBEq, Int.reduceBNe, Int.reduceLT, Int.reduceLE, Nat.reduceLT, h]
theorem r_User (s : Bs) (hb : s.length < big) : cR 55 [.str s] = some (.tup [.str (partsB s 64).1, .str (partsB s 64).2.1, .bool (partsB s 64).2.2]) := by
  have h : cR 68 [.str s, .int .u8 64] = _ := r_parts s 64 hb
  refine cR_of (F := F55) rfl ?_
  simp only [F55_0, F55_1, F55_2, F55_3, F55_4, F55, EXA, Nat.reduceEqDiff, reduceIte, reduceCtorEq, Nat.reduceAdd, Nat.reduceLeDiff, Nat.reduceSub, Nat.reduceMul, Int.reduceEq, Int.reduceBEq, Int.reduceBNe, Int.reduceLT, Int.reduceLE, Nat.reduceLT, h]
end Go.Ab
/- Slices of one's own, by the plain lists that they hold. -/
namespace Go.Ab
set_option linter.unusedSimpArgs false
set_option linter.defProp false
set_option maxHeartbeats 1000000
/-- How a plain thing lies in a row. -/
structure Lay (α : Type) where
  f : α → AV
  sz : Nat
  pos : 0 < sz
  len : ∀ a, (f a).cells.length = sz
  closed : ∀ a, (f a).closed = true
  er : ∀ a, (f a).er = f a
  one : ∀ a, (f a).cells.all AV.one = true
  agg : ∀ a, if sz = 1 then (f a).cells = [f a] else ∃ cs, f a = .agg cs
def Lay.cells {α : Type} (L : Lay α) (l : List α) : List AV := l.flatMap fun a => (L.f a).cells
theorem Lay.cells_len {α : Type} (L : Lay α) (l : List α) : (L.cells l).length = l.length * L.sz := by
  unfold Lay.cells
  induction l with
  | nil => simp
  | cons a l ih => simp [L.len a, ih, Nat.add_mul]; omega
theorem Lay.cells_closed {α : Type} (L : Lay α) (l : List α) : closedL (L.cells l) = true := by
  unfold Lay.cells
  induction l with
  | nil => rfl
  | cons a l ih =>
    rw [List.flatMap_cons]
    have h : ∀ x y : List AV, closedL x = true → closedL y = true → closedL (x ++ y) = true := by
      intro x y
      induction x with
      | nil => intro _ h; exact h
      | cons c x ihx => intro h1 h2; simp only [closedL, Bool.and_eq_true, List.cons_append] at h1 ⊢; exact ⟨h1.1, ihx h1.2 h2⟩
    refine h _ _ ?_ ih
    have := L.closed a
    cases hf : L.f a <;> simp_all [AV.cells, AV.closed, closedL]
theorem Lay.cells_one {α : Type} (L : Lay α) (l : List α) : (L.cells l).all AV.one = true := by
  unfold Lay.cells
  induction l with
  | nil => rfl
  | cons a l ih => simp only [List.flatMap_cons, List.all_append, L.one a, ih, Bool.and_self]
theorem one_notAgg {l : List AV} (h : l.all AV.one = true) : l.all AV.notAgg = true := by
  rw [List.all_eq_true] at h ⊢
  intro x hx
  have := h x hx
  cases x <;> simp_all [AV.one, AV.notAgg]
theorem Lay.chunks {α : Type} (L : Lay α) (l : List α) : chunks L.sz l.length (L.cells l) = l.map L.f := by
  induction l with
  | nil => rfl
  | cons a l ih =>
    have e : L.cells (a :: l) = (L.f a).cells ++ L.cells l := by simp [Lay.cells]
    simp only [List.length_cons, Go.Ab.chunks, e]
    have hd : ((L.f a).cells ++ L.cells l).drop L.sz = L.cells l := by
      rw [List.drop_append_of_le_length (by rw [L.len]; exact Nat.le_refl _), List.drop_eq_nil_of_le (by rw [L.len]; exact Nat.le_refl _), List.nil_append]
    rw [hd, ih, List.map_cons]
    congr 1
    have ha := L.agg a
    by_cases h1 : L.sz = 1
    · rw [if_pos h1] at ha ⊢
      rw [ha]; rfl
    · rw [if_neg h1] at ha ⊢
      obtain ⟨cs, hcs⟩ := ha
      have hl := L.len a
      rw [hcs] at hl ⊢
      simp only [AV.cells] at hl ⊢
      rw [List.take_append_of_le_length (by omega), List.take_of_length_le (by omega)]
/-- A slice of one's own holds a list. -/
def Own {α : Type} (L : Lay α) (σ : Store) (ob : Option Nat) (l : List α) : Prop := OwnSl σ L.sz ob l.length (L.cells l)
theorem Own.nil {α : Type} (L : Lay α) (σ : Store) : Own L σ none [] := ⟨rfl, rfl⟩
theorem Lay.erMap {α : Type} (L : Lay α) (l : List α) : erL (l.map L.f) = l.map L.f := erL_mapId fun a _ => L.er a
theorem Own.rb {α : Type} {L : Lay α} {σ : Store} {ob : Option Nat} {l : List α} (h : Own L σ ob l) : ∃ v, rb σ rbDepth (slOf L.sz ob l.length) = some v ∧ v.er = .vsl (l.map L.f) none := by
  have := rb_own h L.pos (L.cells_closed l) (one_notAgg (L.cells_one l))
  refine ⟨_, this, ?_⟩
  by_cases h0 : l.length = 0
  · rw [if_pos h0, List.eq_nil_of_length_eq_zero h0]; simp only [AV.er]; rfl
  · rw [if_neg h0, L.chunks]; simp only [AV.er, L.erMap]
theorem Own.rbE {α : Type} {L : Lay α} {σ : Store} {ob : Option Nat} {l : List α} (h : Own L σ ob l) : rbE σ (slOf L.sz ob l.length) = some (.vsl (l.map L.f) none) := by
  obtain ⟨v, h1, h2⟩ := h.rb
  unfold Go.Ab.rbE
  rw [h1, Option.map_some, h2]
theorem Own.lenL {α : Type} {L : Lay α} {σ : Store} {ob : Option Nat} {l : List α} (h : Own L σ ob l) : lenL (slOf L.sz ob l.length) = some (.int .i64 l.length) := lenL_slOf h
theorem Own.append {α : Type} {L : Lay α} {σ : Store} {ob : Option Nat} {l m : List α} {bytes : Nat} (h : Own L σ ob l) (hb : 0 < bytes) (hm : (l.length + m.length) * bytes ≤ maxBytes) (hk : 0 < m.length) :
    ∃ σ', appendTo σ L.sz bytes (slOf L.sz ob l.length) (L.cells m) m.length = some (slOf L.sz (some σ.next) (l ++ m).length, σ') ∧ Own L σ' (some σ.next) (l ++ m) ∧ σ'.next = σ.next + 1 ∧
      ∀ b', b' < σ.next → ob ≠ some b' → σ'.get b' = σ.get b' := by
  obtain ⟨σ', h1, h2, h3, h4⟩ := append_own h L.pos hb hm (L.cells_len m) (L.cells_one m) hk
  refine ⟨σ', by rw [h1, List.length_append], ?_, h3, h4⟩
  unfold Own
  rw [List.length_append]
  have : L.cells (l ++ m) = L.cells l ++ L.cells m := by simp [Lay.cells]
  rw [this]
  exact h2
/-- One more, as a walk meets it. -/
theorem Own.push {α : Type} {L : Lay α} {σ : Store} {ob : Option Nat} {l : List α} {a : α} {bytes : Nat} (h : Own L σ ob l) (hb : 0 < bytes) (hm : (l.length + 1) * bytes ≤ maxBytes) :
    ∃ σ', appendTo σ L.sz bytes (slOf L.sz ob l.length) (L.f a).cells 1 = some (slOf L.sz (some σ.next) (l ++ [a]).length, σ') ∧ Own L σ' (some σ.next) (l ++ [a]) ∧ σ'.next = σ.next + 1 ∧
      ∀ b', b' < σ.next → ob ≠ some b' → σ'.get b' = σ.get b' := by
  have := Own.append (m := [a]) h hb (by simpa using hm) (by simp)
  simpa [Lay.cells] using this
/-- What happens to other blocks. -/
theorem Own.frame {α : Type} {L : Lay α} {σ σ' : Store} {b : Nat} {l : List α} (h : Own L σ (some b) l) (hg : σ'.get b = σ.get b) (hn : σ.next ≤ σ'.next) : Own L σ' (some b) l := by
  obtain ⟨h1, h2, h3, h4⟩ := h
  exact ⟨hg.trans h1, h2, by omega, h4⟩
theorem Own.alloc {α : Type} {L : Lay α} {σ : Store} {ob : Option Nat} {l : List α} (h : Own L σ ob l) (cs : List AV) : Own L (σ.alloc cs) ob l := by
  cases ob with
  | none => exact h
  | some b => exact h.frame (get_alloc h.2.2.1) (by simp [next_alloc])
theorem Own.set {α : Type} {L : Lay α} {σ : Store} {ob : Option Nat} {l : List α} {b : Nat} {x : Blk} (h : Own L σ ob l) (hb : ob ≠ some b) : Own L (σ.set b x) ob l := by
  cases ob with
  | none => exact h
  | some b' => exact h.frame (get_set (by rintro rfl; exact hb rfl)) (Nat.le_refl _)
theorem Own.lt {α : Type} {L : Lay α} {σ : Store} {b : Nat} {l : List α} (h : Own L σ (some b) l) : b < σ.next := h.2.2.1
/-- A call whose arguments are closed but for one slice of one's own. -/
theorem Own.call1 {α : Type} {L : Lay α} {σ : Store} {ob : Option Nat} {l : List α} {st : Bool} {f : Nat} {args : List AV} {r : AV} (h : Own L σ ob l) (ha : closedL args = true) (hc : cR f (.vsl (l.map L.f) none :: erL args) = some r) (hr : r.flat = true) :
    callP ipU gU st (.fn f [] []) (slOf L.sz ob l.length :: args) σ = some (r, σ) := by
  obtain ⟨v, h1, h2⟩ := h.rb
  refine callP_flat (args' := v :: args) rfl ?_ ?_ hr
  · simp only [mapO, h1, mapO_closed' ha]
  · simp only [erL, h2, AV.er]; exact hc
def LStr : Lay Bs where
  f := .str
  sz := 1
  pos := by decide
  len _ := rfl
  closed _ := rfl
  er _ := by simp only [AV.er]
  one _ := rfl
  agg _ := rfl
def LSlt : Lay Slt where
  f := sltE
  sz := 2
  pos := by decide
  len _ := rfl
  closed _ := rfl
  er := sltE_er
  one _ := rfl
  agg a := ⟨_, rfl⟩
def LEv : Lay Ev where
  f := evE
  sz := 20
  pos := by decide
  len _ := rfl
  closed := evE_closed
  er := evE_er
  one _ := rfl
  agg a := ⟨_, rfl⟩
def LV : Lay V where
  f := V.enc
  sz := 5
  pos := by decide
  len v := by rw [V.enc_cells]; rfl
  closed := V.enc_closed
  er := V.enc_er
  one v := by rw [V.enc_cells]; rfl
  agg v := ⟨_, V.enc_eq v⟩
def LMem : Lay Mem where
  f := memE
  sz := 6
  pos := by decide
  len v := by rw [memE_cells]; rfl
  closed := memE_closed
  er := memE_er
  one v := by rw [memE_cells]; rfl
  agg v := ⟨_, rfl⟩
end Go.Ab
/- What contents say. -/
namespace Go.Ab
set_option linter.unusedSimpArgs false
set_option linter.defProp false
set_option maxHeartbeats 1000000
def T10Fc := And.intro @F29_0.eq_1 (And.intro @F29_1.eq_1 (And.intro @F29_2.eq_1 (And.intro @F29_3.eq_1 (And.intro @F29_4.eq_1 (And.intro @F29_5.eq_1 (And.intro @F29_6.eq_1 (And.intro @F29_7.eq_1 (And.intro @F29_8.eq_1 (And.intro @F29_9.eq_1 (And.intro @F29_10.eq_1 (And.intro @F29_11.eq_1 (And.intro @F29_12.eq_1 (And.intro @F29_13.eq_1 (And.intro @F29_14.eq_1 (And.intro @F29_15.eq_1 (And.intro @F29_16.eq_1 (And.intro @F29_17.eq_1 (And.intro @F29_18.eq_1 (And.intro @F29_19.eq_1 (And.intro @F29_20.eq_1 (And.intro @F29_21.eq_1 (@F29.eq_1))))))))))))))))))))))
def T10Fd := And.intro @F30_0.eq_1 (And.intro @F30_1.eq_1 (And.intro @F30_2.eq_1 (And.intro @F30_3.eq_1 (And.intro @F30_4.eq_1 (And.intro @F30_5.eq_1 (And.intro @F30_6.eq_1 (And.intro @F30_7.eq_1 (And.intro @F30_8.eq_1 (And.intro @F30_9.eq_1 (And.intro @F30_10.eq_1 (And.intro @F30_11.eq_1 (And.intro @F30_12.eq_1 (And.intro @F30_13.eq_1 (And.intro @F30_14.eq_1 (And.intro @F30_15.eq_1 (And.intro @F30_16.eq_1 (And.intro @F30_17.eq_1 (And.intro @F30_18.eq_1 (@F30.eq_1)))))))))))))))))))
def T10Fe := And.intro @F42_0.eq_1 (And.intro @F42_1.eq_1 (And.intro @F42_2.eq_1 (And.intro @F42_3.eq_1 (And.intro @F42_4.eq_1 (And.intro @F42_5.eq_1 (And.intro @F42_6.eq_1 (And.intro @F42_7.eq_1 (And.intro @F42_8.eq_1 (And.intro @F42_9.eq_1 (And.intro @F42_10.eq_1 (And.intro @F42_11.eq_1 (And.intro @F42_12.eq_1 (And.intro @F42_13.eq_1 (And.intro @F42_14.eq_1 (And.intro @F42_15.eq_1 (And.intro @F42_16.eq_1 (And.intro @F42_17.eq_1 (And.intro @F42_18.eq_1 (And.intro @F42_19.eq_1 (And.intro @F42_20.eq_1 (And.intro @F42_21.eq_1 (And.intro @F42_22.eq_1 (And.intro @F42_23.eq_1 (And.intro @F42_24.eq_1 (@F42.eq_1)))))))))))))))))))))))))
def T10Ff := And.intro @F44_0.eq_1 (And.intro @F44_1.eq_1 (And.intro @F44_2.eq_1 (And.intro @F44_3.eq_1 (And.intro @F44_4.eq_1 (And.intro @F44_5.eq_1 (And.intro @F44_6.eq_1 (And.intro @F44_7.eq_1 (And.intro @F44_8.eq_1 (And.intro @F44_9.eq_1 (And.intro @F44_10.eq_1 (And.intro @F44_11.eq_1 (And.intro @F44_12.eq_1 (And.intro @F44_13.eq_1 (And.intro @F44_14.eq_1 (And.intro @F44_15.eq_1 (@F44.eq_1))))))))))))))))
def T10Fh := And.intro @F67_0.eq_1 (And.intro @F67_1.eq_1 (And.intro @F67_2.eq_1 (And.intro @F67_3.eq_1 (And.intro @F67_4.eq_1 (And.intro @F67_5.eq_1 (And.intro @F67_6.eq_1 (And.intro @F67_7.eq_1 (And.intro @F67_8.eq_1 (And.intro @F67_9.eq_1 (And.intro @F67_10.eq_1 (And.intro @F67_11.eq_1 (And.intro @F67_12.eq_1 (And.intro @F67_13.eq_1 (And.intro @F67_14.eq_1 (And.intro @F67_15.eq_1 (@F67.eq_1))))))))))))))))
set_option maxRecDepth 100000
abbrev kThird : Bs := [116, 104, 105, 114, 100, 95, 112, 97, 114, 116, 121, 95, 105, 110, 118, 105, 116, 101]
abbrev kSigned : Bs := [115, 105, 103, 110, 101, 100]
abbrev kToken : Bs := [116, 111, 107, 101, 110]
abbrev kMxid : Bs := [109, 120, 105, 100]
abbrev kAuthd : Bs := [106, 111, 105, 110, 95, 97, 117, 116, 104, 111, 114, 105, 115, 101, 100, 95, 118, 105, 97, 95, 117, 115, 101, 114, 115, 95, 115, 101, 114, 118, 101, 114]
abbrev kType : Bs := [116, 121, 112, 101]
abbrev kRoomId : Bs := [114, 111, 111, 109, 95, 105, 100]
abbrev kMRM : Bs := [109, 46, 114, 111, 111, 109, 95, 109, 101, 109, 98, 101, 114, 115, 104, 105, 112]
abbrev kAllow : Bs := [97, 108, 108, 111, 119]
abbrev kJoinRule : Bs := [106, 111, 105, 110, 95, 114, 117, 108, 101]
abbrev kMembership : Bs := [109, 101, 109, 98, 101, 114, 115, 104, 105, 112]

theorem V.zero_sz : V.zero.sz = 1 := rfl
theorem said_sz (v : V) : (said v).sz ≤ v.sz := by
  unfold said
  split
  · exact Nat.le_refl _
  · rw [V.zero_sz]; exact v.sz_pos
theorem getV_sz (v : V) (k : Bs) : (getV v k).1.sz ≤ v.sz := by
  unfold getV
  split
  · rename_i x _ hx
    have := szM_mem (List.mem_of_getElem? hx)
    have := v.sz_eq
    simp only; omega
  · simp only; rw [V.zero_sz]; exact v.sz_pos
theorem m_len_sz (v : V) : v.m.length ≤ v.sz := by have := v.sz_eq; have := szM_len v.m; omega
theorem l_len_sz (v : V) : v.l.length ≤ v.sz := by have := v.sz_eq; have := szL_len v.l; omega
theorem s_len_sz (v : V) : v.s.length ≤ v.sz := by have := v.sz_eq; omega
theorem textAt_len (v : V) (k : Bs) : (textAt v k).1.length ≤ v.sz := by
  unfold textAt
  split
  · have := s_len_sz (getV v k).1; have := getV_sz v k; simp only; omega
  · simp
theorem r_textAt (v : V) (k : Bs) (hb : v.sz < big) : cR 46 [v.enc, .str k] = some (.tup [.str (textAt v k).1, .bool (textAt v k).2]) := r_TextAt v k (by have := m_len_sz v; omega)
theorem r_get (v : V) (k : Bs) (hb : v.sz < big) : cR 63 [v.enc, .str k] = some (.tup [(getV v k).1.enc, .bool (getV v k).2]) := r_Get v k (by have := m_len_sz v; omega)

def itemsV (v : V) (k : Bs) : List V := if (getV v k).1.kind = 4 then (getV v k).1.l else []
theorem r_items (v : V) (k : Bs) (hb : v.sz < big) : cR 44 [v.enc, .str k] = some (.vsl ((itemsV v k).map V.enc) none) := by
  refine cR_of (F := F44) rfl ?_
  have hg := r_get v k hb
  unfold itemsV
  generalize getV v k = g at hg ⊢
  by_cases h4 : g.1.kind = 4
  · have q : (g.1.kind != 4) = false := by simp [h4]
    simp only [T10Ff, EXA, Nat.reduceEqDiff, reduceIte, reduceCtorEq, Nat.reduceAdd, Nat.reduceLeDiff, Nat.reduceSub, Nat.reduceMul, Int.reduceEq, Int.reduceBEq, Int.reduceBNe, Int.reduceLT, Int.reduceLE, Nat.reduceLT, VX, readAt_some, hg, q, h4]
  · have q : (g.1.kind != 4) = true := by simp [h4]
    simp only [T10Ff, EXA, Nat.reduceEqDiff, reduceIte, reduceCtorEq, Nat.reduceAdd, Nat.reduceLeDiff, Nat.reduceSub, Nat.reduceMul, Int.reduceEq, Int.reduceBEq, Int.reduceBNe, Int.reduceLT, Int.reduceLE, Nat.reduceLT, VX, readAt_some, hg, q, h4]
def tableV (v : V) (k : Bs) : V × Bool := if (getV v k).2 && (getV v k).1.kind == 5 then ((getV v k).1, true) else (V.zero, false)
theorem tableV_sz (v : V) (k : Bs) : (tableV v k).1.sz ≤ v.sz := by
  unfold tableV
  split
  · exact getV_sz v k
  · simp only; rw [V.zero_sz]; exact v.sz_pos
theorem r_tableAt (v : V) (k : Bs) (hb : v.sz < big) : cR 67 [v.enc, .str k] = some (.tup [(tableV v k).1.enc, .bool (tableV v k).2]) := by
  refine cR_of (F := F67) rfl ?_
  have hg := r_get v k hb
  unfold tableV
  generalize getV v k = g at hg ⊢
  obtain ⟨x, ok⟩ := g
  simp only at hg ⊢
  cases ok
  · simp only [T10Fh, EXA, Nat.reduceEqDiff, reduceIte, reduceCtorEq, Nat.reduceAdd, Nat.reduceLeDiff, Nat.reduceSub, Nat.reduceMul, Int.reduceEq, Int.reduceBEq, Int.reduceBNe, Int.reduceLT, Int.reduceLE, Nat.reduceLT, VX, readAt_some, hg, Bool.false_and, V.zero]
  · by_cases h5 : x.kind = 5
    · have q : (x.kind != 5) = false := by simp [h5]
      have q2 : (x.kind == 5) = true := by simp [h5]
      simp only [T10Fh, EXA, Nat.reduceEqDiff, reduceIte, reduceCtorEq, Nat.reduceAdd, Nat.reduceLeDiff, Nat.reduceSub, Nat.reduceMul, Int.reduceEq, Int.reduceBEq, Int.reduceBNe, Int.reduceLT, Int.reduceLE, Nat.reduceLT, VX, readAt_some, hg, q, q2]
    · have q : (x.kind != 5) = true := by simp [h5]
      have q2 : (x.kind == 5) = false := by simp [h5]
      simp only [T10Fh, EXA, Nat.reduceEqDiff, reduceIte, reduceCtorEq, Nat.reduceAdd, Nat.reduceLeDiff, Nat.reduceSub, Nat.reduceMul, Int.reduceEq, Int.reduceBEq, Int.reduceBNe, Int.reduceLT, Int.reduceLE, Nat.reduceLT, VX, readAt_some, hg, q, q2, V.zero]
def membershipV (c : V) : Bs := (textAt (said c) kMembership).1
theorem r_membership (c : V) (hb : c.sz < big) : cR 28 [c.enc] = some (.str (membershipV c)) := by
  have h1 := r_said c hb
  have h2 := r_textAt (said c) kMembership (by have := said_sz c; omega)
  refine cR_of (F := F28) rfl ?_
  simp only [F28_0, F28_1, F28_2, F28_3, F28_4, F28_5, F28_6, F28_7, F28, EXA, Nat.reduceEqDiff, reduceIte, reduceCtorEq, Nat.reduceAdd, Nat.reduceLeDiff, Nat.reduceSub, Nat.reduceMul, Int.reduceEq, Int.reduceBEq, Int.reduceBNe, Int.reduceLT, Int.reduceLE, Nat.reduceLT, VX, readAt_some, h1, h2, membershipV]
def ruleV (c : V) : Bs := (textAt (said c) kJoinRule).1
theorem r_rule (c : V) (hb : c.sz < big) : cR 23 [c.enc] = some (.str (ruleV c)) := by
  have h1 := r_said c hb
  have h2 := r_textAt (said c) kJoinRule (by have := said_sz c; omega)
  refine cR_of (F := F23) rfl ?_
  simp only [F23_0, F23_1, F23_2, F23_3, F23_4, F23_5, F23_6, F23_7, F23, EXA, Nat.reduceEqDiff, reduceIte, reduceCtorEq, Nat.reduceAdd, Nat.reduceLeDiff, Nat.reduceSub, Nat.reduceMul, Int.reduceEq, Int.reduceBEq, Int.reduceBNe, Int.reduceLT, Int.reduceLE, Nat.reduceLT, VX, readAt_some, h1, h2, ruleV]
def authV (c : V) : Bs × Bool := if (partsB (textAt (said c) kAuthd).1 64).2.2 = true then ((textAt (said c) kAuthd).1, true) else ([], false)
theorem r_auth (c : V) (hb : c.sz < big) : cR 30 [c.enc] = some (.tup [.str (authV c).1, .bool (authV c).2]) := by
  have h1 := r_said c hb
  have hz := said_sz c
  have h2 := r_textAt (said c) kAuthd (by omega)
  have h3 := r_User (textAt (said c) kAuthd).1 (by have := textAt_len (said c) kAuthd; omega)
  refine cR_of (F := F30) rfl ?_
  unfold authV
  cases hp : (partsB (textAt (said c) kAuthd).1 64).2.2
  · rw [hp] at h3
    simp only [T10Fd, EXA, Nat.reduceEqDiff, reduceIte, reduceCtorEq, Nat.reduceAdd, Nat.reduceLeDiff, Nat.reduceSub, Nat.reduceMul, Int.reduceEq, Int.reduceBEq, Int.reduceBNe, Int.reduceLT, Int.reduceLE, Nat.reduceLT, VX, readAt_some, h1, h2, h3, hp]
  · rw [hp] at h3
    simp only [T10Fd, EXA, Nat.reduceEqDiff, reduceIte, reduceCtorEq, Nat.reduceAdd, Nat.reduceLeDiff, Nat.reduceSub, Nat.reduceMul, Int.reduceEq, Int.reduceBEq, Int.reduceBNe, Int.reduceLT, Int.reduceLE, Nat.reduceLT, VX, readAt_some, h1, h2, h3, hp]
def signedV (c : V) : V × Bool := ((tableV (tableV (said c) kThird).1 kSigned).1, (tableV (tableV (said c) kThird).1 kSigned).2 && ((textAt (tableV (tableV (said c) kThird).1 kSigned).1 kToken).2 && (textAt (tableV (tableV (said c) kThird).1 kSigned).1 kMxid).2))
theorem signedV_sz (c : V) : (signedV c).1.sz ≤ c.sz := by
  have h1 := said_sz c
  have h2 := tableV_sz (said c) kThird
  have h3 := tableV_sz (tableV (said c) kThird).1 kSigned
  unfold signedV
  simp only; omega
theorem r_signed (c : V) (hb : c.sz < big) : cR 54 [c.enc] = some (.tup [(signedV c).1.enc, .bool (signedV c).2]) := by
  have h1 := r_said c hb
  have z1 := said_sz c
  have h2 := r_tableAt (said c) kThird (by omega)
  have z2 := tableV_sz (said c) kThird
  unfold signedV
  generalize (tableV (said c) kThird) = t1 at h2 z2 ⊢
  have h3 := r_tableAt t1.1 kSigned (by omega)
  have z3 := tableV_sz t1.1 kSigned
  generalize (tableV t1.1 kSigned) = t2 at h3 z3 ⊢
  have h4 := r_textAt t2.1 kToken (by omega)
  have h5 := r_textAt t2.1 kMxid (by omega)
  generalize textAt t2.1 kToken = a at h4 ⊢
  generalize textAt t2.1 kMxid = b at h5 ⊢
  obtain ⟨x, ok⟩ := t2
  obtain ⟨a1, a2⟩ := a
  obtain ⟨b1, b2⟩ := b
  simp only at h3 h4 h5 ⊢
  refine cR_of (F := F54) rfl ?_
  cases ok <;> cases a2 <;> cases b2 <;> simp only [F54_0, F54_1, F54_2, F54_3, F54_4, F54_5, F54_6, F54_7, F54_8, F54_9, F54_10, F54_11, F54_12, F54_13, F54_14, F54_15, F54_16, F54, EXA, Nat.reduceEqDiff, reduceIte, reduceCtorEq, Nat.reduceAdd, Nat.reduceLeDiff, Nat.reduceSub, Nat.reduceMul, Int.reduceEq, Int.reduceBEq, Int.reduceBNe, Int.reduceLT, Int.reduceLE, Nat.reduceLT, VX, readAt_some, h1, h2, h3, h4, h5, Bool.false_and, Bool.and_false]
def thirdV (c : V) : Bs × Bs × Bool := if (signedV c).2 = true then ((textAt (signedV c).1 kToken).1, (textAt (signedV c).1 kMxid).1, true) else ([], [], false)
theorem r_third (c : V) (hb : c.sz < big) : cR 29 [c.enc] = some (.tup [.str (thirdV c).1, .str (thirdV c).2.1, .bool (thirdV c).2.2]) := by
  have h1 := r_signed c hb
  have z1 := signedV_sz c
  unfold thirdV
  generalize signedV c = t at h1 z1 ⊢
  obtain ⟨x, ok⟩ := t
  simp only at h1 z1 ⊢
  have h2 := r_textAt x kToken (by omega)
  have h3 := r_textAt x kMxid (by omega)
  refine cR_of (F := F29) rfl ?_
  cases ok
  · simp only [T10Fc, EXA, Nat.reduceEqDiff, reduceIte, reduceCtorEq, Nat.reduceAdd, Nat.reduceLeDiff, Nat.reduceSub, Nat.reduceMul, Int.reduceEq, Int.reduceBEq, Int.reduceBNe, Int.reduceLT, Int.reduceLE, Nat.reduceLT, VX, readAt_some, h1]
  · simp only [T10Fc, EXA, Nat.reduceEqDiff, reduceIte, reduceCtorEq, Nat.reduceAdd, Nat.reduceLeDiff, Nat.reduceSub, Nat.reduceMul, Int.reduceEq, Int.reduceBEq, Int.reduceBNe, Int.reduceLT, Int.reduceLE, Nat.reduceLT, VX, readAt_some, h1, h2, h3]
def roomV (c : V) : Bs × Bool := if (textAt c kType).1 = kMRM ∧ (partsB (textAt c kRoomId).1 33).2.2 = true then ((textAt c kRoomId).1, true) else ([], false)
theorem r_room (c : V) (hb : c.sz < big) : cR 42 [c.enc] = some (.tup [.str (roomV c).1, .bool (roomV c).2]) := by
  have h2 := r_textAt c kType hb
  have h3 := r_textAt c kRoomId hb
  have h4 := r_Room (textAt c kRoomId).1 (by have := textAt_len c kRoomId; omega)
  unfold roomV
  generalize textAt c kType = a at h2 ⊢
  generalize textAt c kRoomId = b at h3 h4 ⊢
  generalize partsB b.1 33 = p at h4 ⊢
  obtain ⟨a1, a2⟩ := a
  obtain ⟨b1, b2⟩ := b
  obtain ⟨p1, p2, p3⟩ := p
  simp only at h2 h3 h4 ⊢
  refine cR_of (F := F42) rfl ?_
  by_cases hk : a1 = kMRM
  · have q : (!(a1 == kMRM)) = false := by simp [hk]
    have qT : (a1 = kMRM) = True := eq_true hk
    cases p3
    · simp only [T10Fe, EXA, Nat.reduceEqDiff, reduceIte, reduceCtorEq, Nat.reduceAdd, Nat.reduceLeDiff, Nat.reduceSub, Nat.reduceMul, Int.reduceEq, Int.reduceBEq, Int.reduceBNe, Int.reduceLT, Int.reduceLE, Nat.reduceLT, VX, readAt_some, h2, h3, h4, q, qT, and_false]
    · simp only [T10Fe, EXA, Nat.reduceEqDiff, reduceIte, reduceCtorEq, Nat.reduceAdd, Nat.reduceLeDiff, Nat.reduceSub, Nat.reduceMul, Int.reduceEq, Int.reduceBEq, Int.reduceBNe, Int.reduceLT, Int.reduceLE, Nat.reduceLT, VX, readAt_some, h2, h3, h4, q, qT]
  · have q : (!(a1 == kMRM)) = true := by simp [hk]
    simp only [T10Fe, EXA, Nat.reduceEqDiff, reduceIte, reduceCtorEq, Nat.reduceAdd, Nat.reduceLeDiff, Nat.reduceSub, Nat.reduceMul, Int.reduceEq, Int.reduceBEq, Int.reduceBNe, Int.reduceLT, Int.reduceLE, Nat.reduceLT, VX, readAt_some, h2, h3, h4, q, hk, false_and]
end Go.Ab
/- Slices that may grow; copies; rooms that a rule allows. -/
namespace Go.Ab
set_option linter.unusedSimpArgs false
set_option linter.defProp false
set_option maxHeartbeats 1000000
def T11Fa := And.intro @F22_0.eq_1 (And.intro @F22_1.eq_1 (And.intro @F22_2.eq_1 (And.intro @F22_3.eq_1 (And.intro @F22_4.eq_1 (And.intro @F22_5.eq_1 (And.intro @F22_6.eq_1 (And.intro @F22_7.eq_1 (And.intro @F22_8.eq_1 (And.intro @F22_9.eq_1 (And.intro @F22_10.eq_1 (And.intro @F22_11.eq_1 (And.intro @F22_12.eq_1 (And.intro @F22_13.eq_1 (And.intro @F22_14.eq_1 (And.intro @F22_15.eq_1 (And.intro @F22_16.eq_1 (And.intro @F22_17.eq_1 (And.intro @F22_18.eq_1 (And.intro @F22_19.eq_1 (And.intro @F22_20.eq_1 (And.intro @F22_21.eq_1 (And.intro @F22_22.eq_1 (And.intro @F22_23.eq_1 (And.intro @F22_24.eq_1 (And.intro @F22_25.eq_1 (And.intro @F22_26.eq_1 (And.intro @F22_27.eq_1 (And.intro @F22_28.eq_1 (And.intro @F22_29.eq_1 (And.intro @F22_30.eq_1 (And.intro @F22_31.eq_1 (And.intro @F22_32.eq_1 (And.intro @F22_33.eq_1 (And.intro @F22_34.eq_1 (And.intro @F22_35.eq_1 (And.intro @F22_36.eq_1 (And.intro @F22_37.eq_1 (And.intro @F22_38.eq_1 (@F22.eq_1)))))))))))))))))))))))))))))))))))))))
def T11Fd := And.intro @F64_0.eq_1 (And.intro @F64_1.eq_1 (And.intro @F64_2.eq_1 (And.intro @F64_3.eq_1 (And.intro @F64_4.eq_1 (And.intro @F64_5.eq_1 (And.intro @F64_6.eq_1 (And.intro @F64_7.eq_1 (And.intro @F64_8.eq_1 (And.intro @F64_9.eq_1 (And.intro @F64_10.eq_1 (And.intro @F64_11.eq_1 (And.intro @F64_12.eq_1 (And.intro @F64_13.eq_1 (And.intro @F64_14.eq_1 (And.intro @F64_15.eq_1 (And.intro @F64_16.eq_1 (And.intro @F64_17.eq_1 (And.intro @F64_18.eq_1 (And.intro @F64_19.eq_1 (And.intro @F64_20.eq_1 (And.intro @F64_21.eq_1 (And.intro @F64_22.eq_1 (And.intro @F64_23.eq_1 (And.intro @F64_24.eq_1 (And.intro @F64_25.eq_1 (And.intro @F64_26.eq_1 (And.intro @F64_27.eq_1 (And.intro @F64_28.eq_1 (And.intro @F64_29.eq_1 (And.intro @F64_30.eq_1 (@F64.eq_1)))))))))))))))))))))))))))))))
set_option maxRecDepth 100000
def lim : Nat := 1073741824
theorem Lay.rowOf {α : Type} (L : Lay α) (σ : Store) (l : List α) (c : Option Nat) : rowOf σ L.sz (.vsl (l.map L.f) c) = some (L.cells l) := by
  have h : (l.map L.f).all (fun e => e.cells.length == L.sz) = true := by
    rw [List.all_eq_true]
    intro x hx
    obtain ⟨a, _, rfl⟩ := List.mem_map.1 hx
    simp [L.len a]
  have e : (l.map L.f).flatMap AV.cells = L.cells l := by simp [Lay.cells, List.flatMap_map]
  show (if (l.map L.f).all (fun e => e.cells.length == L.sz) = true then some ((l.map L.f).flatMap AV.cells) else none) = _
  rw [if_pos h, e]
/-- A slice that holds a list, and of which one knows what append does. -/
def Gr {α : Type} (L : Lay α) (σ : Store) (v : AV) (l : List α) : Prop :=
  (v = .nils ∧ l = []) ∨ (∃ b, v = .sl b 0 l.length L.sz none ∧ Own L σ (some b) l) ∨ v = .vsl (l.map L.f) (some l.length)
section
variable {α : Type} {L : Lay α} {σ : Store} {v : AV} {l : List α}
theorem Gr.nil (L : Lay α) (σ : Store) : Gr L σ .nils [] := .inl ⟨rfl, rfl⟩
theorem Gr.nil0 (L : Lay α) (σ : Store) : Gr L σ (.vsl [] (some 0)) [] := .inr (.inr rfl)
theorem Gr.lit (L : Lay α) (σ : Store) (l : List α) : Gr L σ (.vsl (l.map L.f) (some l.length)) l := .inr (.inr rfl)
theorem Gr.own {b : Nat} (h : Own L σ (some b) l) : Gr L σ (.sl b 0 l.length L.sz none) l := .inr (.inl ⟨b, rfl, h⟩)
theorem Gr.lenL (h : Gr L σ v l) : lenL v = some (.int .i64 l.length) := by
  rcases h with ⟨rfl, rfl⟩ | ⟨b, rfl, h⟩ | rfl
  · rfl
  · rfl
  · rw [lenL_vsl, List.length_map]
theorem Gr.rb (h : Gr L σ v l) : ∃ v', Go.Ab.rb σ rbDepth v = some v' ∧ v'.er = .vsl (l.map L.f) none := by
  rcases h with ⟨rfl, rfl⟩ | ⟨b, rfl, h⟩ | rfl
  · exact ⟨_, rfl, by simp only [AV.er]; rfl⟩
  · exact Own.rb (ob := some b) h
  · refine ⟨_, rb_closed' (by simp only [AV.closed]; exact closedL_map fun a _ => L.closed a), ?_⟩
    simp only [AV.er, L.erMap]
theorem Gr.rbE (h : Gr L σ v l) : Go.Ab.rbE σ v = some (.vsl (l.map L.f) none) := by
  obtain ⟨v', h1, h2⟩ := h.rb
  unfold Go.Ab.rbE
  rw [h1, Option.map_some, h2]
theorem Gr.call1 {st : Bool} {f : Nat} {args : List AV} {r : AV} (h : Gr L σ v l) (ha : closedL args = true) (hc : cR f (.vsl (l.map L.f) none :: erL args) = some r) (hr : r.flat = true) :
    callP ipU gU st (.fn f [] []) (v :: args) σ = some (r, σ) := by
  obtain ⟨v', h1, h2⟩ := h.rb
  refine callP_flat (args' := v' :: args) rfl ?_ ?_ hr
  · simp only [mapO, h1, mapO_closed' ha]
  · simp only [erL, h2, AV.er]; exact hc
/-- The store behind an append. -/
def grNext {α : Type} (L : Lay α) (σ : Store) (v : AV) (l m : List α) : Store := match v with
  | .sl b .. => (σ.set b .dead).alloc (L.cells l ++ L.cells m)
  | _ => σ.alloc (L.cells l ++ L.cells m)
theorem Gr.app {m : List α} {bytes : Nat} (h : Gr L σ v l) (hb : 0 < bytes) (hm : (l.length + m.length) * bytes ≤ maxBytes) (hk : 0 < m.length) :
    appendTo σ L.sz bytes v (L.cells m) m.length = some (.sl σ.next 0 (l ++ m).length L.sz none, grNext L σ v l m) := by
  have c1 := L.cells_len m
  have c2 := L.cells_one m
  have c3 := L.pos
  rcases h with ⟨rfl, rfl⟩ | ⟨b, rfl, h⟩ | rfl
  · unfold appendTo
    simp only [lenOf]
    rw [if_pos ⟨c3, hb, by simpa using hm, c1, c2⟩, if_neg (by omega)]
    simp [grNext, Lay.cells]
  · obtain ⟨h1, h2, h3, h4⟩ := h
    unfold appendTo
    simp only [lenOf]
    rw [if_pos ⟨c3, hb, hm, c1, c2⟩, if_pos trivial]
    have : σ.owned b = some (L.cells l) := by simp [Store.owned, h1]
    rw [this]
    simp only
    rw [if_neg (by omega), if_pos (by omega)]
    simp [grNext]
  · unfold appendTo
    simp only [lenOf, List.length_map]
    rw [if_pos ⟨c3, hb, hm, c1, c2⟩, if_neg (by omega), if_pos trivial, L.rowOf]
    simp [grNext]
theorem Gr.next {m : List α} (h : Gr L σ v l) (hk : 0 < m.length) : Own L (grNext L σ v l m) (some σ.next) (l ++ m) := by
  have e : L.cells (l ++ m) = L.cells l ++ L.cells m := by simp [Lay.cells]
  have hl := L.cells_len (l ++ m)
  have hlen : 0 < (l ++ m).length := by simp; omega
  rcases h with ⟨rfl, rfl⟩ | ⟨b, rfl, h⟩ | rfl
  · exact ⟨by simp only [grNext]; rw [← e]; exact get_alloc_next, hl, by simp [grNext, next_alloc], hlen⟩
  · exact ⟨by simp only [grNext]; rw [← e]; exact get_alloc_next (σ := σ.set b .dead), hl, by simp [grNext, next_alloc, next_set], hlen⟩
  · exact ⟨by simp only [grNext]; rw [← e]; exact get_alloc_next, hl, by simp [grNext, next_alloc], hlen⟩
theorem Gr.push {a : α} {bytes : Nat} (h : Gr L σ v l) (hb : 0 < bytes) (hm : (l.length + 1) * bytes ≤ maxBytes) :
    appendTo σ L.sz bytes v (L.f a).cells 1 = some (.sl σ.next 0 (l ++ [a]).length L.sz none, grNext L σ v l [a]) := by
  have := Gr.app (m := [a]) h hb (by simpa using hm) (by simp)
  simpa [Lay.cells] using this
theorem grNext_next (L : Lay α) (σ : Store) (v : AV) (l m : List α) : (grNext L σ v l m).next = σ.next + 1 := by
  unfold grNext; split <;> rfl
/-- What is far from a slice's own block leaves it as it is. -/
theorem Gr.frame {σ' : Store} (h : Gr L σ v l) (hg : ∀ b, b < σ.next → σ'.get b = σ.get b) (hn : σ.next ≤ σ'.next) : Gr L σ' v l := by
  rcases h with h | ⟨b, rfl, h⟩ | h
  · exact .inl h
  · exact .inr (.inl ⟨b, rfl, h.frame (hg b h.lt) hn⟩)
  · exact .inr (.inr h)
theorem Gr.alloc (h : Gr L σ v l) (cs : List AV) : Gr L (σ.alloc cs) v l := h.frame (fun _ hb => get_alloc hb) (by simp [next_alloc])
/-- A new block, written once. -/
theorem Gr.newset (h : Gr L σ v l) (cs cs' : List AV) : Gr L { next := σ.next + 1, m := (σ.next, .own cs) :: (σ.next, .own cs') :: σ.m } v l :=
  h.frame (fun b hb => by
    show look ((σ.next, Blk.own cs) :: (σ.next, .own cs') :: σ.m) b = look σ.m b
    simp only [look]; rw [if_neg (by omega), if_neg (by omega)]) (by simp)
theorem grNext_get {m : List α} (h : Gr L σ v l) {b : Nat} (hb : b < σ.next) (hne : ∀ len sz c, v ≠ .sl b 0 len sz c) : (grNext L σ v l m).get b = σ.get b := by
  unfold grNext
  split
  · rename_i b' off len sz c
    have hoff : off = 0 := by
      rcases h with ⟨h, _⟩ | ⟨b2, h, _⟩ | h
      · simp at h
      · simp at h; exact h.2.1
      · simp at h
    subst hoff
    rw [get_alloc (by rw [next_set]; exact hb), get_set (by rintro rfl; exact hne len sz c rfl)]
  · exact get_alloc hb
end
/-- An index into a slice of strings, by a text. -/
theorem r_indexS (l : List Bs) (x : Bs) (hlen : l.length < big) : cR 64 [.vsl (l.map .str) none, .str x] = some (.int .i64 (firstFrom (fun s => x == s) l 0)) := by
  unfold big at hlen
  refine cR_of (F := F64) rfl ?_
  simp only [F64_0, F64_1, F64_2, F64_3, F64_4, F64_5, F64_6, F64_7, F64_8, F64_9, F64_10, F64_11, F64_12, F64_13, F64_14, F64_15, F64_16, F64_17, F64_18, F64_19, F64_21, F64_22, F64_23, F64_24, F64_25, F64_26, F64_27, F64_28, F64_29, F64_30, F64, ex_loop, EXA, Nat.reduceEqDiff, reduceIte, reduceCtorEq, Nat.reduceAdd, Nat.reduceLeDiff, Nat.reduceSub, Nat.reduceMul, Int.reduceEq, Int.reduceBEq, Int.reduceBNe, Int.reduceLT, Int.reduceLE, Nat.reduceLT, VX]
  refine ex_while (S := Nat) (fun j => [(0, .vsl (l.map .str) none), (1, .str x), (7, .int .i64 l.length), (8, .int .i64 (j : Int))]) (fun _ => .empty) (fun j => l.length - j) (fun j => firstFrom (fun s => x == s) l j = firstFrom (fun s => x == s) l 0) ?_ 0 rfl
  intro b j hj ih
  by_cases hlt : j < l.length
  · obtain ⟨y, hy⟩ := get_lt hlt
    have hidx := idx_map (f := AV.str) (sz := 1) (c := none) hy rfl
    have hcond := dlt hlt
    simp only [T11Fd, EXA, Nat.reduceEqDiff, reduceIte, reduceCtorEq, Nat.reduceAdd, Nat.reduceLeDiff, Nat.reduceSub, Nat.reduceMul, Int.reduceEq, Int.reduceBEq, Int.reduceBNe, Int.reduceLT, Int.reduceLE, Nat.reduceLT, VX, readAt_some, hcond, hidx]
    split
    · rename_i hp
      rw [← hj, firstFrom_hit hy hp]
    · rename_i hp
      refine ih (j + 1) _ _ (by omega) ?_ ?_ rfl
      · rw [← firstFrom_miss hy (by simpa using hp)]; exact hj
      · rw [wsucc hlt (by omega)]
        simp only [EXA, Nat.reduceEqDiff, reduceIte, reduceCtorEq, Nat.reduceAdd, Nat.reduceLeDiff, Nat.reduceSub, Nat.reduceMul, Int.reduceEq, Int.reduceBEq, Int.reduceBNe, Int.reduceLT, Int.reduceLE, Nat.reduceLT]
  · have hcond := dge (Nat.not_lt.1 hlt)
    simp only [T11Fd, EXA, Nat.reduceEqDiff, reduceIte, reduceCtorEq, Nat.reduceAdd, Nat.reduceLeDiff, Nat.reduceSub, Nat.reduceMul, Int.reduceEq, Int.reduceBEq, Int.reduceBNe, Int.reduceLT, Int.reduceLE, Nat.reduceLT, VX, hcond]
    rw [← hj, firstFrom_end (by omega)]
def hasS (l : List Bs) (x : Bs) : Bool := l.any fun s => x == s
theorem r_containsS (l : List Bs) (x : Bs) (hlen : l.length < big) : cR 45 [.vsl (l.map .str) none, .str x] = some (.bool (hasS l x)) := by
  refine cR_of (F := F45) rfl ?_
  simp only [F45_0, F45_1, F45_2, F45_3, F45_4, F45, EXA, Nat.reduceEqDiff, reduceIte, reduceCtorEq, Nat.reduceAdd, Nat.reduceLeDiff, Nat.reduceSub, Nat.reduceMul, Int.reduceEq, Int.reduceBEq, Int.reduceBNe, Int.reduceLT, Int.reduceLE, Nat.reduceLT, VX, r_indexS l x hlen, firstFrom_ge, hasS]

def allowsL : List Bs → List V → List Bs
  | acc, [] => acc
  | acc, x :: r => if (roomV x).2 = true ∧ hasS acc (roomV x).1 = false then allowsL (acc ++ [(roomV x).1]) r else allowsL acc r
def allowsV (c : V) : List Bs := allowsL [] (itemsV (said c) kAllow)
theorem itemsV_sz (v : V) (k : Bs) : ∀ x ∈ itemsV v k, x.sz ≤ v.sz := by
  intro x hx
  unfold itemsV at hx
  split at hx
  · have := szL_mem hx; have := (getV v k).1.sz_eq; have := getV_sz v k; omega
  · simp at hx
theorem itemsV_len (v : V) (k : Bs) : (itemsV v k).length ≤ v.sz := by
  unfold itemsV
  split
  · have := l_len_sz (getV v k).1; have := getV_sz v k; omega
  · simp
theorem r_allows (c : V) (hb : c.sz < lim) : cR 22 [c.enc] = some (.vsl ((allowsV c).map .str) none) := by
  unfold lim at hb
  have hb' : c.sz < big := by unfold big; omega
  have h1 := r_said c hb'
  have z1 := said_sz c
  have h2 := r_items (said c) kAllow (by unfold big; omega)
  have z2 := itemsV_sz (said c) kAllow
  have z3 := itemsV_len (said c) kAllow
  refine cR_of (F := F22) rfl ?_
  unfold allowsV
  generalize itemsV (said c) kAllow = l at h2 z2 z3 ⊢
  simp only [F22_0, F22_1, F22_2, F22_3, F22_4, F22_5, F22_6, F22_7, F22_8, F22_9, F22_10, F22_11, F22_12, F22_13, F22_14, F22_15, F22_16, F22_17, F22_18, F22_19, F22_20, F22_21, F22_22, F22_23, F22_25, F22_26, F22_27, F22_28, F22_29, F22_30, F22_31, F22_32, F22_33, F22_34, F22_35, F22_36, F22_37, F22_38, F22, ex_loop, EXA, Nat.reduceEqDiff, reduceIte, reduceCtorEq, Nat.reduceAdd, Nat.reduceLeDiff, Nat.reduceSub, Nat.reduceMul, Int.reduceEq, Int.reduceBEq, Int.reduceBNe, Int.reduceLT, Int.reduceLE, Nat.reduceLT, VX, readAt_some, h1, h2]
  refine ex_whileI (S := Nat × List Bs × AV) (fun p => [(3, .fn 42 [] []), (4, p.2.2), (11, .vsl (l.map V.enc) none), (12, .int .i64 l.length), (13, .int .i64 (p.1 : Int))]) (fun p => l.length - p.1)
    (fun p σ => Gr LStr σ p.2.2 p.2.1 ∧ p.2.1.length ≤ p.1 ∧ allowsL p.2.1 (l.drop p.1) = allowsL [] l) ?_ (0, [], .nils) _ ⟨Gr.nil LStr _, by simp, rfl⟩
  rintro b ⟨j, acc, v⟩ σ ⟨hg, hlen, hj⟩ ih
  simp only at hg hlen hj ih ⊢
  by_cases hlt : j < l.length
  · obtain ⟨x, hx⟩ := get_lt hlt
    have hidx := idx_map (f := V.enc) (sz := 5) (c := none) hx (by simp [V.enc_cells])
    have hcond := dlt hlt
    have hr := r_room x (by have := z2 x (List.mem_of_getElem? hx); unfold big; omega)
    rw [drop_cons hx, allowsL] at hj
    have hw := wsucc hlt (by omega)
    have hn := hg.newset
    cases hok : (roomV x).2
    · rw [hok] at hr
      simp only [hok, Bool.false_eq_true, false_and, if_false] at hj
      simp only [T11Fa, EXA, Nat.reduceEqDiff, reduceIte, reduceCtorEq, Nat.reduceAdd, Nat.reduceLeDiff, Nat.reduceSub, Nat.reduceMul, Int.reduceEq, Int.reduceBEq, Int.reduceBNe, Int.reduceLT, Int.reduceLE, Nat.reduceLT, VX, readAt_some, hcond, hidx, hr, hw]
      exact ih (j + 1, acc, v) _ _ (by simp; omega) ⟨hn _ _, by simp; omega, hj⟩ (by simp only [EXA, Nat.reduceEqDiff, reduceIte, reduceCtorEq, Nat.reduceAdd, Nat.reduceLeDiff, Nat.reduceSub, Nat.reduceMul, Int.reduceEq, Int.reduceBEq, Int.reduceBNe, Int.reduceLT, Int.reduceLE, Nat.reduceLT])
    · rw [hok] at hr
      have hcall : ∀ cs cs', callP ipU gU false (.fn 45 [] []) [v, .str (roomV x).1] _ = some (.bool (hasS acc (roomV x).1), _) := fun cs cs' => (hn cs cs').call1 rfl (by simp only [erL, AV.er]; exact r_containsS acc _ (by unfold big; omega)) rfl
      cases hh : hasS acc (roomV x).1
      · simp only [hok, hh, and_self, if_true] at hj
        rw [hh] at hcall
        have happ : ∀ cs cs', appendTo _ 1 16 v [.str (roomV x).1] 1 = some _ := fun cs cs' => (hn cs cs').push (a := (roomV x).1) (bytes := 16) (by omega) (by unfold maxBytes; omega)
        have hlo : lenOf (.vsl [.str (roomV x).1] (some 1)) = some 1 := rfl
        have hro : ∀ σ', rowOf σ' 1 (.vsl [.str (roomV x).1] (some 1)) = some [.str (roomV x).1] := fun _ => rfl
        simp only [T11Fa, EXA, Nat.reduceEqDiff, reduceIte, reduceCtorEq, Nat.reduceAdd, Nat.reduceLeDiff, Nat.reduceSub, Nat.reduceMul, Int.reduceEq, Int.reduceBEq, Int.reduceBNe, Int.reduceLT, Int.reduceLE, Nat.reduceLT, VX, readAt_some, hcond, hidx, hr, hcall, happ, hlo, hro, hw]
        exact ih (j + 1, acc ++ [(roomV x).1], _) _ _ (by simp; omega) ⟨Gr.own ((hn _ _).next (by simp)), by simp; omega, hj⟩ (by simp only [EXA, Nat.reduceEqDiff, reduceIte, reduceCtorEq, Nat.reduceAdd, Nat.reduceLeDiff, Nat.reduceSub, Nat.reduceMul, Int.reduceEq, Int.reduceBEq, Int.reduceBNe, Int.reduceLT, Int.reduceLE, Nat.reduceLT]; rfl)
      · simp only [hok, hh, Bool.true_eq_false, and_false, if_false] at hj
        rw [hh] at hcall
        simp only [T11Fa, EXA, Nat.reduceEqDiff, reduceIte, reduceCtorEq, Nat.reduceAdd, Nat.reduceLeDiff, Nat.reduceSub, Nat.reduceMul, Int.reduceEq, Int.reduceBEq, Int.reduceBNe, Int.reduceLT, Int.reduceLE, Nat.reduceLT, VX, readAt_some, hcond, hidx, hr, hcall, hw]
        exact ih (j + 1, acc, v) _ _ (by simp; omega) ⟨hn _ _, by simp; omega, hj⟩ (by simp only [EXA, Nat.reduceEqDiff, reduceIte, reduceCtorEq, Nat.reduceAdd, Nat.reduceLeDiff, Nat.reduceSub, Nat.reduceMul, Int.reduceEq, Int.reduceBEq, Int.reduceBNe, Int.reduceLT, Int.reduceLE, Nat.reduceLT])
  · have hcond := dge (Nat.not_lt.1 hlt)
    rw [List.drop_eq_nil_of_le (by omega), allowsL] at hj
    have hrb := hg.rbE
    simp only [T11Fa, EXA, Nat.reduceEqDiff, reduceIte, reduceCtorEq, Nat.reduceAdd, Nat.reduceLeDiff, Nat.reduceSub, Nat.reduceMul, Int.reduceEq, Int.reduceBEq, Int.reduceBNe, Int.reduceLT, Int.reduceLE, Nat.reduceLT, VX, hcond, hrb, ← hj]
    rfl
end Go.Ab
/- Copies, lists. -/
namespace Go.Ab
set_option linter.unusedSimpArgs false
set_option linter.defProp false
set_option maxHeartbeats 1000000
set_option maxRecDepth 100000
/-- The store has grown; what was is as it was. -/
def Grown (σ σ' : Store) : Prop := σ.next ≤ σ'.next ∧ ∀ b, b < σ.next → σ'.get b = σ.get b
theorem Grown.refl (σ : Store) : Grown σ σ := ⟨Nat.le_refl _, fun _ _ => rfl⟩
theorem Grown.alloc (σ : Store) (cs : List AV) : Grown σ (σ.alloc cs) := ⟨by simp [next_alloc], fun _ hb => get_alloc hb⟩
/-- A slice whose block, if it has one, is new. -/
def Fresh (σ : Store) (v : AV) : Prop := ∀ b o len sz c, v = .sl b o len sz c → σ.next ≤ b
theorem both_of {f : Nat} {σ : Store} (n : Nat) (h1 : scall ipU (run ipU gU n) (.fn f [] []) [.nils] .empty = some (.nils, .empty)) (h2 : scall ipU (run ipU gU n) (.fn f [] []) [.e0] .empty = some (.vsl [] (some 0), .empty)) :
    both ipU gU (.fn f [] []) σ = true := by
  refine both_some.2 ⟨n, ?_⟩
  have e1 : pcall ipU (run ipU gU n) false true (.fn f [] []) [.nils] σ = some (.nils, σ) := by
    unfold pcall
    rw [rb_closed' rfl, mapO_closed' rfl]
    simp only [AV.er, erL, Bool.false_eq_true, if_false, h1]
    rfl
  have e2 : pcall ipU (run ipU gU n) false true (.fn f [] []) [.e0] σ = some (.vsl [] (some 0), σ) := by
    unfold pcall
    rw [rb_closed' rfl, mapO_closed' rfl]
    simp only [AV.er, erL, Bool.false_eq_true, if_false, h2]
    rfl
  unfold bothWays
  rw [e1, e2]
  rfl
theorem app00 {σ : Store} {sz bytes n : Nat} {new : List AV} (hs : 0 < sz) (hb : 0 < bytes) (hm : n * bytes ≤ maxBytes) (hl : new.length = n * sz) (ho : new.all AV.one = true) (hn : 0 < n) :
    appendTo σ sz bytes (.vsl [] (some 0)) new n = some (.sl σ.next 0 n sz none, σ.alloc new) := by
  unfold appendTo
  simp only [lenOf, List.length_nil, Nat.zero_add]
  rw [if_pos ⟨hs, hb, hm, hl, ho⟩, if_neg (by omega), if_pos trivial]
  rfl
theorem lenOf_vsl (l : List AV) (c : Option Nat) : lenOf (.vsl l c) = some l.length := rfl
section
variable {α : Type} {L : Lay α}
theorem Gr.cloned (σ : Store) {l : List α} (h : 0 < l.length) : Gr L (σ.alloc (L.cells l)) (.sl σ.next 0 l.length L.sz none) l :=
  Gr.own ⟨get_alloc_next, L.cells_len l, by simp [next_alloc], h⟩
end
theorem Gr.rbD {α : Type} {L : Lay α} {σ : Store} {v : AV} {l : List α} (h : Gr L σ v l) (d : Nat) : ∃ v', Go.Ab.rb σ (d + 1) v = some v' ∧ v'.er = .vsl (l.map L.f) none := by
  rcases h with ⟨rfl, rfl⟩ | ⟨b, rfl, h⟩ | rfl
  · exact ⟨_, rfl, by simp only [AV.er]; rfl⟩
  · obtain ⟨h1, h2, h3, h4⟩ := h
    refine ⟨_, rb_sl (by simp [Store.cells, h1]) h2 L.pos (L.cells_closed l) (one_notAgg (L.cells_one l)), ?_⟩
    rw [L.chunks]; simp only [AV.er, L.erMap]
  · refine ⟨_, rb_closed' (by simp only [AV.closed]; exact closedL_map fun a _ => L.closed a), ?_⟩
    simp only [AV.er, L.erMap]
theorem Gr.plain {α : Type} {L : Lay α} {σ : Store} {v : AV} {l : List α} (h : Gr L σ v l) : v.known = true ∧ v.one = true ∧ v.cells = [v] ∧ v.notAgg = true := by
  rcases h with ⟨rfl, _⟩ | ⟨b, rfl, _⟩ | rfl <;> exact ⟨rfl, rfl, rfl, rfl⟩
/-- Cells read out of the store, handed on. -/
def RbL (σ : Store) (d : Nat) (cs cs' : List AV) : Prop := ∃ m, mapO (rb σ d) cs = some m ∧ erL m = cs'
theorem RbL.nil (σ : Store) (d : Nat) : RbL σ d [] [] := ⟨[], rfl, by simp only [erL]⟩
theorem RbL.clo {σ : Store} {d : Nat} {x : AV} {cs cs' : List AV} (hx : x.closed = true) (h : RbL σ d cs cs') : RbL σ d (x :: cs) (x.er :: cs') := by
  obtain ⟨m, h1, h2⟩ := h
  exact ⟨x :: m, by simp only [mapO, rb_closed' hx, h1], by simp only [erL, h2]⟩
theorem RbL.gr {α : Type} {L : Lay α} {σ : Store} {d : Nat} {v : AV} {l : List α} {cs cs' : List AV} (hv : Gr L σ v l) (h : RbL σ (d + 1) cs cs') : RbL σ (d + 1) (v :: cs) (.vsl (l.map L.f) none :: cs') := by
  obtain ⟨m, h1, h2⟩ := h
  obtain ⟨v', h3, h4⟩ := hv.rbD d
  exact ⟨v' :: m, by simp only [mapO, h3, h1], by simp only [erL, h2, h4]⟩
theorem RbL.agg {σ : Store} {cs cs' : List AV} (h : RbL σ 23 cs cs') : rbE σ (.agg cs) = some (.agg cs') := by
  obtain ⟨m, h1, h2⟩ := h
  unfold rbE
  by_cases hc : (AV.agg cs).closed = true
  · have : m = cs := by
      have hm := mapO_closed' (σ := σ) (d := 23) (show closedL cs = true by simpa [AV.closed] using hc)
      rw [h1] at hm
      exact Option.some.inj hm
    subst this
    rw [rb_closed' hc, Option.map_some, AV.er, h2]
  · have e : rb σ rbDepth (.agg cs) = some (.agg m) := by
      show rb σ (23 + 1) (.agg cs) = _
      rw [rb, if_neg hc, h1]
    rw [e, Option.map_some, AV.er, h2]
theorem look_get {σ : Store} {b : Nat} {x : Blk} (h : σ.get b = some x) : look σ.m b = some x := h
theorem c_cloneV (l : List V) (c : Option Nat) (σ : Store) (hb : l.length < lim) : ∃ v σ', callM ipU gU .split (.fn 41 [] []) [.vsl (l.map V.enc) c] σ = some (v, σ') ∧ Gr LV σ' v l ∧ Grown σ σ' ∧ Fresh σ v := by
  unfold lim at hb
  cases l with
  | nil =>
    refine ⟨.vsl [] (some 0), σ, ?_, Gr.nil0 _ _, Grown.refl _, fun b o len sz c h => by simp at h⟩
    have hb2 : both ipU gU (.fn 41 [] []) σ = true := both_of 100 (by kernel_rfl) (by kernel_rfl)
    simp only [callM, List.map_nil, noItems, if_true, hb2]
  | cons x l =>
    have hro : ∀ σ', rowOf σ' 5 (.vsl ((x :: l).map V.enc) c) = some (LV.cells (x :: l)) := fun σ' => LV.rowOf σ' (x :: l) c
    have ha : appendTo σ 5 80 (.vsl [] (some 0)) (LV.cells (x :: l)) (l.length + 1) = some (.sl σ.next 0 (l.length + 1) 5 none, σ.alloc (LV.cells (x :: l))) :=
      app00 (by omega) (by omega) (by unfold maxBytes; simp at hb; omega) (LV.cells_len (x :: l)) (LV.cells_one _) (by omega)
    refine ⟨_, σ.alloc (LV.cells (x :: l)), ?_, Gr.cloned (L := LV) σ (l := x :: l) (by simp), Grown.alloc _ _, fun b o len sz c h => by simp at h; omega⟩
    have hn : noItems [.vsl ((x :: l).map V.enc) c] = false := rfl
    simp only [callM, hn, Bool.false_eq_true, if_false]
    refine callS_of (F := F41) rfl (first := []) (caps := []) ?_
    simp only [List.map_cons] at hro
    simp only [F41_0, F41_1, F41_2, F41_3, F41_4, F41_5, F41_6, F41_7, F41_8, F41_9, F41_10, F41_11, F41_12, F41, EXA, Nat.reduceEqDiff, reduceIte, reduceCtorEq, Nat.reduceAdd, Nat.reduceLeDiff, Nat.reduceSub, Nat.reduceMul, Int.reduceEq, Int.reduceBEq, Int.reduceBNe, Int.reduceLT, Int.reduceLE, Nat.reduceLT, VX, lenOf_vsl, hro, ha]
    simp [Store.alloc, LV]
theorem c_cloneM (l : List Mem) (c : Option Nat) (σ : Store) (hb : l.length < lim) : ∃ v σ', callM ipU gU .split (.fn 38 [] []) [.vsl (l.map memE) c] σ = some (v, σ') ∧ Gr LMem σ' v l ∧ Grown σ σ' ∧ Fresh σ v := by
  unfold lim at hb
  cases l with
  | nil =>
    refine ⟨.vsl [] (some 0), σ, ?_, Gr.nil0 _ _, Grown.refl _, fun b o len sz c h => by simp at h⟩
    have hb2 : both ipU gU (.fn 38 [] []) σ = true := both_of 100 (by kernel_rfl) (by kernel_rfl)
    simp only [callM, List.map_nil, noItems, if_true, hb2]
  | cons x l =>
    have hro : ∀ σ', rowOf σ' 6 (.vsl ((x :: l).map memE) c) = some (LMem.cells (x :: l)) := fun σ' => LMem.rowOf σ' (x :: l) c
    have ha : appendTo σ 6 96 (.vsl [] (some 0)) (LMem.cells (x :: l)) (l.length + 1) = some (.sl σ.next 0 (l.length + 1) 6 none, σ.alloc (LMem.cells (x :: l))) :=
      app00 (by omega) (by omega) (by unfold maxBytes; simp at hb; omega) (LMem.cells_len (x :: l)) (LMem.cells_one _) (by omega)
    refine ⟨_, σ.alloc (LMem.cells (x :: l)), ?_, Gr.cloned (L := LMem) σ (l := x :: l) (by simp), Grown.alloc _ _, fun b o len sz c h => by simp at h; omega⟩
    have hn : noItems [.vsl ((x :: l).map memE) c] = false := rfl
    simp only [callM, hn, Bool.false_eq_true, if_false]
    refine callS_of (F := F38) rfl (first := []) (caps := []) ?_
    simp only [List.map_cons] at hro
    simp only [F38_0, F38_1, F38_2, F38_3, F38_4, F38_5, F38_6, F38_7, F38_8, F38_9, F38_10, F38_11, F38_12, F38, EXA, Nat.reduceEqDiff, reduceIte, reduceCtorEq, Nat.reduceAdd, Nat.reduceLeDiff, Nat.reduceSub, Nat.reduceMul, Int.reduceEq, Int.reduceBEq, Int.reduceBNe, Int.reduceLT, Int.reduceLE, Nat.reduceLT, VX, lenOf_vsl, hro, ha]
    simp [Store.alloc, LMem]
theorem r_List (l : List V) (hb : l.length < lim) : cR 21 [.vsl (l.map V.enc) none] = some (V.mk 4 0 [] l []).enc := by
  refine cR_of (F := F21) rfl ?_
  simp only [F21_0, F21_1, F21_2, F21_3, F21_4, F21, EXA, Nat.reduceEqDiff, reduceIte, reduceCtorEq, Nat.reduceAdd, Nat.reduceLeDiff, Nat.reduceSub, Nat.reduceMul, Int.reduceEq, Int.reduceBEq, Int.reduceBNe, Int.reduceLT, Int.reduceLE, Nat.reduceLT, VX]
  obtain ⟨v, σ', h1, hg, hgr, hfr⟩ := c_cloneV l none ⟨1, [(0, .own [.int .i64 0, .int .i64 0, .str [], .nils, .nils])]⟩ hb
  obtain ⟨p1, p2, p3, p4⟩ := hg.plain
  have hlk := look_get (hgr.2 0 (by simp))
  have hg2 : Gr LV { next := σ'.next, m := (0, .own [.int .i64 4, .int .i64 0, .str [], v, .nils]) :: σ'.m } v l := by
    rcases hg with h | ⟨b, rfl, h⟩ | h
    · exact .inl h
    · have hb1 := hfr b _ _ _ _ rfl
      exact Gr.own (h.frame (by show look ((0, _) :: σ'.m) b = _; simp only [look]; rw [if_neg (by simp at hb1; omega)]; rfl) (Nat.le_refl _))
    · exact .inr (.inr h)
  have hrb := RbL.agg (RbL.clo (x := .int .i64 4) rfl (RbL.clo (x := .int .i64 0) rfl (RbL.clo (x := .str []) rfl (RbL.gr hg2 (RbL.clo (x := .nils) rfl (RbL.nil _ 23))))))
  simp only [EXA, Nat.reduceEqDiff, reduceIte, reduceCtorEq, Nat.reduceAdd, Nat.reduceLeDiff, Nat.reduceSub, Nat.reduceMul, Int.reduceEq, Int.reduceBEq, Int.reduceBNe, Int.reduceLT, Int.reduceLE, Nat.reduceLT, VX, h1, p1, p2, p3, p4, hlk, readAt_some, hrb]
  exact V.fold2 4 0 [] l
end Go.Ab
/- Slots and events: finding one. -/
namespace Go.Ab
set_option linter.unusedSimpArgs false
set_option linter.defProp false
set_option maxHeartbeats 1000000
def N1Fb := And.intro @F53_0.eq_1 (And.intro @F53_1.eq_1 (And.intro @F53_2.eq_1 (And.intro @F53_3.eq_1 (And.intro @F53_4.eq_1 (And.intro @F53_5.eq_1 (And.intro @F53_6.eq_1 (And.intro @F53_7.eq_1 (And.intro @F53_8.eq_1 (And.intro @F53_9.eq_1 (And.intro @F53_10.eq_1 (And.intro @F53_11.eq_1 (And.intro @F53_12.eq_1 (And.intro @F53_13.eq_1 (And.intro @F53_14.eq_1 (And.intro @F53_15.eq_1 (And.intro @F53_16.eq_1 (And.intro @F53_17.eq_1 (And.intro @F53_18.eq_1 (And.intro @F53_19.eq_1 (And.intro @F53_20.eq_1 (And.intro @F53_21.eq_1 (And.intro @F53_22.eq_1 (And.intro @F53_23.eq_1 (And.intro @F53_24.eq_1 (And.intro @F53_25.eq_1 (And.intro @F53_26.eq_1 (And.intro @F53_27.eq_1 (And.intro @F53_28.eq_1 (And.intro @F53_29.eq_1 (And.intro @F53_30.eq_1 (@F53.eq_1)))))))))))))))))))))))))))))))
set_option maxRecDepth 100000
def sEq (x y : Slt) : Bool := x.type == y.type && x.key == y.key
theorem sEq_iff {x y : Slt} : sEq x y = true ↔ x = y := by
  cases x; cases y; simp [sEq]
theorem Slt.eta (x : Slt) : (⟨x.type, x.key⟩ : Slt) = x := rfl
theorem eqs_slt (x y : Slt) (ng : Bool) : eqsOf [.str, .str] ng (sltE x) (sltE y) = some (.bool (if ng then !(sEq x y) else sEq x y)) := by
  have h : eqCells [.str, .str] [.str x.type, .str x.key] [.str y.type, .str y.key] = some (sEq x y) := by
    simp only [eqCells, sEq]
    cases x.type == y.type <;> cases x.key == y.key <;> rfl
  simp only [eqsOf, sltE, List.length_cons, List.length_nil, and_self, if_true, h, Option.map_some]
theorem idx_slt {l : List Slt} {j : Nat} {s : Slt} {c : Option Nat} (h : l[j]? = some s) : idxOf 2 none (.vsl (l.map sltE) c) (.int .i64 (j : Int)) = some (.vptr [.str s.type, .str s.key] 0) := idx_map (f := sltE) h rfl
theorem r_indexSlt (l : List Slt) (x : Slt) (hlen : l.length < big) : cR 53 [.vsl (l.map sltE) none, sltE x] = some (.int .i64 (firstFrom (sEq x) l 0)) := by
  unfold big at hlen
  refine cR_of (F := F53) rfl ?_
  simp only [F53_0, F53_1, F53_2, F53_3, F53_4, F53_5, F53_6, F53_7, F53_8, F53_9, F53_10, F53_11, F53_12, F53_13, F53_14, F53_15, F53_16, F53_17, F53_18, F53_19, F53_21, F53_22, F53_23, F53_24, F53_25, F53_26, F53_27, F53_28, F53_29, F53_30, F53, ex_loop, EXA, Nat.reduceEqDiff, reduceIte, reduceCtorEq, Nat.reduceAdd, Nat.reduceLeDiff, Nat.reduceSub, Nat.reduceMul, Int.reduceEq, Int.reduceBEq, Int.reduceBNe, Int.reduceLT, Int.reduceLE, Nat.reduceLT, VX]
  refine ex_while (S := Nat) (fun j => [(0, .vsl (l.map sltE) none), (3, .vptr [.str x.type, .str x.key] 0), (7, .int .i64 l.length), (8, .int .i64 (j : Int))]) (fun _ => .empty) (fun j => l.length - j) (fun j => firstFrom (sEq x) l j = firstFrom (sEq x) l 0) ?_ 0 rfl
  intro b j hj ih
  by_cases hlt : j < l.length
  · obtain ⟨y, hy⟩ := get_lt hlt
    have hidx := idx_slt (c := none) hy
    have hcond := dlt hlt
    simp only [N1Fb, EXA, Nat.reduceEqDiff, reduceIte, reduceCtorEq, Nat.reduceAdd, Nat.reduceLeDiff, Nat.reduceSub, Nat.reduceMul, Int.reduceEq, Int.reduceBEq, Int.reduceBNe, Int.reduceLT, Int.reduceLE, Nat.reduceLT, VX, readAt_some, hcond, hidx, Slt.eta, eqs_slt]
    split
    · rename_i hp
      rw [← hj, firstFrom_hit hy (by simpa using hp)]
    · rename_i hp
      refine ih (j + 1) _ _ (by omega) ?_ ?_ rfl
      · rw [← firstFrom_miss hy (by simpa using hp)]; exact hj
      · rw [wsucc hlt (by omega)]
        simp only [EXA, Nat.reduceEqDiff, reduceIte, reduceCtorEq, Nat.reduceAdd, Nat.reduceLeDiff, Nat.reduceSub, Nat.reduceMul, Int.reduceEq, Int.reduceBEq, Int.reduceBNe, Int.reduceLT, Int.reduceLE, Nat.reduceLT]
  · have hcond := dge (Nat.not_lt.1 hlt)
    simp only [N1Fb, EXA, Nat.reduceEqDiff, reduceIte, reduceCtorEq, Nat.reduceAdd, Nat.reduceLeDiff, Nat.reduceSub, Nat.reduceMul, Int.reduceEq, Int.reduceBEq, Int.reduceBNe, Int.reduceLT, Int.reduceLE, Nat.reduceLT, VX, hcond]
    rw [← hj, firstFrom_end (by omega)]
def hasT (l : List Slt) (x : Slt) : Bool := l.any (sEq x)
theorem hasT_iff {l : List Slt} {x : Slt} : hasT l x = true ↔ x ∈ l := by
  unfold hasT
  rw [List.any_eq_true]
  constructor
  · rintro ⟨y, hy, h⟩; rw [sEq_iff] at h; subst h; exact hy
  · intro h; exact ⟨x, h, sEq_iff.2 rfl⟩
theorem r_containsT (l : List Slt) (x : Slt) (hlen : l.length < big) : cR 37 [.vsl (l.map sltE) none, sltE x] = some (.bool (hasT l x)) := by
  refine cR_of (F := F37) rfl ?_
  simp only [F37_0, F37_1, F37_2, F37_3, F37_4, F37, EXA, Nat.reduceEqDiff, reduceIte, reduceCtorEq, Nat.reduceAdd, Nat.reduceLeDiff, Nat.reduceSub, Nat.reduceMul, Int.reduceEq, Int.reduceBEq, Int.reduceBNe, Int.reduceLT, Int.reduceLE, Nat.reduceLT, VX, readAt_some, Slt.eta, r_indexSlt l x hlen, firstFrom_ge, hasT]
end Go.Ab
/- Events: copies, finding one of a state. -/
namespace Go.Ab
set_option linter.unusedSimpArgs false
set_option linter.defProp false
set_option maxHeartbeats 1000000
def N2Fb := And.intro @F51_0.eq_1 (And.intro @F51_1.eq_1 (And.intro @F51_2.eq_1 (And.intro @F51_3.eq_1 (And.intro @F51_4.eq_1 (And.intro @F51_5.eq_1 (And.intro @F51_6.eq_1 (And.intro @F51_7.eq_1 (And.intro @F51_8.eq_1 (And.intro @F51_9.eq_1 (And.intro @F51_10.eq_1 (And.intro @F51_11.eq_1 (And.intro @F51_12.eq_1 (And.intro @F51_13.eq_1 (And.intro @F51_14.eq_1 (And.intro @F51_15.eq_1 (And.intro @F51_16.eq_1 (And.intro @F51_17.eq_1 (And.intro @F51_18.eq_1 (And.intro @F51_19.eq_1 (And.intro @F51_20.eq_1 (And.intro @F51_21.eq_1 (And.intro @F51_22.eq_1 (And.intro @F51_23.eq_1 (And.intro @F51_24.eq_1 (And.intro @F51_25.eq_1 (And.intro @F51_26.eq_1 (And.intro @F51_27.eq_1 (And.intro @F51_28.eq_1 (And.intro @F51_29.eq_1 (And.intro @F51_30.eq_1 (@F51.eq_1)))))))))))))))))))))))))))))))
set_option maxRecDepth 100000
theorem r_cloneS (l : List Bs) (hb : l.length < lim) (h0 : 0 < l.length) : cR 66 [.vsl (l.map .str) none] = some (.vsl (l.map .str) none) := by
  unfold lim at hb
  cases l with
  | nil => simp at h0
  | cons x l =>
    have hro : ∀ σ', rowOf σ' 1 (.vsl ((x :: l).map .str) none) = some (LStr.cells (x :: l)) := fun σ' => LStr.rowOf σ' (x :: l) none
    have ha : appendTo .empty 1 16 (.vsl [] (some 0)) (LStr.cells (x :: l)) (l.length + 1) = some (.sl 0 0 (l.length + 1) 1 none, Store.empty.alloc (LStr.cells (x :: l))) :=
      app00 (by omega) (by omega) (by unfold maxBytes; simp at hb; omega) (LStr.cells_len (x :: l)) (LStr.cells_one _) (by omega)
    have hrb := (Gr.cloned (L := LStr) .empty (l := x :: l) (by simp)).rbE
    refine cR_of (F := F66) rfl ?_
    simp only [List.map_cons] at hro
    simp only [Store.empty] at ha hrb
    simp only [F66_0, F66_1, F66_2, F66_3, F66_4, F66_5, F66_6, F66_7, F66_8, F66_9, F66_10, F66_11, F66_12, F66, EXA, Nat.reduceEqDiff, reduceIte, reduceCtorEq, Nat.reduceAdd, Nat.reduceLeDiff, Nat.reduceSub, Nat.reduceMul, Int.reduceEq, Int.reduceBEq, Int.reduceBNe, Int.reduceLT, Int.reduceLE, Nat.reduceLT, VX, lenOf_vsl, hro, ha]
    exact hrb
theorem c_cloneS (l : List Bs) (σ : Store) (hb : l.length < lim) : callM ipU gU .splitS (.fn 66 [] []) [.vsl (l.map .str) none] σ = some (.vsl (l.map .str) none, σ) := by
  cases l with
  | nil =>
    have hb2 : both ipU gU (.fn 66 [] []) σ = true := both_of 100 (by kernel_rfl) (by kernel_rfl)
    simp only [callM, List.map_nil, noItems, if_true, hb2]
  | cons x l =>
    have hn : noItems [.vsl ((x :: l).map .str) none] = false := rfl
    have hc : closedL [.vsl ((x :: l).map AV.str) none] = true := by simp only [closedL, AV.closed, closedL_strs, Bool.and_self]
    simp only [callM, hn, Bool.false_eq_true, if_false]
    rw [callP_closed rfl hc]
    simp only [erL, AV.er, erL_strs]
    have hr : callR ipU gU (.fn 66 [] []) [.vsl ((x :: l).map AV.str) none] = some (.vsl ((x :: l).map AV.str) none) := r_cloneS (x :: l) hb (by simp)
    rw [hr]; rfl
theorem r_copy (e : Ev) (h1 : e.prev.length < lim) (h2 : e.auth.length < lim) : cR 52 [evE e] = some (evE e) := by
  have c1 := c_cloneS e.prev
  have c2 := c_cloneS e.auth
  refine cR_of (F := F52) rfl ?_
  simp only [F52_0, F52_1, F52_2, F52_3, F52_4, F52_5, F52_6, F52_7, F52, EXA, Nat.reduceEqDiff, reduceIte, reduceCtorEq, Nat.reduceAdd, Nat.reduceLeDiff, Nat.reduceSub, Nat.reduceMul, Int.reduceEq, Int.reduceBEq, Int.reduceBNe, Int.reduceLT, Int.reduceLE, Nat.reduceLT, VX, readAt_some, c1 _ h1, c2 _ h2]
theorem idx_ev {l : List Ev} {j : Nat} {e : Ev} {c : Option Nat} (h : l[j]? = some e) : idxOf 20 none (.vsl (l.map evE) c) (.int .i64 (j : Int)) = some (.vptr (evE e).cells 0) := idx_map (f := evE) h rfl
/-- slices.IndexFunc over events. -/
theorem r_indexE (l : List Ev) (f : AV) (p : Ev → Bool) (hf : f.closed = true) (hfe : f.er = f) (hlen : l.length < big) (hp : ∀ e ∈ l, callR ipU gU f [evE e] = some (.bool (p e))) :
    cR 51 [.vsl (l.map evE) none, f] = some (.int .i64 (firstFrom p l 0)) := by
  unfold big at hlen
  refine cR_of (F := F51) rfl ?_
  simp only [F51_0, F51_1, F51_2, F51_3, F51_4, F51_5, F51_6, F51_7, F51_8, F51_9, F51_10, F51_11, F51_12, F51_13, F51_14, F51_15, F51_16, F51_17, F51_18, F51_19, F51_21, F51_22, F51_23, F51_24, F51_25, F51_26, F51_27, F51_28, F51_29, F51_30, F51, ex_loop, EXA, Nat.reduceEqDiff, reduceIte, reduceCtorEq, Nat.reduceAdd, Nat.reduceLeDiff, Nat.reduceSub, Nat.reduceMul, Int.reduceEq, Int.reduceBEq, Int.reduceBNe, Int.reduceLT, Int.reduceLE, Nat.reduceLT, VX]
  refine ex_while (S := Nat) (fun j => [(0, .vsl (l.map evE) none), (1, f), (7, .int .i64 l.length), (8, .int .i64 (j : Int))]) (fun _ => .empty) (fun j => l.length - j) (fun j => firstFrom p l j = firstFrom p l 0) ?_ 0 rfl
  intro b j hj ih
  by_cases hlt : j < l.length
  · obtain ⟨v, hv⟩ := get_lt hlt
    have hidx := idx_ev (c := none) hv
    have hcall := hp v (List.mem_of_getElem? hv)
    have hcond := dlt hlt
    simp only [N2Fb, EXA, Nat.reduceEqDiff, reduceIte, reduceCtorEq, Nat.reduceAdd, Nat.reduceLeDiff, Nat.reduceSub, Nat.reduceMul, Int.reduceEq, Int.reduceBEq, Int.reduceBNe, Int.reduceLT, Int.reduceLE, Nat.reduceLT, VX, readAt_some, hcond, hidx, hf, hfe, hcall]
    split
    · rename_i hpe
      rw [← hj, firstFrom_hit hv hpe]
    · rename_i hpe
      refine ih (j + 1) _ _ (by omega) ?_ ?_ rfl
      · rw [← firstFrom_miss hv (by simpa using hpe)]; exact hj
      · rw [wsucc hlt (by omega)]
        simp only [EXA, Nat.reduceEqDiff, reduceIte, reduceCtorEq, Nat.reduceAdd, Nat.reduceLeDiff, Nat.reduceSub, Nat.reduceMul, Int.reduceEq, Int.reduceBEq, Int.reduceBNe, Int.reduceLT, Int.reduceLE, Nat.reduceLT]
  · have hcond := dge (Nat.not_lt.1 hlt)
    simp only [N2Fb, EXA, Nat.reduceEqDiff, reduceIte, reduceCtorEq, Nat.reduceAdd, Nat.reduceLeDiff, Nat.reduceSub, Nat.reduceMul, Int.reduceEq, Int.reduceBEq, Int.reduceBNe, Int.reduceLT, Int.reduceLE, Nat.reduceLT, VX, hcond]
    rw [← hj, firstFrom_end (by omega)]
def Ev.slot (e : Ev) : Slt := ⟨e.type, e.key⟩
def isAt (s : Slt) (e : Ev) : Bool := e.isState && sEq e.slot s
theorem r_of1 (s : Slt) (e : Ev) : callR ipU gU (.fn 50 [] [.vptr [.str s.type, .str s.key] 0]) [evE e] = some (.bool (isAt s e)) := by
  refine callR_of (F := F50) rfl (first := []) (caps := [.vptr [.str s.type, .str s.key] 0]) ?_
  simp only [F50_0, F50_1, F50_2, F50_3, F50_4, F50, EXA, Nat.reduceEqDiff, reduceIte, reduceCtorEq, Nat.reduceAdd, Nat.reduceLeDiff, Nat.reduceSub, Nat.reduceMul, Int.reduceEq, Int.reduceBEq, Int.reduceBNe, Int.reduceLT, Int.reduceLE, Nat.reduceLT, VX, readAt_some, r_slot, Slt.eta, eqs_slt]
  unfold isAt Ev.slot
  cases e.isState <;> simp
end Go.Ab
/- The event of a slot. -/
namespace Go.Ab
set_option linter.unusedSimpArgs false
set_option linter.defProp false
set_option maxHeartbeats 1000000
def N3Fa := And.intro @F26_0.eq_1 (And.intro @F26_1.eq_1 (And.intro @F26_2.eq_1 (And.intro @F26_3.eq_1 (And.intro @F26_4.eq_1 (And.intro @F26_5.eq_1 (And.intro @F26_6.eq_1 (And.intro @F26_7.eq_1 (And.intro @F26_8.eq_1 (And.intro @F26_9.eq_1 (And.intro @F26_10.eq_1 (And.intro @F26_11.eq_1 (And.intro @F26_12.eq_1 (And.intro @F26_13.eq_1 (And.intro @F26_14.eq_1 (And.intro @F26_15.eq_1 (@F26.eq_1))))))))))))))))
set_option maxRecDepth 100000
theorem firstFrom_find {α : Type} (p : α → Bool) (l : List α) : (firstFrom p l 0 = -1 ∧ l.find? p = none) ∨ ∃ (i : Nat) (e : α), firstFrom p l 0 = (i : Int) ∧ l[i]? = some e ∧ l.find? p = some e ∧ p e = true := by
  unfold firstFrom
  rw [List.drop_zero]
  cases h : l.findIdx? p with
  | none => exact .inl ⟨rfl, by rw [List.find?_eq_none]; intro x hx; have := List.findIdx?_eq_none_iff.1 h x hx; simp [this]⟩
  | some i =>
    right
    obtain ⟨h1, h2, h3⟩ := List.findIdx?_eq_some_iff_getElem.1 h
    refine ⟨i, l[i], by simp, by simp [h1], ?_, h2⟩
    rw [List.find?_eq_some_iff_getElem]
    exact ⟨h2, i, h1, rfl, fun j hj => by simpa using h3 j hj⟩
def Ev.zero : Ev := ⟨V.mk 0 0 [] [] [], [], [], [], [], [], false, 0, 0, [], [], V.mk 0 0 [] [] []⟩
theorem evE_zero : evE Ev.zero = .agg [.int .i64 0, .int .i64 0, .str [], .vsl [] none, .vsl [] none, .str [], .str [], .str [], .str [], .str [], .bool false, .int .i64 0, .int .i64 0, .vsl [] none, .vsl [] none, .int .i64 0, .int .i64 0, .str [], .vsl [] none, .vsl [] none] := rfl
def ofE (l : List Ev) (s : Slt) : Ev × Bool := match l.find? (isAt s) with
  | some e => (e, true)
  | none => (Ev.zero, false)
theorem ofE_some {l : List Ev} {s : Slt} {e : Ev} (h : l.find? (isAt s) = some e) : ofE l s = (e, true) := by simp [ofE, h]
theorem ofE_none {l : List Ev} {s : Slt} (h : l.find? (isAt s) = none) : ofE l s = (Ev.zero, false) := by simp [ofE, h]
theorem decNeg (i : Nat) : decide ((i : Int) < 0) = false := by simp
theorem r_of (l : List Ev) (s : Slt) (hlen : l.length < big) (hs : ∀ e ∈ l, e.prev.length < lim ∧ e.auth.length < lim) : cR 26 [.vsl (l.map evE) none, sltE s] = some (.tup [evE (ofE l s).1, .bool (ofE l s).2]) := by
  have hi := r_indexE l (.fn 50 [] [.vptr [.str s.type, .str s.key] 0]) (isAt s) rfl (by simp only [AV.er, erL]) hlen (fun e _ => r_of1 s e)
  refine cR_of (F := F26) rfl ?_
  rcases firstFrom_find (isAt s) l with ⟨h1, h2⟩ | ⟨i, e, h1, h2, h3, _⟩
  · rw [h1] at hi
    have hd : decide ((-1 : Int) < 0) = true := rfl
    simp only [N3Fa, EXA, Nat.reduceEqDiff, reduceIte, reduceCtorEq, Nat.reduceAdd, Nat.reduceLeDiff, Nat.reduceSub, Nat.reduceMul, Int.reduceEq, Int.reduceBEq, Int.reduceBNe, Int.reduceLT, Int.reduceLE, Nat.reduceLT, VX, hi, hd, ofE_none h2, readAt_some, evE_zero]
  · rw [h1] at hi
    have hidx := idx_ev (c := none) h2
    obtain ⟨q1, q2⟩ := hs e (List.mem_of_getElem? h2)
    simp only [N3Fa, EXA, Nat.reduceEqDiff, reduceIte, reduceCtorEq, Nat.reduceAdd, Nat.reduceLeDiff, Nat.reduceSub, Nat.reduceMul, Int.reduceEq, Int.reduceBEq, Int.reduceBNe, Int.reduceLT, Int.reduceLE, Nat.reduceLT, VX, hi, decNeg, ofE_some h3, readAt_some, hidx, r_copy e q1 q2]
theorem r_Of (l : List Ev) (s : Slt) (hlen : l.length < big) (hs : ∀ e ∈ l, e.prev.length < lim ∧ e.auth.length < lim) : cR 3 [.vsl (l.map evE) none, sltE s] = some (.tup [evE (ofE l s).1, .bool (ofE l s).2]) := by
  refine cR_of (F := F3) rfl ?_
  simp only [F3_0, F3_1, F3_2, F3_3, F3_4, F3, EXA, Nat.reduceEqDiff, reduceIte, reduceCtorEq, Nat.reduceAdd, Nat.reduceLeDiff, Nat.reduceSub, Nat.reduceMul, Int.reduceEq, Int.reduceBEq, Int.reduceBNe, Int.reduceLT, Int.reduceLE, Nat.reduceLT, VX, readAt_some, Slt.eta, r_of l s hlen hs]
end Go.Ab
