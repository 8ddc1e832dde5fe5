/- What functions of the program, and of the library, answer. Conditions: none. -/
import Derived.Test.YtgckcnggblomgaaDoorLaw7
set_option linter.unusedVariables false
set_option linter.unusedSimpArgs false
set_option linter.defProp false
/- The document's: what a value may be. -/
namespace Go.Ab
set_option linter.unusedSimpArgs false
set_option linter.defProp false
set_option maxHeartbeats 1000000
def S4Fa := And.intro @F80_0.eq_1 (And.intro @F80_1.eq_1 (And.intro @F80_2.eq_1 (And.intro @F80_3.eq_1 (And.intro @F80_4.eq_1 (And.intro @F80_5.eq_1 (And.intro @F80_6.eq_1 (And.intro @F80_7.eq_1 (And.intro @F80_8.eq_1 (And.intro @F80_9.eq_1 (And.intro @F80_10.eq_1 (And.intro @F80_11.eq_1 (And.intro @F80_12.eq_1 (And.intro @F80_13.eq_1 (And.intro @F80_14.eq_1 (And.intro @F80_15.eq_1 (And.intro @F80_16.eq_1 (And.intro @F80_17.eq_1 (And.intro @F80_18.eq_1 (And.intro @F80_19.eq_1 (And.intro @F80_20.eq_1 (And.intro @F80_21.eq_1 (And.intro @F80_22.eq_1 (And.intro @F80_23.eq_1 (And.intro @F80_24.eq_1 (And.intro @F80_25.eq_1 (And.intro @F80_26.eq_1 (And.intro @F80_27.eq_1 (And.intro @F80_28.eq_1 (And.intro @F80_29.eq_1 (And.intro @F80_30.eq_1 (And.intro @F80_32.eq_1 (And.intro @F80_33.eq_1 (And.intro @F80_34.eq_1 (And.intro @F80_35.eq_1 (And.intro @F80_36.eq_1 (And.intro @F80_37.eq_1 (And.intro @F80_38.eq_1 (And.intro @F80_39.eq_1 (And.intro @F80_40.eq_1 (And.intro @F80_41.eq_1 (And.intro @F80_42.eq_1 (And.intro @F80_43.eq_1 (And.intro @F80_44.eq_1 (And.intro @F80_45.eq_1 (And.intro @F80_46.eq_1 (And.intro @F80_47.eq_1 (And.intro @F80_48.eq_1 (And.intro @F80_49.eq_1 (And.intro @F80_50.eq_1 (And.intro @F80_51.eq_1 (And.intro @F80_52.eq_1 (And.intro @F80_53.eq_1 (And.intro @F80_54.eq_1 (And.intro @F80_55.eq_1 (And.intro @F80_56.eq_1 (And.intro @F80_58.eq_1 (And.intro @F80_59.eq_1 (And.intro @F80_60.eq_1 (And.intro @F80_61.eq_1 (And.intro @F80_62.eq_1 (And.intro @F80_63.eq_1 (And.intro @F80_64.eq_1 (And.intro @F80_65.eq_1 (And.intro @F80_66.eq_1 (And.intro @F80_67.eq_1 (And.intro @F80_68.eq_1 (And.intro @F80_69.eq_1 (And.intro @F80_70.eq_1 (And.intro @F80_71.eq_1 (And.intro @F80_72.eq_1 (And.intro @F80_73.eq_1 (And.intro @F80_74.eq_1 (And.intro @F80_75.eq_1 (And.intro @F80_76.eq_1 (And.intro @F80_77.eq_1 (And.intro @F80_78.eq_1 (And.intro @F80_79.eq_1 (And.intro @F80_80.eq_1 (And.intro @F80_81.eq_1 (And.intro @F80_82.eq_1 (And.intro @F80_83.eq_1 (And.intro @F80_84.eq_1 (And.intro @F80_85.eq_1 (And.intro @F80_86.eq_1 (And.intro @F80_87.eq_1 (And.intro @F80_88.eq_1 (And.intro @F80_89.eq_1 (And.intro @F80_90.eq_1 (And.intro @F80_91.eq_1 (And.intro @F80_92.eq_1 (@F80.eq_1)))))))))))))))))))))))))))))))))))))))))))))))))))))))))))))))))))))))))))))))))))))))))))
set_option maxRecDepth 100000
theorem lenE {α : Type} (l : List α) : ((l.length : Int) == 0) = l.isEmpty := by
  cases l <;> simp; omega
theorem qk {k a : Int} (h : k = a) : (k == a) = true := by simp [h]
theorem qn {k a : Int} (h : k ≠ a) : (k == a) = false := by simp [h]
theorem i00 : ((0 : Int) == 0) = true := rfl
theorem may0 (v : V) (h : v.kind = 0) : cR 80 [v.enc] = some (.bool v.fine) := by
  obtain ⟨r, hr⟩ : ∃ r, r = AV.bool v.fine := ⟨_, rfl⟩
  rw [← hr]
  rw [V.fine_eq] at hr
  have qe : (([] : Bs) == []) = true := rfl
  simp only [h, if_true, if_false, V.bare, V.n_mk, V.s_mk, V.l_mk, V.m_mk, i00, qe, Bool.true_and, numOk] at hr
  refine cR_of (F := F80) rfl ?_
  have q0 : ((0 : Int) == 0) = true := rfl
  simp only [S4Fa, EXA, Nat.reduceEqDiff, reduceIte, reduceCtorEq, Nat.reduceAdd, Nat.reduceLeDiff, Nat.reduceSub, Nat.reduceMul, Int.reduceEq, Int.reduceBEq, Int.reduceBNe, Int.reduceLT, Int.reduceLE, Nat.reduceLT, VX, readAt_some, h, q0, lenE, List.length_map]
  cases h1 : v.n == 0 with
  | false =>
    simp only [h1, Bool.and_self, Bool.true_and, Bool.false_and, Bool.and_false, Bool.and_true, Bool.or_self, Bool.true_or, Bool.or_true, Bool.or_false, Bool.false_or] at hr
    simp only [EXA, Nat.reduceEqDiff, reduceIte, reduceCtorEq, Nat.reduceAdd, Nat.reduceLeDiff, Nat.reduceSub, Nat.reduceMul, Int.reduceEq, Int.reduceBEq, Int.reduceBNe, Int.reduceLT, Int.reduceLE, Nat.reduceLT, VX, readAt_some, lenE, h1, hr, List.length_map]
  | true =>
  cases h2 : v.s == [] with
  | false =>
    simp only [h1, h2, Bool.and_self, Bool.true_and, Bool.false_and, Bool.and_false, Bool.and_true, Bool.or_self, Bool.true_or, Bool.or_true, Bool.or_false, Bool.false_or] at hr
    simp only [EXA, Nat.reduceEqDiff, reduceIte, reduceCtorEq, Nat.reduceAdd, Nat.reduceLeDiff, Nat.reduceSub, Nat.reduceMul, Int.reduceEq, Int.reduceBEq, Int.reduceBNe, Int.reduceLT, Int.reduceLE, Nat.reduceLT, VX, readAt_some, lenE, h1, h2, hr, List.length_map]
  | true =>
  cases h3 : v.l.isEmpty with
  | false =>
    simp only [h1, h2, h3, Bool.and_self, Bool.true_and, Bool.false_and, Bool.and_false, Bool.and_true, Bool.or_self, Bool.true_or, Bool.or_true, Bool.or_false, Bool.false_or] at hr
    simp only [EXA, Nat.reduceEqDiff, reduceIte, reduceCtorEq, Nat.reduceAdd, Nat.reduceLeDiff, Nat.reduceSub, Nat.reduceMul, Int.reduceEq, Int.reduceBEq, Int.reduceBNe, Int.reduceLT, Int.reduceLE, Nat.reduceLT, VX, readAt_some, lenE, h1, h2, h3, hr, List.length_map]
  | true =>
  cases h4 : v.m.isEmpty with
  | false =>
    simp only [h1, h2, h3, h4, Bool.and_self, Bool.true_and, Bool.false_and, Bool.and_false, Bool.and_true, Bool.or_self, Bool.true_or, Bool.or_true, Bool.or_false, Bool.false_or] at hr
    simp only [EXA, Nat.reduceEqDiff, reduceIte, reduceCtorEq, Nat.reduceAdd, Nat.reduceLeDiff, Nat.reduceSub, Nat.reduceMul, Int.reduceEq, Int.reduceBEq, Int.reduceBNe, Int.reduceLT, Int.reduceLE, Nat.reduceLT, VX, readAt_some, lenE, h1, h2, h3, h4, hr, List.length_map]
  | true =>
  simp only [h1, h2, h3, h4, Bool.and_self, Bool.true_and, Bool.false_and, Bool.and_false, Bool.and_true, Bool.or_self, Bool.true_or, Bool.or_true, Bool.or_false, Bool.false_or] at hr
  simp only [EXA, Nat.reduceEqDiff, reduceIte, reduceCtorEq, Nat.reduceAdd, Nat.reduceLeDiff, Nat.reduceSub, Nat.reduceMul, Int.reduceEq, Int.reduceBEq, Int.reduceBNe, Int.reduceLT, Int.reduceLE, Nat.reduceLT, VX, readAt_some, lenE, h1, h2, h3, h4, hr, List.length_map]
theorem may1 (v : V) (h : v.kind = 1) : cR 80 [v.enc] = some (.bool v.fine) := by
  obtain ⟨r, hr⟩ : ∃ r, r = AV.bool v.fine := ⟨_, rfl⟩
  rw [← hr]
  rw [V.fine_eq] at hr
  have qe : (([] : Bs) == []) = true := rfl
  simp only [h, show ((1 : Int) = 0) = False by simp, if_true, if_false, V.bare, V.n_mk, V.s_mk, V.l_mk, V.m_mk, i00, qe, Bool.true_and, numOk] at hr
  refine cR_of (F := F80) rfl ?_
  have q0 : ((1 : Int) == 0) = false := rfl
  have q1 : ((1 : Int) == 1) = true := rfl
  simp only [S4Fa, EXA, Nat.reduceEqDiff, reduceIte, reduceCtorEq, Nat.reduceAdd, Nat.reduceLeDiff, Nat.reduceSub, Nat.reduceMul, Int.reduceEq, Int.reduceBEq, Int.reduceBNe, Int.reduceLT, Int.reduceLE, Nat.reduceLT, VX, readAt_some, h, q0, q1, lenE, List.length_map]
  cases h0 : v.n == 0 with
  | false =>
    cases h1 : v.n == 1 with
    | false =>
      simp only [h0, h1, Bool.and_self, Bool.true_and, Bool.false_and, Bool.and_false, Bool.and_true, Bool.or_self, Bool.true_or, Bool.or_true, Bool.or_false, Bool.false_or] at hr
      simp only [EXA, Nat.reduceEqDiff, reduceIte, reduceCtorEq, Nat.reduceAdd, Nat.reduceLeDiff, Nat.reduceSub, Nat.reduceMul, Int.reduceEq, Int.reduceBEq, Int.reduceBNe, Int.reduceLT, Int.reduceLE, Nat.reduceLT, VX, readAt_some, lenE, h0, h1, hr, List.length_map]
    | true =>
      cases h2 : v.s == [] with
      | false =>
        simp only [h0, h1, h2, Bool.and_self, Bool.true_and, Bool.false_and, Bool.and_false, Bool.and_true, Bool.or_self, Bool.true_or, Bool.or_true, Bool.or_false, Bool.false_or] at hr
        simp only [EXA, Nat.reduceEqDiff, reduceIte, reduceCtorEq, Nat.reduceAdd, Nat.reduceLeDiff, Nat.reduceSub, Nat.reduceMul, Int.reduceEq, Int.reduceBEq, Int.reduceBNe, Int.reduceLT, Int.reduceLE, Nat.reduceLT, VX, readAt_some, lenE, h0, h1, h2, hr, List.length_map]
      | true =>
        cases h3 : v.l.isEmpty with
        | false =>
          simp only [h0, h1, h2, h3, Bool.and_self, Bool.true_and, Bool.false_and, Bool.and_false, Bool.and_true, Bool.or_self, Bool.true_or, Bool.or_true, Bool.or_false, Bool.false_or] at hr
          simp only [EXA, Nat.reduceEqDiff, reduceIte, reduceCtorEq, Nat.reduceAdd, Nat.reduceLeDiff, Nat.reduceSub, Nat.reduceMul, Int.reduceEq, Int.reduceBEq, Int.reduceBNe, Int.reduceLT, Int.reduceLE, Nat.reduceLT, VX, readAt_some, lenE, h0, h1, h2, h3, hr, List.length_map]
        | true =>
          cases h4 : v.m.isEmpty with
          | false =>
            simp only [h0, h1, h2, h3, h4, Bool.and_self, Bool.true_and, Bool.false_and, Bool.and_false, Bool.and_true, Bool.or_self, Bool.true_or, Bool.or_true, Bool.or_false, Bool.false_or] at hr
            simp only [EXA, Nat.reduceEqDiff, reduceIte, reduceCtorEq, Nat.reduceAdd, Nat.reduceLeDiff, Nat.reduceSub, Nat.reduceMul, Int.reduceEq, Int.reduceBEq, Int.reduceBNe, Int.reduceLT, Int.reduceLE, Nat.reduceLT, VX, readAt_some, lenE, h0, h1, h2, h3, h4, hr, List.length_map]
          | true =>
            simp only [h0, h1, h2, h3, h4, Bool.and_self, Bool.true_and, Bool.false_and, Bool.and_false, Bool.and_true, Bool.or_self, Bool.true_or, Bool.or_true, Bool.or_false, Bool.false_or] at hr
            simp only [EXA, Nat.reduceEqDiff, reduceIte, reduceCtorEq, Nat.reduceAdd, Nat.reduceLeDiff, Nat.reduceSub, Nat.reduceMul, Int.reduceEq, Int.reduceBEq, Int.reduceBNe, Int.reduceLT, Int.reduceLE, Nat.reduceLT, VX, readAt_some, lenE, h0, h1, h2, h3, h4, hr, List.length_map]
  | true =>
    cases h2 : v.s == [] with
    | false =>
      simp only [h0, h2, Bool.and_self, Bool.true_and, Bool.false_and, Bool.and_false, Bool.and_true, Bool.or_self, Bool.true_or, Bool.or_true, Bool.or_false, Bool.false_or] at hr
      simp only [EXA, Nat.reduceEqDiff, reduceIte, reduceCtorEq, Nat.reduceAdd, Nat.reduceLeDiff, Nat.reduceSub, Nat.reduceMul, Int.reduceEq, Int.reduceBEq, Int.reduceBNe, Int.reduceLT, Int.reduceLE, Nat.reduceLT, VX, readAt_some, lenE, h0, h2, hr, List.length_map]
    | true =>
      cases h3 : v.l.isEmpty with
      | false =>
        simp only [h0, h2, h3, Bool.and_self, Bool.true_and, Bool.false_and, Bool.and_false, Bool.and_true, Bool.or_self, Bool.true_or, Bool.or_true, Bool.or_false, Bool.false_or] at hr
        simp only [EXA, Nat.reduceEqDiff, reduceIte, reduceCtorEq, Nat.reduceAdd, Nat.reduceLeDiff, Nat.reduceSub, Nat.reduceMul, Int.reduceEq, Int.reduceBEq, Int.reduceBNe, Int.reduceLT, Int.reduceLE, Nat.reduceLT, VX, readAt_some, lenE, h0, h2, h3, hr, List.length_map]
      | true =>
        cases h4 : v.m.isEmpty with
        | false =>
          simp only [h0, h2, h3, h4, Bool.and_self, Bool.true_and, Bool.false_and, Bool.and_false, Bool.and_true, Bool.or_self, Bool.true_or, Bool.or_true, Bool.or_false, Bool.false_or] at hr
          simp only [EXA, Nat.reduceEqDiff, reduceIte, reduceCtorEq, Nat.reduceAdd, Nat.reduceLeDiff, Nat.reduceSub, Nat.reduceMul, Int.reduceEq, Int.reduceBEq, Int.reduceBNe, Int.reduceLT, Int.reduceLE, Nat.reduceLT, VX, readAt_some, lenE, h0, h2, h3, h4, hr, List.length_map]
        | true =>
          simp only [h0, h2, h3, h4, Bool.and_self, Bool.true_and, Bool.false_and, Bool.and_false, Bool.and_true, Bool.or_self, Bool.true_or, Bool.or_true, Bool.or_false, Bool.false_or] at hr
          simp only [EXA, Nat.reduceEqDiff, reduceIte, reduceCtorEq, Nat.reduceAdd, Nat.reduceLeDiff, Nat.reduceSub, Nat.reduceMul, Int.reduceEq, Int.reduceBEq, Int.reduceBNe, Int.reduceLT, Int.reduceLE, Nat.reduceLT, VX, readAt_some, lenE, h0, h2, h3, h4, hr, List.length_map]
theorem may2 (v : V) (h : v.kind = 2) : cR 80 [v.enc] = some (.bool v.fine) := by
  obtain ⟨r, hr⟩ : ∃ r, r = AV.bool v.fine := ⟨_, rfl⟩
  rw [← hr]
  rw [V.fine_eq] at hr
  have qe : (([] : Bs) == []) = true := rfl
  simp only [h, show ((2 : Int) = 0) = False by simp, show ((2 : Int) = 1) = False by simp, if_true, if_false, V.bare, V.n_mk, V.s_mk, V.l_mk, V.m_mk, i00, qe, Bool.true_and, numOk] at hr
  refine cR_of (F := F80) rfl ?_
  have q0 : ((2 : Int) == 0) = false := rfl
  have q1 : ((2 : Int) == 1) = false := rfl
  have q2 : ((2 : Int) == 2) = true := rfl
  simp only [S4Fa, EXA, Nat.reduceEqDiff, reduceIte, reduceCtorEq, Nat.reduceAdd, Nat.reduceLeDiff, Nat.reduceSub, Nat.reduceMul, Int.reduceEq, Int.reduceBEq, Int.reduceBNe, Int.reduceLT, Int.reduceLE, Nat.reduceLT, VX, readAt_some, h, q0, q1, q2, lenE, List.length_map]
  have hge : decide (v.n ≥ -9007199254740991) = decide (-9007199254740991 ≤ v.n) := rfl
  cases h0 : decide (-9007199254740991 ≤ v.n) with
  | false =>
    simp only [h0, Bool.and_self, Bool.true_and, Bool.false_and, Bool.and_false, Bool.and_true, Bool.or_self, Bool.true_or, Bool.or_true, Bool.or_false, Bool.false_or] at hr
    simp only [EXA, Nat.reduceEqDiff, reduceIte, reduceCtorEq, Nat.reduceAdd, Nat.reduceLeDiff, Nat.reduceSub, Nat.reduceMul, Int.reduceEq, Int.reduceBEq, Int.reduceBNe, Int.reduceLT, Int.reduceLE, Nat.reduceLT, VX, readAt_some, lenE, h0, hge, hr, List.length_map]
  | true =>
    cases h1 : decide (v.n ≤ 9007199254740991) with
    | false =>
      simp only [h0, h1, Bool.and_self, Bool.true_and, Bool.false_and, Bool.and_false, Bool.and_true, Bool.or_self, Bool.true_or, Bool.or_true, Bool.or_false, Bool.false_or] at hr
      simp only [EXA, Nat.reduceEqDiff, reduceIte, reduceCtorEq, Nat.reduceAdd, Nat.reduceLeDiff, Nat.reduceSub, Nat.reduceMul, Int.reduceEq, Int.reduceBEq, Int.reduceBNe, Int.reduceLT, Int.reduceLE, Nat.reduceLT, VX, readAt_some, lenE, h0, h1, hge, hr, List.length_map]
    | true =>
      cases h2 : v.s == [] with
      | false =>
        simp only [h0, h1, h2, Bool.and_self, Bool.true_and, Bool.false_and, Bool.and_false, Bool.and_true, Bool.or_self, Bool.true_or, Bool.or_true, Bool.or_false, Bool.false_or] at hr
        simp only [EXA, Nat.reduceEqDiff, reduceIte, reduceCtorEq, Nat.reduceAdd, Nat.reduceLeDiff, Nat.reduceSub, Nat.reduceMul, Int.reduceEq, Int.reduceBEq, Int.reduceBNe, Int.reduceLT, Int.reduceLE, Nat.reduceLT, VX, readAt_some, lenE, h0, h1, h2, hge, hr, List.length_map]
      | true =>
        cases h3 : v.l.isEmpty with
        | false =>
          simp only [h0, h1, h2, h3, Bool.and_self, Bool.true_and, Bool.false_and, Bool.and_false, Bool.and_true, Bool.or_self, Bool.true_or, Bool.or_true, Bool.or_false, Bool.false_or] at hr
          simp only [EXA, Nat.reduceEqDiff, reduceIte, reduceCtorEq, Nat.reduceAdd, Nat.reduceLeDiff, Nat.reduceSub, Nat.reduceMul, Int.reduceEq, Int.reduceBEq, Int.reduceBNe, Int.reduceLT, Int.reduceLE, Nat.reduceLT, VX, readAt_some, lenE, h0, h1, h2, h3, hge, hr, List.length_map]
        | true =>
          cases h4 : v.m.isEmpty with
          | false =>
            simp only [h0, h1, h2, h3, h4, Bool.and_self, Bool.true_and, Bool.false_and, Bool.and_false, Bool.and_true, Bool.or_self, Bool.true_or, Bool.or_true, Bool.or_false, Bool.false_or] at hr
            simp only [EXA, Nat.reduceEqDiff, reduceIte, reduceCtorEq, Nat.reduceAdd, Nat.reduceLeDiff, Nat.reduceSub, Nat.reduceMul, Int.reduceEq, Int.reduceBEq, Int.reduceBNe, Int.reduceLT, Int.reduceLE, Nat.reduceLT, VX, readAt_some, lenE, h0, h1, h2, h3, h4, hge, hr, List.length_map]
          | true =>
            simp only [h0, h1, h2, h3, h4, Bool.and_self, Bool.true_and, Bool.false_and, Bool.and_false, Bool.and_true, Bool.or_self, Bool.true_or, Bool.or_true, Bool.or_false, Bool.false_or] at hr
            simp only [EXA, Nat.reduceEqDiff, reduceIte, reduceCtorEq, Nat.reduceAdd, Nat.reduceLeDiff, Nat.reduceSub, Nat.reduceMul, Int.reduceEq, Int.reduceBEq, Int.reduceBNe, Int.reduceLT, Int.reduceLE, Nat.reduceLT, VX, readAt_some, lenE, h0, h1, h2, h3, h4, hge, hr, List.length_map]
theorem may3 (v : V) (h : v.kind = 3) (hb : v.s.length < big) : cR 80 [v.enc] = some (.bool v.fine) := by
  obtain ⟨r, hr⟩ : ∃ r, r = AV.bool v.fine := ⟨_, rfl⟩
  rw [← hr]
  rw [V.fine_eq] at hr
  have qe : (([] : Bs) == []) = true := rfl
  simp only [h, show ((3 : Int) = 0) = False by simp, show ((3 : Int) = 1) = False by simp, show ((3 : Int) = 2) = False by simp, if_true, if_false, V.bare, V.n_mk, V.s_mk, V.l_mk, V.m_mk, i00, qe, Bool.true_and, numOk] at hr
  refine cR_of (F := F80) rfl ?_
  have q0 : ((3 : Int) == 0) = false := rfl
  have q1 : ((3 : Int) == 1) = false := rfl
  have q2 : ((3 : Int) == 2) = false := rfl
  have q3 : ((3 : Int) == 3) = true := rfl
  simp only [S4Fa, EXA, Nat.reduceEqDiff, reduceIte, reduceCtorEq, Nat.reduceAdd, Nat.reduceLeDiff, Nat.reduceSub, Nat.reduceMul, Int.reduceEq, Int.reduceBEq, Int.reduceBNe, Int.reduceLT, Int.reduceLE, Nat.reduceLT, VX, readAt_some, h, q0, q1, q2, q3, lenE, List.length_map]
  have g := r_Good1 v.s hb
  cases h0 : v.n == 0 with
  | false =>
    simp only [h0, Bool.and_self, Bool.true_and, Bool.false_and, Bool.and_false, Bool.and_true, Bool.or_self, Bool.true_or, Bool.or_true, Bool.or_false, Bool.false_or] at hr
    simp only [EXA, Nat.reduceEqDiff, reduceIte, reduceCtorEq, Nat.reduceAdd, Nat.reduceLeDiff, Nat.reduceSub, Nat.reduceMul, Int.reduceEq, Int.reduceBEq, Int.reduceBNe, Int.reduceLT, Int.reduceLE, Nat.reduceLT, VX, readAt_some, lenE, h0, hr, List.length_map]
  | true =>
    cases h1 : vu v.s with
    | false =>
      rw [h1] at g
      simp only [h0, h1, Bool.and_self, Bool.true_and, Bool.false_and, Bool.and_false, Bool.and_true, Bool.or_self, Bool.true_or, Bool.or_true, Bool.or_false, Bool.false_or] at hr
      simp only [EXA, Nat.reduceEqDiff, reduceIte, reduceCtorEq, Nat.reduceAdd, Nat.reduceLeDiff, Nat.reduceSub, Nat.reduceMul, Int.reduceEq, Int.reduceBEq, Int.reduceBNe, Int.reduceLT, Int.reduceLE, Nat.reduceLT, VX, readAt_some, lenE, h0, h1, g, hr, List.length_map]
    | true =>
      rw [h1] at g
      cases h3 : v.l.isEmpty with
      | false =>
        simp only [h0, h1, h3, Bool.and_self, Bool.true_and, Bool.false_and, Bool.and_false, Bool.and_true, Bool.or_self, Bool.true_or, Bool.or_true, Bool.or_false, Bool.false_or] at hr
        simp only [EXA, Nat.reduceEqDiff, reduceIte, reduceCtorEq, Nat.reduceAdd, Nat.reduceLeDiff, Nat.reduceSub, Nat.reduceMul, Int.reduceEq, Int.reduceBEq, Int.reduceBNe, Int.reduceLT, Int.reduceLE, Nat.reduceLT, VX, readAt_some, lenE, h0, h1, h3, g, hr, List.length_map]
      | true =>
        cases h4 : v.m.isEmpty with
        | false =>
          simp only [h0, h1, h3, h4, Bool.and_self, Bool.true_and, Bool.false_and, Bool.and_false, Bool.and_true, Bool.or_self, Bool.true_or, Bool.or_true, Bool.or_false, Bool.false_or] at hr
          simp only [EXA, Nat.reduceEqDiff, reduceIte, reduceCtorEq, Nat.reduceAdd, Nat.reduceLeDiff, Nat.reduceSub, Nat.reduceMul, Int.reduceEq, Int.reduceBEq, Int.reduceBNe, Int.reduceLT, Int.reduceLE, Nat.reduceLT, VX, readAt_some, lenE, h0, h1, h3, h4, g, hr, List.length_map]
        | true =>
          simp only [h0, h1, h3, h4, Bool.and_self, Bool.true_and, Bool.false_and, Bool.and_false, Bool.and_true, Bool.or_self, Bool.true_or, Bool.or_true, Bool.or_false, Bool.false_or] at hr
          simp only [EXA, Nat.reduceEqDiff, reduceIte, reduceCtorEq, Nat.reduceAdd, Nat.reduceLeDiff, Nat.reduceSub, Nat.reduceMul, Int.reduceEq, Int.reduceBEq, Int.reduceBNe, Int.reduceLT, Int.reduceLE, Nat.reduceLT, VX, readAt_some, lenE, h0, h1, h3, h4, g, hr, List.length_map]
end Go.Ab
/- The document's: what a list, a map may be. -/
namespace Go.Ab
set_option linter.unusedSimpArgs false
set_option linter.defProp false
set_option maxHeartbeats 1000000
def S5Fa := And.intro @F80_0.eq_1 (And.intro @F80_1.eq_1 (And.intro @F80_2.eq_1 (And.intro @F80_3.eq_1 (And.intro @F80_4.eq_1 (And.intro @F80_5.eq_1 (And.intro @F80_6.eq_1 (And.intro @F80_7.eq_1 (And.intro @F80_8.eq_1 (And.intro @F80_9.eq_1 (And.intro @F80_10.eq_1 (And.intro @F80_11.eq_1 (And.intro @F80_12.eq_1 (And.intro @F80_13.eq_1 (And.intro @F80_14.eq_1 (And.intro @F80_15.eq_1 (And.intro @F80_16.eq_1 (And.intro @F80_17.eq_1 (And.intro @F80_18.eq_1 (And.intro @F80_19.eq_1 (And.intro @F80_20.eq_1 (And.intro @F80_21.eq_1 (And.intro @F80_22.eq_1 (And.intro @F80_23.eq_1 (And.intro @F80_24.eq_1 (And.intro @F80_25.eq_1 (And.intro @F80_26.eq_1 (And.intro @F80_27.eq_1 (And.intro @F80_28.eq_1 (And.intro @F80_29.eq_1 (And.intro @F80_30.eq_1 (And.intro @F80_31.eq_1 (And.intro @F80_32.eq_1 (And.intro @F80_33.eq_1 (And.intro @F80_34.eq_1 (And.intro @F80_35.eq_1 (And.intro @F80_36.eq_1 (And.intro @F80_37.eq_1 (And.intro @F80_38.eq_1 (And.intro @F80_39.eq_1 (And.intro @F80_40.eq_1 (And.intro @F80_41.eq_1 (And.intro @F80_42.eq_1 (And.intro @F80_43.eq_1 (And.intro @F80_44.eq_1 (And.intro @F80_45.eq_1 (And.intro @F80_46.eq_1 (And.intro @F80_47.eq_1 (And.intro @F80_48.eq_1 (And.intro @F80_49.eq_1 (And.intro @F80_50.eq_1 (And.intro @F80_51.eq_1 (And.intro @F80_52.eq_1 (And.intro @F80_53.eq_1 (And.intro @F80_54.eq_1 (And.intro @F80_55.eq_1 (And.intro @F80_56.eq_1 (And.intro @F80_57.eq_1 (And.intro @F80_58.eq_1 (And.intro @F80_59.eq_1 (And.intro @F80_60.eq_1 (And.intro @F80_61.eq_1 (And.intro @F80_62.eq_1 (And.intro @F80_63.eq_1 (And.intro @F80_64.eq_1 (And.intro @F80_65.eq_1 (And.intro @F80_66.eq_1 (And.intro @F80_67.eq_1 (And.intro @F80_68.eq_1 (And.intro @F80_69.eq_1 (And.intro @F80_70.eq_1 (And.intro @F80_71.eq_1 (And.intro @F80_72.eq_1 (And.intro @F80_73.eq_1 (And.intro @F80_74.eq_1 (And.intro @F80_75.eq_1 (And.intro @F80_76.eq_1 (And.intro @F80_77.eq_1 (And.intro @F80_78.eq_1 (And.intro @F80_79.eq_1 (And.intro @F80_80.eq_1 (And.intro @F80_81.eq_1 (And.intro @F80_82.eq_1 (And.intro @F80_83.eq_1 (And.intro @F80_84.eq_1 (And.intro @F80_85.eq_1 (And.intro @F80_86.eq_1 (And.intro @F80_87.eq_1 (And.intro @F80_88.eq_1 (And.intro @F80_89.eq_1 (And.intro @F80_90.eq_1 (And.intro @F80_91.eq_1 (And.intro @F80_92.eq_1 (@F80.eq_1)))))))))))))))))))))))))))))))))))))))))))))))))))))))))))))))))))))))))))))))))))))))))))))
def S5Fb := And.intro @F80_0.eq_1 (And.intro @F80_1.eq_1 (And.intro @F80_2.eq_1 (And.intro @F80_3.eq_1 (And.intro @F80_4.eq_1 (And.intro @F80_5.eq_1 (And.intro @F80_6.eq_1 (And.intro @F80_7.eq_1 (And.intro @F80_8.eq_1 (And.intro @F80_9.eq_1 (And.intro @F80_10.eq_1 (And.intro @F80_11.eq_1 (And.intro @F80_12.eq_1 (And.intro @F80_13.eq_1 (And.intro @F80_14.eq_1 (And.intro @F80_15.eq_1 (And.intro @F80_16.eq_1 (And.intro @F80_17.eq_1 (And.intro @F80_18.eq_1 (And.intro @F80_19.eq_1 (And.intro @F80_20.eq_1 (And.intro @F80_21.eq_1 (And.intro @F80_22.eq_1 (And.intro @F80_23.eq_1 (And.intro @F80_24.eq_1 (And.intro @F80_25.eq_1 (And.intro @F80_26.eq_1 (And.intro @F80_27.eq_1 (And.intro @F80_28.eq_1 (And.intro @F80_29.eq_1 (And.intro @F80_30.eq_1 (And.intro @F80_32.eq_1 (And.intro @F80_33.eq_1 (And.intro @F80_34.eq_1 (And.intro @F80_35.eq_1 (And.intro @F80_36.eq_1 (And.intro @F80_37.eq_1 (And.intro @F80_38.eq_1 (And.intro @F80_39.eq_1 (And.intro @F80_40.eq_1 (And.intro @F80_41.eq_1 (And.intro @F80_42.eq_1 (And.intro @F80_43.eq_1 (And.intro @F80_44.eq_1 (And.intro @F80_45.eq_1 (And.intro @F80_46.eq_1 (And.intro @F80_47.eq_1 (And.intro @F80_48.eq_1 (And.intro @F80_49.eq_1 (And.intro @F80_50.eq_1 (And.intro @F80_51.eq_1 (And.intro @F80_52.eq_1 (And.intro @F80_53.eq_1 (And.intro @F80_54.eq_1 (And.intro @F80_55.eq_1 (And.intro @F80_56.eq_1 (And.intro @F80_58.eq_1 (And.intro @F80_59.eq_1 (And.intro @F80_60.eq_1 (And.intro @F80_61.eq_1 (And.intro @F80_62.eq_1 (And.intro @F80_63.eq_1 (And.intro @F80_64.eq_1 (And.intro @F80_65.eq_1 (And.intro @F80_66.eq_1 (And.intro @F80_67.eq_1 (And.intro @F80_68.eq_1 (And.intro @F80_69.eq_1 (And.intro @F80_70.eq_1 (And.intro @F80_71.eq_1 (And.intro @F80_72.eq_1 (And.intro @F80_73.eq_1 (And.intro @F80_74.eq_1 (And.intro @F80_75.eq_1 (And.intro @F80_76.eq_1 (And.intro @F80_77.eq_1 (And.intro @F80_78.eq_1 (And.intro @F80_79.eq_1 (And.intro @F80_80.eq_1 (And.intro @F80_81.eq_1 (And.intro @F80_82.eq_1 (And.intro @F80_83.eq_1 (And.intro @F80_84.eq_1 (And.intro @F80_85.eq_1 (And.intro @F80_86.eq_1 (And.intro @F80_87.eq_1 (And.intro @F80_88.eq_1 (And.intro @F80_89.eq_1 (And.intro @F80_90.eq_1 (And.intro @F80_91.eq_1 (And.intro @F80_92.eq_1 (@F80.eq_1)))))))))))))))))))))))))))))))))))))))))))))))))))))))))))))))))))))))))))))))))))))))))))
set_option maxRecDepth 100000
theorem may4 (v : V) (h : v.kind = 4) (hb : v.sz < big) (ih : ∀ x ∈ v.l, cR 80 [x.enc] = some (.bool x.fine)) : cR 80 [v.enc] = some (.bool v.fine) := by
  obtain ⟨r, hr⟩ : ∃ r, r = AV.bool v.fine := ⟨_, rfl⟩
  rw [← hr]
  rw [V.fine_eq] at hr
  have hlz := l_len_sz v
  unfold big at hb
  have qe : (([] : List V)).isEmpty = true := rfl
  simp only [h, show ((4 : Int) = 0) = False by simp, show ((4 : Int) = 1) = False by simp, show ((4 : Int) = 2) = False by simp, show ((4 : Int) = 3) = False by simp, if_true, if_false, V.bare, V.n_mk, V.s_mk, V.l_mk, V.m_mk, qe, Bool.true_and] at hr
  have q0 : ((4 : Int) == 0) = false := rfl
  have q1 : ((4 : Int) == 1) = false := rfl
  have q2 : ((4 : Int) == 2) = false := rfl
  have q3 : ((4 : Int) == 3) = false := rfl
  have q4 : ((4 : Int) == 4) = true := rfl
  refine cR_of (F := F80) rfl ?_
  simp only [S5Fb, ex_loop, EXA, Nat.reduceEqDiff, reduceIte, reduceCtorEq, Nat.reduceAdd, Nat.reduceLeDiff, Nat.reduceSub, Nat.reduceMul, Int.reduceEq, Int.reduceBEq, Int.reduceBNe, Int.reduceLT, Int.reduceLE, Nat.reduceLT, VX, readAt_some, h, q0, q1, q2, q3, q4]
  refine ex_while (S := Nat) (fun j => [(1, .vptr [.int .i64 4, .int .i64 v.n, .str v.s, .vsl (v.l.map V.enc) none, .vsl (v.m.map memE) none] 0), (3, .int .i64 (j : Int))]) (fun _ => .empty) (fun j => v.l.length - j) (fun j => fineL (v.l.drop j) = fineL v.l) ?_ 0 rfl
  intro b j hj ih2
  by_cases hlt : j < v.l.length
  · obtain ⟨x, hx⟩ := get_lt hlt
    have hidx := idx_map (f := V.enc) (sz := 5) (c := none) hx (by simp [V.enc_cells])
    have hcond := dlt hlt
    have hw := wsucc hlt (by omega)
    have hcall := ih x (List.mem_of_getElem? hx)
    rw [drop_cons hx, fineL] at hj
    cases hf : x.fine with
    | false =>
      rw [hf] at hcall
      rw [hf, Bool.false_and] at hj
      rw [← hj, Bool.and_false] at hr
      simp only [S5Fa, EXA, Nat.reduceEqDiff, reduceIte, reduceCtorEq, Nat.reduceAdd, Nat.reduceLeDiff, Nat.reduceSub, Nat.reduceMul, Int.reduceEq, Int.reduceBEq, Int.reduceBNe, Int.reduceLT, Int.reduceLE, Nat.reduceLT, VX, readAt_some, hcond, hidx, hcall, hr]
    | true =>
      rw [hf] at hcall
      rw [hf, Bool.true_and] at hj
      simp only [S5Fa, EXA, Nat.reduceEqDiff, reduceIte, reduceCtorEq, Nat.reduceAdd, Nat.reduceLeDiff, Nat.reduceSub, Nat.reduceMul, Int.reduceEq, Int.reduceBEq, Int.reduceBNe, Int.reduceLT, Int.reduceLE, Nat.reduceLT, VX, readAt_some, hcond, hidx, hcall, hw]
      exact ih2 (j + 1) _ _ (by omega) hj rfl rfl
  · have hcond := dge (Nat.not_lt.1 hlt)
    rw [List.drop_eq_nil_of_le (by omega), fineL] at hj
    rw [← hj, Bool.and_true] at hr
    simp only [S5Fa, EXA, Nat.reduceEqDiff, reduceIte, reduceCtorEq, Nat.reduceAdd, Nat.reduceLeDiff, Nat.reduceSub, Nat.reduceMul, Int.reduceEq, Int.reduceBEq, Int.reduceBNe, Int.reduceLT, Int.reduceLE, Nat.reduceLT, VX, readAt_some, hcond, lenE, List.length_map]
    cases h1 : v.n == 0 with
    | false =>
      simp only [h1, Bool.and_self, Bool.true_and, Bool.false_and, Bool.and_false, Bool.and_true, Bool.or_self, Bool.true_or, Bool.or_true, Bool.or_false, Bool.false_or] at hr
      simp only [EXA, Nat.reduceEqDiff, reduceIte, reduceCtorEq, Nat.reduceAdd, Nat.reduceLeDiff, Nat.reduceSub, Nat.reduceMul, Int.reduceEq, Int.reduceBEq, Int.reduceBNe, Int.reduceLT, Int.reduceLE, Nat.reduceLT, VX, readAt_some, lenE, h1, hr, List.length_map]
    | true =>
      cases h2 : v.s == [] with
      | false =>
        simp only [h1, h2, Bool.and_self, Bool.true_and, Bool.false_and, Bool.and_false, Bool.and_true, Bool.or_self, Bool.true_or, Bool.or_true, Bool.or_false, Bool.false_or] at hr
        simp only [EXA, Nat.reduceEqDiff, reduceIte, reduceCtorEq, Nat.reduceAdd, Nat.reduceLeDiff, Nat.reduceSub, Nat.reduceMul, Int.reduceEq, Int.reduceBEq, Int.reduceBNe, Int.reduceLT, Int.reduceLE, Nat.reduceLT, VX, readAt_some, lenE, h1, h2, hr, List.length_map]
      | true =>
        cases h4 : v.m.isEmpty with
        | false =>
          simp only [h1, h2, h4, Bool.and_self, Bool.true_and, Bool.false_and, Bool.and_false, Bool.and_true, Bool.or_self, Bool.true_or, Bool.or_true, Bool.or_false, Bool.false_or] at hr
          simp only [EXA, Nat.reduceEqDiff, reduceIte, reduceCtorEq, Nat.reduceAdd, Nat.reduceLeDiff, Nat.reduceSub, Nat.reduceMul, Int.reduceEq, Int.reduceBEq, Int.reduceBNe, Int.reduceLT, Int.reduceLE, Nat.reduceLT, VX, readAt_some, lenE, h1, h2, h4, hr, List.length_map]
        | true =>
          simp only [h1, h2, h4, Bool.and_self, Bool.true_and, Bool.false_and, Bool.and_false, Bool.and_true, Bool.or_self, Bool.true_or, Bool.or_true, Bool.or_false, Bool.false_or] at hr
          simp only [EXA, Nat.reduceEqDiff, reduceIte, reduceCtorEq, Nat.reduceAdd, Nat.reduceLeDiff, Nat.reduceSub, Nat.reduceMul, Int.reduceEq, Int.reduceBEq, Int.reduceBNe, Int.reduceLT, Int.reduceLE, Nat.reduceLT, VX, readAt_some, lenE, h1, h2, h4, hr, List.length_map]
theorem mayNo (v : V) (h0 : v.kind ≠ 0) (h1 : v.kind ≠ 1) (h2 : v.kind ≠ 2) (h3 : v.kind ≠ 3) (h4 : v.kind ≠ 4) (h5 : v.kind ≠ 5) : cR 80 [v.enc] = some (.bool v.fine) := by
  have hf : v.fine = false := by
    rw [V.fine_eq, if_neg h0, if_neg h1, if_neg h2, if_neg h3, if_neg h4, if_neg h5]
  refine cR_of (F := F80) rfl ?_
  simp only [S5Fb, EXA, Nat.reduceEqDiff, reduceIte, reduceCtorEq, Nat.reduceAdd, Nat.reduceLeDiff, Nat.reduceSub, Nat.reduceMul, Int.reduceEq, Int.reduceBEq, Int.reduceBNe, Int.reduceLT, Int.reduceLE, Nat.reduceLT, VX, readAt_some, qn h0, qn h1, qn h2, qn h3, qn h4, qn h5, hf]
end Go.Ab
/- The document's: what a map may be. -/
namespace Go.Ab
set_option linter.unusedSimpArgs false
set_option linter.defProp false
set_option maxHeartbeats 1000000
def S6Fa := And.intro @F80_0.eq_1 (And.intro @F80_1.eq_1 (And.intro @F80_2.eq_1 (And.intro @F80_3.eq_1 (And.intro @F80_4.eq_1 (And.intro @F80_5.eq_1 (And.intro @F80_6.eq_1 (And.intro @F80_7.eq_1 (And.intro @F80_8.eq_1 (And.intro @F80_9.eq_1 (And.intro @F80_10.eq_1 (And.intro @F80_11.eq_1 (And.intro @F80_12.eq_1 (And.intro @F80_13.eq_1 (And.intro @F80_14.eq_1 (And.intro @F80_15.eq_1 (And.intro @F80_16.eq_1 (And.intro @F80_17.eq_1 (And.intro @F80_18.eq_1 (And.intro @F80_19.eq_1 (And.intro @F80_20.eq_1 (And.intro @F80_21.eq_1 (And.intro @F80_22.eq_1 (And.intro @F80_23.eq_1 (And.intro @F80_24.eq_1 (And.intro @F80_25.eq_1 (And.intro @F80_26.eq_1 (And.intro @F80_27.eq_1 (And.intro @F80_28.eq_1 (And.intro @F80_29.eq_1 (And.intro @F80_30.eq_1 (And.intro @F80_31.eq_1 (And.intro @F80_32.eq_1 (And.intro @F80_33.eq_1 (And.intro @F80_34.eq_1 (And.intro @F80_35.eq_1 (And.intro @F80_36.eq_1 (And.intro @F80_37.eq_1 (And.intro @F80_38.eq_1 (And.intro @F80_39.eq_1 (And.intro @F80_40.eq_1 (And.intro @F80_41.eq_1 (And.intro @F80_42.eq_1 (And.intro @F80_43.eq_1 (And.intro @F80_44.eq_1 (And.intro @F80_45.eq_1 (And.intro @F80_46.eq_1 (And.intro @F80_47.eq_1 (And.intro @F80_48.eq_1 (And.intro @F80_49.eq_1 (And.intro @F80_50.eq_1 (And.intro @F80_51.eq_1 (And.intro @F80_52.eq_1 (And.intro @F80_53.eq_1 (And.intro @F80_54.eq_1 (And.intro @F80_55.eq_1 (And.intro @F80_56.eq_1 (And.intro @F80_57.eq_1 (And.intro @F80_58.eq_1 (And.intro @F80_59.eq_1 (And.intro @F80_60.eq_1 (And.intro @F80_61.eq_1 (And.intro @F80_62.eq_1 (And.intro @F80_63.eq_1 (And.intro @F80_64.eq_1 (And.intro @F80_65.eq_1 (And.intro @F80_66.eq_1 (And.intro @F80_67.eq_1 (And.intro @F80_68.eq_1 (And.intro @F80_69.eq_1 (And.intro @F80_70.eq_1 (And.intro @F80_71.eq_1 (And.intro @F80_72.eq_1 (And.intro @F80_73.eq_1 (And.intro @F80_74.eq_1 (And.intro @F80_75.eq_1 (And.intro @F80_76.eq_1 (And.intro @F80_77.eq_1 (And.intro @F80_78.eq_1 (And.intro @F80_79.eq_1 (And.intro @F80_80.eq_1 (And.intro @F80_81.eq_1 (And.intro @F80_82.eq_1 (And.intro @F80_83.eq_1 (And.intro @F80_84.eq_1 (And.intro @F80_85.eq_1 (And.intro @F80_86.eq_1 (And.intro @F80_87.eq_1 (And.intro @F80_88.eq_1 (And.intro @F80_89.eq_1 (And.intro @F80_90.eq_1 (And.intro @F80_91.eq_1 (And.intro @F80_92.eq_1 (@F80.eq_1)))))))))))))))))))))))))))))))))))))))))))))))))))))))))))))))))))))))))))))))))))))))))))))
set_option maxRecDepth 100000
theorem leq_not (a b : Bs) : (bytesLess a b || a == b) = !(bytesLess b a) := by
  cases h : bytesLess b a with
  | true =>
    have h1 := bl_asymm h
    have h2 : (a == b) = false := by
      rw [beq_eq_false_iff_ne]; rintro rfl; rw [bl_irrefl] at h; cases h
    rw [h1, h2]; rfl
  | false =>
    cases h1 : bytesLess a b with
    | true => rfl
    | false => have := bl_total h1 h; subst this; simp
theorem may5 (v : V) (h : v.kind = 5) (hb : v.sz < big) (ih : ∀ x ∈ v.m, cR 80 [x.2.enc] = some (.bool x.2.fine)) : cR 80 [v.enc] = some (.bool v.fine) := by
  obtain ⟨r, hr⟩ : ∃ r, r = AV.bool v.fine := ⟨_, rfl⟩
  rw [← hr]
  rw [V.fine_eq] at hr
  have hmz := m_len_sz v
  have hsz := v.sz_eq
  unfold big at hb
  have qe : (([] : List Mem)).isEmpty = true := rfl
  simp only [h, show ((5 : Int) = 0) = False by simp, show ((5 : Int) = 1) = False by simp, show ((5 : Int) = 2) = False by simp, show ((5 : Int) = 3) = False by simp, show ((5 : Int) = 4) = False by simp, if_true, if_false, V.bare, V.n_mk, V.s_mk, V.l_mk, V.m_mk, qe, Bool.and_true] at hr
  have q0 : ((5 : Int) == 0) = false := rfl
  have q1 : ((5 : Int) == 1) = false := rfl
  have q2 : ((5 : Int) == 2) = false := rfl
  have q3 : ((5 : Int) == 3) = false := rfl
  have q4 : ((5 : Int) == 4) = false := rfl
  have q5 : ((5 : Int) == 5) = true := rfl
  refine cR_of (F := F80) rfl ?_
  simp only [F80_0, F80_1, F80_2, F80_3, F80_4, F80_5, F80_6, F80_7, F80_8, F80_9, F80_10, F80_11, F80_12, F80_13, F80_14, F80_15, F80_16, F80_17, F80_18, F80_19, F80_20, F80_21, F80_22, F80_23, F80_24, F80_25, F80_26, F80_27, F80_28, F80_29, F80_30, F80_32, F80_33, F80_34, F80_35, F80_36, F80_37, F80_38, F80_39, F80_40, F80_41, F80_42, F80_43, F80_44, F80_45, F80_46, F80_47, F80_48, F80_49, F80_50, F80_51, F80_52, F80_53, F80_54, F80_55, F80_56, F80_58, F80_59, F80_60, F80_61, F80_62, F80_63, F80_64, F80_65, F80_66, F80_67, F80_68, F80_69, F80_70, F80_71, F80_72, F80_73, F80_74, F80_75, F80_76, F80_77, F80_78, F80_79, F80_80, F80_81, F80_82, F80_83, F80_84, F80_85, F80_86, F80_87, F80_88, F80_89, F80_90, F80_91, F80_92, F80, ex_loop, EXA, Nat.reduceEqDiff, reduceIte, reduceCtorEq, Nat.reduceAdd, Nat.reduceLeDiff, Nat.reduceSub, Nat.reduceMul, Int.reduceEq, Int.reduceBEq, Int.reduceBNe, Int.reduceLT, Int.reduceLE, Nat.reduceLT, VX, readAt_some, h, q0, q1, q2, q3, q4, q5]
  refine ex_while (S := Nat) (fun j => [(1, .vptr [.int .i64 5, .int .i64 v.n, .str v.s, .vsl (v.l.map V.enc) none, .vsl (v.m.map memE) none] 0), (4, .int .i64 (j : Int))]) (fun _ => .empty) (fun j => v.m.length - j) (fun j => fineM (prevK v.m j) (v.m.drop j) = fineM none v.m) ?_ 0 rfl
  intro b j hj ih2
  by_cases hlt : j < v.m.length
  · obtain ⟨⟨key, x⟩, hx⟩ := get_lt hlt
    have hidx := idx_map (f := memE) (sz := 6) (c := none) hx (by simp [memE_cells])
    have hcond := dlt hlt
    have hw := wsucc hlt (by omega)
    have hcall := ih _ (List.mem_of_getElem? hx)
    have hmem := szM_mem (List.mem_of_getElem? hx)
    simp only at hcall hmem
    have hg := r_Good1 key (by omega)
    rw [drop_cons hx, fineM_cons] at hj
    cases g1 : vu key with
    | false =>
      rw [g1] at hg
      rw [g1, Bool.false_and] at hj
      rw [← hj, Bool.and_false] at hr
      simp only [S6Fa, EXA, Nat.reduceEqDiff, reduceIte, reduceCtorEq, Nat.reduceAdd, Nat.reduceLeDiff, Nat.reduceSub, Nat.reduceMul, Int.reduceEq, Int.reduceBEq, Int.reduceBNe, Int.reduceLT, Int.reduceLE, Nat.reduceLT, VX, readAt_some, hcond, hidx, hg, hr]
    | true =>
    rw [g1] at hg
    rw [g1, Bool.true_and] at hj
    by_cases h0 : j = 0
    · subst h0
      have d0 : decide (((0 : Nat) : Int) > 0) = false := rfl
      have hp : okP (prevK v.m 0) key = true := rfl
      rw [hp, Bool.true_and] at hj
      cases hf : x.fine with
      | false =>
        rw [hf] at hcall
        rw [hf, Bool.false_and] at hj
        rw [← hj, Bool.and_false] at hr
        simp only [S6Fa, EXA, Nat.reduceEqDiff, reduceIte, reduceCtorEq, Nat.reduceAdd, Nat.reduceLeDiff, Nat.reduceSub, Nat.reduceMul, Int.reduceEq, Int.reduceBEq, Int.reduceBNe, Int.reduceLT, Int.reduceLE, Nat.reduceLT, VX, readAt_some, hcond, hidx, hg, d0, hcall, hr]
      | true =>
        rw [hf] at hcall
        rw [hf, Bool.true_and] at hj
        simp only [S6Fa, EXA, Nat.reduceEqDiff, reduceIte, reduceCtorEq, Nat.reduceAdd, Nat.reduceLeDiff, Nat.reduceSub, Nat.reduceMul, Int.reduceEq, Int.reduceBEq, Int.reduceBNe, Int.reduceLT, Int.reduceLE, Nat.reduceLT, VX, readAt_some, hcond, hidx, hg, d0, hcall, hw]
        exact ih2 1 _ _ (by omega) (by rw [prevK_succ hx]; exact hj) rfl rfl
    · obtain ⟨⟨pk, px⟩, hpx⟩ := get_lt (l := v.m) (j := j - 1) (by omega)
      have hidx2 := idx_map (f := memE) (sz := 6) (c := none) hpx (by simp [memE_cells])
      have d0 : decide ((j : Int) > 0) = true := by simp; omega
      have hwp := wpred (j := j) (by omega) (by omega)
      have hp : okP (prevK v.m j) key = bytesLess pk key := by simp [prevK, h0, hpx, okP]
      rw [hp] at hj
      have hle : (bytesLess key pk || key == pk) = !(bytesLess pk key) := leq_not key pk
      cases hl : bytesLess pk key with
      | false =>
        rw [hl, Bool.false_and] at hj
        rw [← hj, Bool.and_false] at hr
        simp only [S6Fa, EXA, Nat.reduceEqDiff, reduceIte, reduceCtorEq, Nat.reduceAdd, Nat.reduceLeDiff, Nat.reduceSub, Nat.reduceMul, Int.reduceEq, Int.reduceBEq, Int.reduceBNe, Int.reduceLT, Int.reduceLE, Nat.reduceLT, VX, readAt_some, hcond, hidx, hg, d0, hwp, hidx2, hle, hl, Bool.not_false, hr]
      | true =>
      rw [hl, Bool.true_and] at hj
      cases hf : x.fine with
      | false =>
        rw [hf] at hcall
        rw [hf, Bool.false_and] at hj
        rw [← hj, Bool.and_false] at hr
        simp only [S6Fa, EXA, Nat.reduceEqDiff, reduceIte, reduceCtorEq, Nat.reduceAdd, Nat.reduceLeDiff, Nat.reduceSub, Nat.reduceMul, Int.reduceEq, Int.reduceBEq, Int.reduceBNe, Int.reduceLT, Int.reduceLE, Nat.reduceLT, VX, readAt_some, hcond, hidx, hg, d0, hwp, hidx2, hle, hl, Bool.not_true, hcall, hr]
      | true =>
        rw [hf] at hcall
        rw [hf, Bool.true_and] at hj
        simp only [S6Fa, EXA, Nat.reduceEqDiff, reduceIte, reduceCtorEq, Nat.reduceAdd, Nat.reduceLeDiff, Nat.reduceSub, Nat.reduceMul, Int.reduceEq, Int.reduceBEq, Int.reduceBNe, Int.reduceLT, Int.reduceLE, Nat.reduceLT, VX, readAt_some, hcond, hidx, hg, d0, hwp, hidx2, hle, hl, Bool.not_true, hcall, hw]
        exact ih2 (j + 1) _ _ (by omega) (by rw [prevK_succ hx]; exact hj) rfl rfl
  · have hcond := dge (Nat.not_lt.1 hlt)
    rw [List.drop_eq_nil_of_le (by omega), fineM] at hj
    rw [← hj, Bool.and_true] at hr
    simp only [S6Fa, EXA, Nat.reduceEqDiff, reduceIte, reduceCtorEq, Nat.reduceAdd, Nat.reduceLeDiff, Nat.reduceSub, Nat.reduceMul, Int.reduceEq, Int.reduceBEq, Int.reduceBNe, Int.reduceLT, Int.reduceLE, Nat.reduceLT, VX, readAt_some, hcond, lenE, List.length_map]
    cases h1 : v.n == 0 with
    | false =>
      simp only [h1, Bool.and_self, Bool.true_and, Bool.false_and, Bool.and_false, Bool.and_true, Bool.or_self, Bool.true_or, Bool.or_true, Bool.or_false, Bool.false_or] at hr
      simp only [EXA, Nat.reduceEqDiff, reduceIte, reduceCtorEq, Nat.reduceAdd, Nat.reduceLeDiff, Nat.reduceSub, Nat.reduceMul, Int.reduceEq, Int.reduceBEq, Int.reduceBNe, Int.reduceLT, Int.reduceLE, Nat.reduceLT, VX, readAt_some, lenE, h1, hr, List.length_map]
    | true =>
      cases h2 : v.s == [] with
      | false =>
        simp only [h1, h2, Bool.and_self, Bool.true_and, Bool.false_and, Bool.and_false, Bool.and_true, Bool.or_self, Bool.true_or, Bool.or_true, Bool.or_false, Bool.false_or] at hr
        simp only [EXA, Nat.reduceEqDiff, reduceIte, reduceCtorEq, Nat.reduceAdd, Nat.reduceLeDiff, Nat.reduceSub, Nat.reduceMul, Int.reduceEq, Int.reduceBEq, Int.reduceBNe, Int.reduceLT, Int.reduceLE, Nat.reduceLT, VX, readAt_some, lenE, h1, h2, hr, List.length_map]
      | true =>
        cases h3 : v.l.isEmpty with
        | false =>
          simp only [h1, h2, h3, Bool.and_self, Bool.true_and, Bool.false_and, Bool.and_false, Bool.and_true, Bool.or_self, Bool.true_or, Bool.or_true, Bool.or_false, Bool.false_or] at hr
          simp only [EXA, Nat.reduceEqDiff, reduceIte, reduceCtorEq, Nat.reduceAdd, Nat.reduceLeDiff, Nat.reduceSub, Nat.reduceMul, Int.reduceEq, Int.reduceBEq, Int.reduceBNe, Int.reduceLT, Int.reduceLE, Nat.reduceLT, VX, readAt_some, lenE, h1, h2, h3, hr, List.length_map]
        | true =>
          simp only [h1, h2, h3, Bool.and_self, Bool.true_and, Bool.false_and, Bool.and_false, Bool.and_true, Bool.or_self, Bool.true_or, Bool.or_true, Bool.or_false, Bool.false_or] at hr
          simp only [EXA, Nat.reduceEqDiff, reduceIte, reduceCtorEq, Nat.reduceAdd, Nat.reduceLeDiff, Nat.reduceSub, Nat.reduceMul, Int.reduceEq, Int.reduceBEq, Int.reduceBNe, Int.reduceLT, Int.reduceLE, Nat.reduceLT, VX, readAt_some, lenE, h1, h2, h3, hr, List.length_map]
end Go.Ab
/- What is the same is found the same. -/
namespace Go.Ab
set_option linter.unusedSimpArgs false
set_option linter.defProp false
set_option maxHeartbeats 1000000
def S2Fa := And.intro @F11_0.eq_1 (And.intro @F11_1.eq_1 (And.intro @F11_2.eq_1 (And.intro @F11_3.eq_1 (And.intro @F11_4.eq_1 (And.intro @F11_5.eq_1 (@F11.eq_1))))))
def S2Fc := And.intro @F35_0.eq_1 (And.intro @F35_1.eq_1 (And.intro @F35_2.eq_1 (And.intro @F35_3.eq_1 (And.intro @F35_4.eq_1 (And.intro @F35_5.eq_1 (And.intro @F35_6.eq_1 (And.intro @F35_7.eq_1 (And.intro @F35_8.eq_1 (And.intro @F35_9.eq_1 (And.intro @F35_10.eq_1 (And.intro @F35_11.eq_1 (And.intro @F35_12.eq_1 (And.intro @F35_13.eq_1 (And.intro @F35_14.eq_1 (And.intro @F35_15.eq_1 (And.intro @F35_16.eq_1 (And.intro @F35_17.eq_1 (And.intro @F35_18.eq_1 (And.intro @F35_19.eq_1 (And.intro @F35_20.eq_1 (And.intro @F35_21.eq_1 (And.intro @F35_22.eq_1 (And.intro @F35_23.eq_1 (And.intro @F35_24.eq_1 (And.intro @F35_25.eq_1 (And.intro @F35_26.eq_1 (And.intro @F35_27.eq_1 (And.intro @F35_28.eq_1 (And.intro @F35_29.eq_1 (And.intro @F35_30.eq_1 (And.intro @F35_31.eq_1 (And.intro @F35_32.eq_1 (And.intro @F35_33.eq_1 (And.intro @F35_34.eq_1 (And.intro @F35_35.eq_1 (And.intro @F35_36.eq_1 (And.intro @F35_37.eq_1 (And.intro @F35_38.eq_1 (And.intro @F35_39.eq_1 (And.intro @F35_40.eq_1 (And.intro @F35_41.eq_1 (And.intro @F35_42.eq_1 (And.intro @F35_43.eq_1 (And.intro @F35_44.eq_1 (And.intro @F35_45.eq_1 (And.intro @F35_46.eq_1 (And.intro @F35_47.eq_1 (And.intro @F35_48.eq_1 (And.intro @F35_49.eq_1 (And.intro @F35_50.eq_1 (And.intro @F35_51.eq_1 (And.intro @F35_52.eq_1 (And.intro @F35_53.eq_1 (And.intro @F35_54.eq_1 (And.intro @F35_55.eq_1 (And.intro @F35_56.eq_1 (And.intro @F35_57.eq_1 (And.intro @F35_58.eq_1 (@F35.eq_1)))))))))))))))))))))))))))))))))))))))))))))))))))))))))))
def S2Ff := And.intro @F35_0.eq_1 (And.intro @F35_1.eq_1 (And.intro @F35_2.eq_1 (And.intro @F35_3.eq_1 (And.intro @F35_4.eq_1 (And.intro @F35_5.eq_1 (And.intro @F35_6.eq_1 (And.intro @F35_7.eq_1 (And.intro @F35_8.eq_1 (And.intro @F35_9.eq_1 (And.intro @F35_10.eq_1 (And.intro @F35_11.eq_1 (And.intro @F35_12.eq_1 (And.intro @F35_13.eq_1 (And.intro @F35_14.eq_1 (And.intro @F35_15.eq_1 (And.intro @F35_16.eq_1 (And.intro @F35_17.eq_1 (And.intro @F35_18.eq_1 (And.intro @F35_19.eq_1 (And.intro @F35_20.eq_1 (And.intro @F35_21.eq_1 (And.intro @F35_22.eq_1 (And.intro @F35_23.eq_1 (And.intro @F35_24.eq_1 (And.intro @F35_25.eq_1 (And.intro @F35_26.eq_1 (And.intro @F35_27.eq_1 (And.intro @F35_28.eq_1 (And.intro @F35_29.eq_1 (And.intro @F35_30.eq_1 (And.intro @F35_31.eq_1 (And.intro @F35_32.eq_1 (And.intro @F35_33.eq_1 (And.intro @F35_34.eq_1 (And.intro @F35_35.eq_1 (And.intro @F35_36.eq_1 (And.intro @F35_37.eq_1 (And.intro @F35_38.eq_1 (And.intro @F35_39.eq_1 (And.intro @F35_40.eq_1 (And.intro @F35_41.eq_1 (And.intro @F35_42.eq_1 (And.intro @F35_43.eq_1 (And.intro @F35_44.eq_1 (And.intro @F35_45.eq_1 (And.intro @F35_46.eq_1 (And.intro @F35_47.eq_1 (And.intro @F35_48.eq_1 (And.intro @F35_49.eq_1 (And.intro @F35_50.eq_1 (And.intro @F35_51.eq_1 (And.intro @F35_53.eq_1 (And.intro @F35_54.eq_1 (And.intro @F35_55.eq_1 (And.intro @F35_56.eq_1 (And.intro @F35_57.eq_1 (And.intro @F35_58.eq_1 (@F35.eq_1))))))))))))))))))))))))))))))))))))))))))))))))))))))))))
set_option maxRecDepth 100000
theorem bsB (s : Bs) : (s == s) = true := by simp
theorem bsN (s : Bs) : (!(s == s)) = false := by simp
theorem intB (n : Int) : (n == n) = true := by simp
theorem intN (n : Int) : (n != n) = false := by simp
theorem natN (n : Nat) : (!decide (n = n)) = false := by simp
theorem boolB (n : Bool) : (n == n) = true := by simp
theorem same_tail (v : V) (σ : Store) (hb : v.sz < big) (ih : ∀ x ∈ v.m, cR 35 [x.2.enc, x.2.enc] = some (.bool true)) {r : AV} (hr : r = .bool true) :
    Ex ipU gU [.code F35_52] [(2, .vptr [.int .i64 v.kind, .int .i64 v.n, .str v.s, .vsl (v.l.map V.enc) none, .vsl (v.m.map memE) none] 0), (3, .vptr [.int .i64 v.kind, .int .i64 v.n, .str v.s, .vsl (v.l.map V.enc) none, .vsl (v.m.map memE) none] 0)] σ fun fr' σ1 => (resAll fr' σ1 F35.res).bind (rbE σ1) = some r := by
  have hm := m_len_sz v
  unfold big at hb
  simp only [F35_0, F35_1, F35_2, F35_3, F35_4, F35_5, F35_6, F35_7, F35_8, F35_9, F35_10, F35_11, F35_12, F35_13, F35_14, F35_15, F35_16, F35_17, F35_18, F35_19, F35_20, F35_21, F35_22, F35_23, F35_24, F35_25, F35_26, F35_27, F35_28, F35_29, F35_30, F35_31, F35_32, F35_33, F35_34, F35_35, F35_36, F35_37, F35_38, F35_39, F35_40, F35_41, F35_42, F35_43, F35_45, F35_46, F35_47, F35_48, F35_49, F35_50, F35_51, F35_52, F35_53, F35_54, F35_55, F35_56, F35_57, F35_58, F35, ex_loop, EXA, Nat.reduceEqDiff, reduceIte, reduceCtorEq, Nat.reduceAdd, Nat.reduceLeDiff, Nat.reduceSub, Nat.reduceMul, Int.reduceEq, Int.reduceBEq, Int.reduceBNe, Int.reduceLT, Int.reduceLE, Nat.reduceLT, VX, readAt_some]
  refine ex_while (S := Nat) (fun j => [(2, .vptr [.int .i64 v.kind, .int .i64 v.n, .str v.s, .vsl (v.l.map V.enc) none, .vsl (v.m.map memE) none] 0), (3, .vptr [.int .i64 v.kind, .int .i64 v.n, .str v.s, .vsl (v.l.map V.enc) none, .vsl (v.m.map memE) none] 0), (6, .int .i64 (j : Int))]) (fun _ => σ) (fun j => v.m.length - j) (fun _ => True) ?_ 0 trivial
  intro b j _ ih2
  by_cases hlt : j < v.m.length
  · obtain ⟨x, hx⟩ := get_lt hlt
    have hidx := idx_map (f := memE) (sz := 6) (c := none) hx (by simp [memE_cells])
    have hcond := dlt hlt
    have hw := wsucc hlt (by omega)
    have hcall := ih x (List.mem_of_getElem? hx)
    simp only [S2Fc, EXA, Nat.reduceEqDiff, reduceIte, reduceCtorEq, Nat.reduceAdd, Nat.reduceLeDiff, Nat.reduceSub, Nat.reduceMul, Int.reduceEq, Int.reduceBEq, Int.reduceBNe, Int.reduceLT, Int.reduceLE, Nat.reduceLT, VX, readAt_some, hcond, hidx, bsN, bsB, hcall, hw]
    exact ih2 (j + 1) _ _ (by omega) trivial rfl rfl
  · have hcond := dge (Nat.not_lt.1 hlt)
    simp only [S2Fc, EXA, Nat.reduceEqDiff, reduceIte, reduceCtorEq, Nat.reduceAdd, Nat.reduceLeDiff, Nat.reduceSub, Nat.reduceMul, Int.reduceEq, Int.reduceBEq, Int.reduceBNe, Int.reduceLT, Int.reduceLE, Nat.reduceLT, VX, readAt_some, hcond, hr]
theorem r_sameN : ∀ (n : Nat) (v : V), v.sz < n → v.sz < big → cR 35 [v.enc, v.enc] = some (.bool true) := by
  intro n
  induction n with
  | zero => intro v h; omega
  | succ n ih =>
    intro v h hb
    have hsz := v.sz_eq
    have hl := szL_len v.l
    have ihL : ∀ x ∈ v.l, cR 35 [x.enc, x.enc] = some (.bool true) := fun x hx => by
      have := szL_mem hx
      exact ih x (by omega) (by omega)
    have ihM : ∀ x ∈ v.m, cR 35 [x.2.enc, x.2.enc] = some (.bool true) := fun x hx => by
      have := szM_mem hx
      exact ih x.2 (by omega) (by omega)
    refine cR_of (F := F35) rfl ?_
    obtain ⟨r, hr⟩ : ∃ r, r = AV.bool true := ⟨_, rfl⟩
    rw [← hr]
    unfold big at hb
    simp only [F35_0, F35_1, F35_2, F35_3, F35_4, F35_5, F35_6, F35_7, F35_8, F35_9, F35_10, F35_11, F35_12, F35_13, F35_14, F35_15, F35_16, F35_17, F35_18, F35_19, F35_20, F35_21, F35_22, F35_24, F35_25, F35_26, F35_27, F35_28, F35_29, F35_30, F35_31, F35_32, F35_33, F35_34, F35_35, F35_36, F35_37, F35_38, F35_39, F35_40, F35_41, F35_42, F35_43, F35_44, F35_45, F35_46, F35_47, F35_48, F35_49, F35_50, F35_51, F35_53, F35_54, F35_55, F35_56, F35_57, F35_58, F35, ex_loop, EXA, Nat.reduceEqDiff, reduceIte, reduceCtorEq, Nat.reduceAdd, Nat.reduceLeDiff, Nat.reduceSub, Nat.reduceMul, Int.reduceEq, Int.reduceBEq, Int.reduceBNe, Int.reduceLT, Int.reduceLE, Nat.reduceLT, VX, readAt_some, intN, bsN, natN, List.length_map]
    refine ex_while (S := Nat) (fun j => [(2, .vptr [.int .i64 v.kind, .int .i64 v.n, .str v.s, .vsl (v.l.map V.enc) none, .vsl (v.m.map memE) none] 0), (3, .vptr [.int .i64 v.kind, .int .i64 v.n, .str v.s, .vsl (v.l.map V.enc) none, .vsl (v.m.map memE) none] 0), (5, .int .i64 (j : Int))]) (fun _ => .empty) (fun j => v.l.length - j) (fun _ => True) ?_ 0 trivial
    intro b j _ ih2
    by_cases hlt : j < v.l.length
    · obtain ⟨x, hx⟩ := get_lt hlt
      have hidx := idx_map (f := V.enc) (sz := 5) (c := none) hx (by simp [V.enc_cells])
      have hcond := dlt hlt
      have hw := wsucc hlt (by omega)
      have hcall := ihL x (List.mem_of_getElem? hx)
      simp only [S2Ff, EXA, Nat.reduceEqDiff, reduceIte, reduceCtorEq, Nat.reduceAdd, Nat.reduceLeDiff, Nat.reduceSub, Nat.reduceMul, Int.reduceEq, Int.reduceBEq, Int.reduceBNe, Int.reduceLT, Int.reduceLE, Nat.reduceLT, VX, readAt_some, hcond, hidx, hcall, hw]
      exact ih2 (j + 1) _ _ (by omega) trivial rfl rfl
    · have hcond := dge (Nat.not_lt.1 hlt)
      simp only [S2Ff, EXA, Nat.reduceEqDiff, reduceIte, reduceCtorEq, Nat.reduceAdd, Nat.reduceLeDiff, Nat.reduceSub, Nat.reduceMul, Int.reduceEq, Int.reduceBEq, Int.reduceBNe, Int.reduceLT, Int.reduceLE, Nat.reduceLT, VX, readAt_some, hcond]
      exact same_tail v _ hb ihM hr
theorem r_same (v : V) (hb : v.sz < big) : cR 35 [v.enc, v.enc] = some (.bool true) := r_sameN (v.sz + 1) v (Nat.lt_succ_self _) hb
theorem exc (e : Ev) : (evE e).cells = evC e := rfl
theorem exr_ts (e : Ev) : (evC e)[11]? = some (.int .i64 e.ts) := rfl
theorem exr_depth (e : Ev) : (evC e)[12]? = some (.int .i64 e.depth) := rfl
theorem exr_v (e : Ev) : readAt (evC e) 0 (some 5) = some e.v.enc := by rw [V.enc_eq]; rfl
section
variable {e : Ev} {k : List Item} {σ : Store} {Q : Fr → Store → Prop}
abbrev seF (e : Ev) (t : Nat) : Fr := [(2, .vptr (evC e) 0), (3, .vptr (evC e) 0), (t, .bool true)]
abbrev seT (n : Nat) : List IOper := (opsOf F11_1).drop n
theorem se0 : Ex ipU gU (.ops (opsOf F11_1) :: .code (.keep [4] .ret) :: k) [(2, .vptr (evC e) 0), (3, .vptr (evC e) 0)] σ Q ↔ Ex ipU gU (.ops (seT 6) :: .code (.keep [4] .ret) :: k) (seF e 10) σ Q := by
  rw [ex_cut 6]
  have hl : (liveIn [4] (seT 6)).all (([2, 3, 10] : List Nat).contains ·) = true := by kernel_rfl
  unfold seT at hl ⊢
  generalize (opsOf F11_1).drop 6 = tl at hl ⊢
  simp only [opsOf, S2Fa, EXA, Nat.reduceEqDiff, reduceIte, reduceCtorEq, Nat.reduceAdd, Nat.reduceLeDiff, Nat.reduceSub, Nat.reduceMul, Int.reduceEq, Int.reduceBEq, Int.reduceBNe, Int.reduceLT, Int.reduceLE, Nat.reduceLT, EVR, bsB]
  rw [ex_prune [2, 3, 10] hl]
  simp only [EXA, Nat.reduceEqDiff, reduceIte, reduceCtorEq, Nat.reduceAdd, Nat.reduceLeDiff, Nat.reduceSub, Nat.reduceMul, Int.reduceEq, Int.reduceBEq, Int.reduceBNe, Int.reduceLT, Int.reduceLE, Nat.reduceLT]
theorem se1 : Ex ipU gU (.ops (seT 6) :: .code (.keep [4] .ret) :: k) (seF e 10) σ Q ↔ Ex ipU gU (.ops (seT 13) :: .code (.keep [4] .ret) :: k) (seF e 17) σ Q := by
  have hd : seT 13 = (seT 6).drop 7 := rfl
  rw [ex_cut 7, hd]
  have hl : (liveIn [4] ((seT 6).drop 7)).all (([2, 3, 17] : List Nat).contains ·) = true := by kernel_rfl
  generalize (seT 6).drop 7 = tl at hl ⊢
  simp only [seT, opsOf, S2Fa, EXA, Nat.reduceEqDiff, reduceIte, reduceCtorEq, Nat.reduceAdd, Nat.reduceLeDiff, Nat.reduceSub, Nat.reduceMul, Int.reduceEq, Int.reduceBEq, Int.reduceBNe, Int.reduceLT, Int.reduceLE, Nat.reduceLT, EVR, exr_ts, exr_depth, exr_v, bsB, intB, boolB]
  rw [ex_prune [2, 3, 17] hl]
  simp only [EXA, Nat.reduceEqDiff, reduceIte, reduceCtorEq, Nat.reduceAdd, Nat.reduceLeDiff, Nat.reduceSub, Nat.reduceMul, Int.reduceEq, Int.reduceBEq, Int.reduceBNe, Int.reduceLT, Int.reduceLE, Nat.reduceLT]
theorem se2 : Ex ipU gU (.ops (seT 13) :: .code (.keep [4] .ret) :: k) (seF e 17) σ Q ↔ Ex ipU gU (.ops (seT 20) :: .code (.keep [4] .ret) :: k) (seF e 24) σ Q := by
  have hd : seT 20 = (seT 13).drop 7 := rfl
  rw [ex_cut 7, hd]
  have hl : (liveIn [4] ((seT 13).drop 7)).all (([2, 3, 24] : List Nat).contains ·) = true := by kernel_rfl
  generalize (seT 13).drop 7 = tl at hl ⊢
  simp only [seT, opsOf, S2Fa, EXA, Nat.reduceEqDiff, reduceIte, reduceCtorEq, Nat.reduceAdd, Nat.reduceLeDiff, Nat.reduceSub, Nat.reduceMul, Int.reduceEq, Int.reduceBEq, Int.reduceBNe, Int.reduceLT, Int.reduceLE, Nat.reduceLT, EVR, exr_ts, exr_depth, exr_v, bsB, intB, boolB]
  rw [ex_prune [2, 3, 24] hl]
  simp only [EXA, Nat.reduceEqDiff, reduceIte, reduceCtorEq, Nat.reduceAdd, Nat.reduceLeDiff, Nat.reduceSub, Nat.reduceMul, Int.reduceEq, Int.reduceBEq, Int.reduceBNe, Int.reduceLT, Int.reduceLE, Nat.reduceLT]
theorem se3 : Ex ipU gU (.ops (seT 20) :: .code (.keep [4] .ret) :: k) (seF e 24) σ Q ↔ Ex ipU gU (.ops (seT 27) :: .code (.keep [4] .ret) :: k) (seF e 31) σ Q := by
  have hd : seT 27 = (seT 20).drop 7 := rfl
  rw [ex_cut 7, hd]
  have hl : (liveIn [4] ((seT 20).drop 7)).all (([2, 3, 31] : List Nat).contains ·) = true := by kernel_rfl
  generalize (seT 20).drop 7 = tl at hl ⊢
  simp only [seT, opsOf, S2Fa, EXA, Nat.reduceEqDiff, reduceIte, reduceCtorEq, Nat.reduceAdd, Nat.reduceLeDiff, Nat.reduceSub, Nat.reduceMul, Int.reduceEq, Int.reduceBEq, Int.reduceBNe, Int.reduceLT, Int.reduceLE, Nat.reduceLT, EVR, exr_ts, exr_depth, exr_v, bsB, intB, boolB]
  rw [ex_prune [2, 3, 31] hl]
  simp only [EXA, Nat.reduceEqDiff, reduceIte, reduceCtorEq, Nat.reduceAdd, Nat.reduceLeDiff, Nat.reduceSub, Nat.reduceMul, Int.reduceEq, Int.reduceBEq, Int.reduceBNe, Int.reduceLT, Int.reduceLE, Nat.reduceLT]
theorem se4 : Ex ipU gU (.ops (seT 27) :: .code (.keep [4] .ret) :: k) (seF e 31) σ Q ↔ Ex ipU gU (.ops (seT 34) :: .code (.keep [4] .ret) :: k) (seF e 38) σ Q := by
  have hd : seT 34 = (seT 27).drop 7 := rfl
  rw [ex_cut 7, hd]
  have hl : (liveIn [4] ((seT 27).drop 7)).all (([2, 3, 38] : List Nat).contains ·) = true := by kernel_rfl
  generalize (seT 27).drop 7 = tl at hl ⊢
  simp only [seT, opsOf, S2Fa, EXA, Nat.reduceEqDiff, reduceIte, reduceCtorEq, Nat.reduceAdd, Nat.reduceLeDiff, Nat.reduceSub, Nat.reduceMul, Int.reduceEq, Int.reduceBEq, Int.reduceBNe, Int.reduceLT, Int.reduceLE, Nat.reduceLT, EVR, exr_ts, exr_depth, exr_v, bsB, intB, boolB]
  rw [ex_prune [2, 3, 38] hl]
  simp only [EXA, Nat.reduceEqDiff, reduceIte, reduceCtorEq, Nat.reduceAdd, Nat.reduceLeDiff, Nat.reduceSub, Nat.reduceMul, Int.reduceEq, Int.reduceBEq, Int.reduceBNe, Int.reduceLT, Int.reduceLE, Nat.reduceLT]
theorem se5 : Ex ipU gU (.ops (seT 34) :: .code (.keep [4] .ret) :: k) (seF e 38) σ Q ↔ Ex ipU gU (.ops (seT 41) :: .code (.keep [4] .ret) :: k) (seF e 45) σ Q := by
  have hd : seT 41 = (seT 34).drop 7 := rfl
  rw [ex_cut 7, hd]
  have hl : (liveIn [4] ((seT 34).drop 7)).all (([2, 3, 45] : List Nat).contains ·) = true := by kernel_rfl
  generalize (seT 34).drop 7 = tl at hl ⊢
  simp only [seT, opsOf, S2Fa, EXA, Nat.reduceEqDiff, reduceIte, reduceCtorEq, Nat.reduceAdd, Nat.reduceLeDiff, Nat.reduceSub, Nat.reduceMul, Int.reduceEq, Int.reduceBEq, Int.reduceBNe, Int.reduceLT, Int.reduceLE, Nat.reduceLT, EVR, exr_ts, exr_depth, exr_v, bsB, intB, boolB]
  rw [ex_prune [2, 3, 45] hl]
  simp only [EXA, Nat.reduceEqDiff, reduceIte, reduceCtorEq, Nat.reduceAdd, Nat.reduceLeDiff, Nat.reduceSub, Nat.reduceMul, Int.reduceEq, Int.reduceBEq, Int.reduceBNe, Int.reduceLT, Int.reduceLE, Nat.reduceLT]
theorem se6 : Ex ipU gU (.ops (seT 41) :: .code (.keep [4] .ret) :: k) (seF e 45) σ Q ↔ Ex ipU gU (.ops (seT 48) :: .code (.keep [4] .ret) :: k) (seF e 52) σ Q := by
  have hd : seT 48 = (seT 41).drop 7 := rfl
  rw [ex_cut 7, hd]
  have hl : (liveIn [4] ((seT 41).drop 7)).all (([2, 3, 52] : List Nat).contains ·) = true := by kernel_rfl
  generalize (seT 41).drop 7 = tl at hl ⊢
  simp only [seT, opsOf, S2Fa, EXA, Nat.reduceEqDiff, reduceIte, reduceCtorEq, Nat.reduceAdd, Nat.reduceLeDiff, Nat.reduceSub, Nat.reduceMul, Int.reduceEq, Int.reduceBEq, Int.reduceBNe, Int.reduceLT, Int.reduceLE, Nat.reduceLT, EVR, exr_ts, exr_depth, exr_v, bsB, intB, boolB]
  rw [ex_prune [2, 3, 52] hl]
  simp only [EXA, Nat.reduceEqDiff, reduceIte, reduceCtorEq, Nat.reduceAdd, Nat.reduceLeDiff, Nat.reduceSub, Nat.reduceMul, Int.reduceEq, Int.reduceBEq, Int.reduceBNe, Int.reduceLT, Int.reduceLE, Nat.reduceLT]
theorem se7 : Ex ipU gU (.ops (seT 48) :: .code (.keep [4] .ret) :: k) (seF e 52) σ Q ↔ Ex ipU gU (.ops (seT 55) :: .code (.keep [4] .ret) :: k) (seF e 59) σ Q := by
  have hd : seT 55 = (seT 48).drop 7 := rfl
  rw [ex_cut 7, hd]
  have hl : (liveIn [4] ((seT 48).drop 7)).all (([2, 3, 59] : List Nat).contains ·) = true := by kernel_rfl
  generalize (seT 48).drop 7 = tl at hl ⊢
  simp only [seT, opsOf, S2Fa, EXA, Nat.reduceEqDiff, reduceIte, reduceCtorEq, Nat.reduceAdd, Nat.reduceLeDiff, Nat.reduceSub, Nat.reduceMul, Int.reduceEq, Int.reduceBEq, Int.reduceBNe, Int.reduceLT, Int.reduceLE, Nat.reduceLT, EVR, exr_ts, exr_depth, exr_v, bsB, intB, boolB]
  rw [ex_prune [2, 3, 59] hl]
  simp only [EXA, Nat.reduceEqDiff, reduceIte, reduceCtorEq, Nat.reduceAdd, Nat.reduceLeDiff, Nat.reduceSub, Nat.reduceMul, Int.reduceEq, Int.reduceBEq, Int.reduceBNe, Int.reduceLT, Int.reduceLE, Nat.reduceLT]
theorem se8 (c3 : cR 10 [.vsl (e.prev.map .str) none, .vsl (e.prev.map .str) none] = some (.bool true)) : Ex ipU gU (.ops (seT 55) :: .code (.keep [4] .ret) :: k) (seF e 59) σ Q ↔ Ex ipU gU (.ops (seT 62) :: .code (.keep [4] .ret) :: k) (seF e 66) σ Q := by
  have hd : seT 62 = (seT 55).drop 7 := rfl
  rw [ex_cut 7, hd]
  have hl : (liveIn [4] ((seT 55).drop 7)).all (([2, 3, 66] : List Nat).contains ·) = true := by kernel_rfl
  generalize (seT 55).drop 7 = tl at hl ⊢
  simp only [seT, opsOf, S2Fa, EXA, Nat.reduceEqDiff, reduceIte, reduceCtorEq, Nat.reduceAdd, Nat.reduceLeDiff, Nat.reduceSub, Nat.reduceMul, Int.reduceEq, Int.reduceBEq, Int.reduceBNe, Int.reduceLT, Int.reduceLE, Nat.reduceLT, EVR, exr_ts, exr_depth, exr_v, bsB, intB, boolB, c3, closedL_strs, erL_strs]
  rw [ex_prune [2, 3, 66] hl]
  simp only [EXA, Nat.reduceEqDiff, reduceIte, reduceCtorEq, Nat.reduceAdd, Nat.reduceLeDiff, Nat.reduceSub, Nat.reduceMul, Int.reduceEq, Int.reduceBEq, Int.reduceBNe, Int.reduceLT, Int.reduceLE, Nat.reduceLT]
theorem se9 (c3 : cR 10 [.vsl (e.auth.map .str) none, .vsl (e.auth.map .str) none] = some (.bool true)) : Ex ipU gU (.ops (seT 62) :: .code (.keep [4] .ret) :: k) (seF e 66) σ Q ↔ Ex ipU gU (.ops (seT 69) :: .code (.keep [4] .ret) :: k) (seF e 73) σ Q := by
  have hd : seT 69 = (seT 62).drop 7 := rfl
  rw [ex_cut 7, hd]
  have hl : (liveIn [4] ((seT 62).drop 7)).all (([2, 3, 73] : List Nat).contains ·) = true := by kernel_rfl
  generalize (seT 62).drop 7 = tl at hl ⊢
  simp only [seT, opsOf, S2Fa, EXA, Nat.reduceEqDiff, reduceIte, reduceCtorEq, Nat.reduceAdd, Nat.reduceLeDiff, Nat.reduceSub, Nat.reduceMul, Int.reduceEq, Int.reduceBEq, Int.reduceBNe, Int.reduceLT, Int.reduceLE, Nat.reduceLT, EVR, exr_ts, exr_depth, exr_v, bsB, intB, boolB, c3, closedL_strs, erL_strs]
  rw [ex_prune [2, 3, 73] hl]
  simp only [EXA, Nat.reduceEqDiff, reduceIte, reduceCtorEq, Nat.reduceAdd, Nat.reduceLeDiff, Nat.reduceSub, Nat.reduceMul, Int.reduceEq, Int.reduceBEq, Int.reduceBNe, Int.reduceLT, Int.reduceLE, Nat.reduceLT]
theorem se10 (c3 : cR 35 [e.content.enc, e.content.enc] = some (.bool true)) : Ex ipU gU (.ops (seT 69) :: .code (.keep [4] .ret) :: k) (seF e 73) σ Q ↔ Ex ipU gU (.ops (seT 76) :: .code (.keep [4] .ret) :: k) (seF e 80) σ Q := by
  have hd : seT 76 = (seT 69).drop 7 := rfl
  rw [ex_cut 7, hd]
  have hl : (liveIn [4] ((seT 69).drop 7)).all (([2, 3, 80] : List Nat).contains ·) = true := by kernel_rfl
  generalize (seT 69).drop 7 = tl at hl ⊢
  simp only [seT, opsOf, S2Fa, EXA, Nat.reduceEqDiff, reduceIte, reduceCtorEq, Nat.reduceAdd, Nat.reduceLeDiff, Nat.reduceSub, Nat.reduceMul, Int.reduceEq, Int.reduceBEq, Int.reduceBNe, Int.reduceLT, Int.reduceLE, Nat.reduceLT, EVR, exr_ts, exr_depth, exr_v, bsB, intB, boolB, c3, V.enc_closed, V.enc_er]
  rw [ex_prune [2, 3, 80] hl]
  simp only [EXA, Nat.reduceEqDiff, reduceIte, reduceCtorEq, Nat.reduceAdd, Nat.reduceLeDiff, Nat.reduceSub, Nat.reduceMul, Int.reduceEq, Int.reduceBEq, Int.reduceBNe, Int.reduceLT, Int.reduceLE, Nat.reduceLT]
end
theorem r_sameEvent (e : Ev) (h1 : e.v.sz < big) (h2 : e.content.sz < big) (h3 : e.prev.length < big) (h4 : e.auth.length < big) : cR 11 [evE e, evE e] = some (.bool true) := by
  have c1 := r_same e.v h1
  have c2 := r_same e.content h2
  have c3 := r_Texts e.prev e.prev h3
  have c4 := r_Texts e.auth e.auth h4
  simp only [BEq.rfl] at c3 c4
  refine cR_of (F := F11) rfl ?_
  simp only [F11_0, F11_2, F11_3, F11_4, F11_5, F11, EXA, Nat.reduceEqDiff, reduceIte, reduceCtorEq, Nat.reduceAdd, Nat.reduceLeDiff, Nat.reduceSub, Nat.reduceMul, Int.reduceEq, Int.reduceBEq, Int.reduceBNe, Int.reduceLT, Int.reduceLE, Nat.reduceLT, exc, evE_known]
  have h0 : ∀ {k : List Item} {σ : Store} {Q : Fr → Store → Prop}, Ex ipU gU (.code F11_1 :: .code (.keep [4] .ret) :: k) [(2, .vptr (evC e) 0), (3, .vptr (evC e) 0)] σ Q ↔ Ex ipU gU (.ops (opsOf F11_1) :: .code (.keep [4] .ret) :: k) [(2, .vptr (evC e) 0), (3, .vptr (evC e) 0)] σ Q := ex_region
  rw [h0, se0, se1, se2, se3, se4, se5, se6, se7, se8 c3, se9 c4, se10 c2]
  simp only [seT, opsOf, S2Fa, EXA, Nat.reduceEqDiff, reduceIte, reduceCtorEq, Nat.reduceAdd, Nat.reduceLeDiff, Nat.reduceSub, Nat.reduceMul, Int.reduceEq, Int.reduceBEq, Int.reduceBNe, Int.reduceLT, Int.reduceLE, Nat.reduceLT, EVR, exr_v, c1, V.enc_closed, V.enc_er]
end Go.Ab
/- The document's: which values are good. -/
namespace Go.Ab
set_option linter.unusedSimpArgs false
set_option linter.defProp false
set_option maxHeartbeats 1000000
set_option maxRecDepth 100000
theorem r_mayN : ∀ (n : Nat) (v : V), v.sz < n → v.sz < big → cR 80 [v.enc] = some (.bool v.fine) := by
  intro n
  induction n with
  | zero => intro v h; omega
  | succ n ih =>
    intro v h hb
    have hsz := v.sz_eq
    have ihL : ∀ x ∈ v.l, cR 80 [x.enc] = some (.bool x.fine) := fun x hx => by
      have := szL_mem hx
      exact ih x (by omega) (by omega)
    have ihM : ∀ x ∈ v.m, cR 80 [x.2.enc] = some (.bool x.2.fine) := fun x hx => by
      have := szM_mem hx
      exact ih x.2 (by omega) (by omega)
    by_cases h0 : v.kind = 0
    · exact may0 v h0
    by_cases h1 : v.kind = 1
    · exact may1 v h1
    by_cases h2 : v.kind = 2
    · exact may2 v h2
    by_cases h3 : v.kind = 3
    · exact may3 v h3 (by omega)
    by_cases h4 : v.kind = 4
    · exact may4 v h4 hb ihL
    by_cases h5 : v.kind = 5
    · exact may5 v h5 hb ihM
    exact mayNo v h0 h1 h2 h3 h4 h5
theorem r_may (v : V) (hb : v.sz < big) : cR 80 [v.enc] = some (.bool v.fine) := r_mayN (v.sz + 1) v (Nat.lt_succ_self _) hb
theorem r_refGood (v : V) (hb : v.sz < big) : cR 69 [v.enc] = some (.bool v.good) := by
  have h1 := r_refDep v hb
  have h2 := r_may v hb
  have hd : decide ((v.dep : Int) ≤ 50) = decide (v.dep ≤ 50) := by
    rw [decide_eq_decide]; omega
  refine cR_of (F := F69) rfl ?_
  unfold V.good
  cases hq : decide (v.dep ≤ 50) <;> rw [hq] at hd <;> simp only [F69_0, F69_1, F69_2, F69_3, F69_4, F69, EXA, Nat.reduceEqDiff, reduceIte, reduceCtorEq, Nat.reduceAdd, Nat.reduceLeDiff, Nat.reduceSub, Nat.reduceMul, Int.reduceEq, Int.reduceBEq, Int.reduceBNe, Int.reduceLT, Int.reduceLE, Nat.reduceLT, VX, readAt_some, h1, h2, hd, Bool.and_true, Bool.and_false]
end Go.Ab
/- The document's: what stands under a key. -/
namespace Go.Ab
set_option linter.unusedSimpArgs false
set_option linter.defProp false
set_option maxHeartbeats 1000000
def S8Fa := And.intro @F70_0.eq_1 (And.intro @F70_1.eq_1 (And.intro @F70_2.eq_1 (And.intro @F70_3.eq_1 (And.intro @F70_4.eq_1 (And.intro @F70_5.eq_1 (And.intro @F70_6.eq_1 (And.intro @F70_7.eq_1 (And.intro @F70_8.eq_1 (And.intro @F70_9.eq_1 (And.intro @F70_10.eq_1 (And.intro @F70_11.eq_1 (And.intro @F70_12.eq_1 (And.intro @F70_13.eq_1 (And.intro @F70_14.eq_1 (And.intro @F70_15.eq_1 (And.intro @F70_16.eq_1 (And.intro @F70_17.eq_1 (And.intro @F70_18.eq_1 (And.intro @F70_19.eq_1 (And.intro @F70_20.eq_1 (And.intro @F70_21.eq_1 (And.intro @F70_22.eq_1 (And.intro @F70_23.eq_1 (And.intro @F70_24.eq_1 (And.intro @F70_25.eq_1 (And.intro @F70_26.eq_1 (And.intro @F70_27.eq_1 (And.intro @F70_28.eq_1 (And.intro @F70_29.eq_1 (And.intro @F70_30.eq_1 (And.intro @F70_31.eq_1 (And.intro @F70_32.eq_1 (And.intro @F70_33.eq_1 (And.intro @F70_34.eq_1 (And.intro @F70_35.eq_1 (@F70.eq_1))))))))))))))))))))))))))))))))))))
def S8Fb := And.intro @F70_0.eq_1 (And.intro @F70_1.eq_1 (And.intro @F70_2.eq_1 (And.intro @F70_3.eq_1 (And.intro @F70_4.eq_1 (And.intro @F70_5.eq_1 (And.intro @F70_6.eq_1 (And.intro @F70_7.eq_1 (And.intro @F70_8.eq_1 (And.intro @F70_9.eq_1 (And.intro @F70_10.eq_1 (And.intro @F70_11.eq_1 (And.intro @F70_12.eq_1 (And.intro @F70_13.eq_1 (And.intro @F70_14.eq_1 (And.intro @F70_15.eq_1 (And.intro @F70_16.eq_1 (And.intro @F70_17.eq_1 (And.intro @F70_18.eq_1 (And.intro @F70_19.eq_1 (And.intro @F70_20.eq_1 (And.intro @F70_21.eq_1 (And.intro @F70_22.eq_1 (And.intro @F70_24.eq_1 (And.intro @F70_25.eq_1 (And.intro @F70_26.eq_1 (And.intro @F70_27.eq_1 (And.intro @F70_28.eq_1 (And.intro @F70_29.eq_1 (And.intro @F70_30.eq_1 (And.intro @F70_31.eq_1 (And.intro @F70_32.eq_1 (And.intro @F70_33.eq_1 (And.intro @F70_34.eq_1 (And.intro @F70_35.eq_1 (@F70.eq_1)))))))))))))))))))))))))))))))))))
set_option maxRecDepth 100000
def getR (v : V) (k : Bs) : V × Bool := if v.kind = 5 then (match lookM v.m k with | some x => (x, true) | none => (V.zero, false)) else (V.zero, false)
theorem V.zero_enc : V.zero.enc = .agg [.int .i64 0, .int .i64 0, .str [], .vsl [] none, .vsl [] none] := by rw [V.enc_eq]; rfl
theorem r_refGet (v : V) (k : Bs) (hb : v.sz < big) : cR 70 [v.enc, .str k] = some (.tup [(getR v k).1.enc, .bool (getR v k).2]) := by
  have hmz := m_len_sz v
  unfold big at hb
  refine cR_of (F := F70) rfl ?_
  obtain ⟨r, hr⟩ : ∃ r, r = AV.tup [(getR v k).1.enc, .bool (getR v k).2] := ⟨_, rfl⟩
  rw [← hr]
  unfold getR at hr
  cases h5 : v.kind != 5 with
  | true =>
    have hk : v.kind ≠ 5 := by simpa using h5
    rw [if_neg hk] at hr
    simp only [S8Fb, EXA, Nat.reduceEqDiff, reduceIte, reduceCtorEq, Nat.reduceAdd, Nat.reduceLeDiff, Nat.reduceSub, Nat.reduceMul, Int.reduceEq, Int.reduceBEq, Int.reduceBNe, Int.reduceLT, Int.reduceLE, Nat.reduceLT, VX, readAt_some, h5, hr, V.zero_enc]
  | false =>
    have hk : v.kind = 5 := by simpa using h5
    rw [if_pos hk] at hr
    simp only [S8Fb, ex_loop, EXA, Nat.reduceEqDiff, reduceIte, reduceCtorEq, Nat.reduceAdd, Nat.reduceLeDiff, Nat.reduceSub, Nat.reduceMul, Int.reduceEq, Int.reduceBEq, Int.reduceBNe, Int.reduceLT, Int.reduceLE, Nat.reduceLT, VX, readAt_some, h5]
    refine ex_while (S := Nat) (fun j => [(1, .str k), (2, .vptr [.int .i64 v.kind, .int .i64 v.n, .str v.s, .vsl (v.l.map V.enc) none, .vsl (v.m.map memE) none] 0), (4, .ptr 0 0), (6, .int .i64 (j : Int))]) (fun _ => ⟨1, [(0, .own [.int .i64 0, .int .i64 0, .str [], .nils, .nils])]⟩) (fun j => v.m.length - j) (fun j => lookM (v.m.drop j) k = lookM v.m k) ?_ 0 rfl
    intro b j hj ih2
    by_cases hlt : j < v.m.length
    · obtain ⟨⟨key, x⟩, hx⟩ := get_lt hlt
      have hidx := idx_map (f := memE) (sz := 6) (c := none) hx (by simp [memE_cells])
      have hcond := dlt hlt
      have hw := wsucc hlt (by omega)
      rw [drop_cons hx, lookM] at hj
      cases hkk : key == k with
      | true =>
        have : key = k := by simpa using hkk
        rw [if_pos this] at hj
        rw [← hj] at hr
        simp only [S8Fa, EXA, Nat.reduceEqDiff, reduceIte, reduceCtorEq, Nat.reduceAdd, Nat.reduceLeDiff, Nat.reduceSub, Nat.reduceMul, Int.reduceEq, Int.reduceBEq, Int.reduceBNe, Int.reduceLT, Int.reduceLE, Nat.reduceLT, VX, readAt_some, hcond, hidx, hkk, hr]
      | false =>
        have : key ≠ k := by simpa using hkk
        rw [if_neg this] at hj
        simp only [S8Fa, EXA, Nat.reduceEqDiff, reduceIte, reduceCtorEq, Nat.reduceAdd, Nat.reduceLeDiff, Nat.reduceSub, Nat.reduceMul, Int.reduceEq, Int.reduceBEq, Int.reduceBNe, Int.reduceLT, Int.reduceLE, Nat.reduceLT, VX, readAt_some, hcond, hidx, hkk, hw]
        exact ih2 (j + 1) _ _ (by omega) hj rfl rfl
    · have hcond := dge (Nat.not_lt.1 hlt)
      rw [List.drop_eq_nil_of_le (by omega), lookM] at hj
      rw [← hj] at hr
      simp only [S8Fa, EXA, Nat.reduceEqDiff, reduceIte, reduceCtorEq, Nat.reduceAdd, Nat.reduceLeDiff, Nat.reduceSub, Nat.reduceMul, Int.reduceEq, Int.reduceBEq, Int.reduceBNe, Int.reduceLT, Int.reduceLE, Nat.reduceLT, VX, readAt_some, hcond, hr, V.zero_enc]
theorem getR_good {v : V} (k : Bs) (h : v.good = true) : getR v k = getV v k := by
  unfold getR
  by_cases h5 : v.kind = 5
  · have hf : v.fine = true := by unfold V.good at h; simp at h; exact h.1
    rw [if_pos h5, getV_rises k h5 (fine_rises h5 hf)]
    cases lookM v.m k <;> rfl
  · rw [if_neg h5, getV_other k h5]
end Go.Ab
/- The document's: texts under a key. -/
namespace Go.Ab
set_option linter.unusedSimpArgs false
set_option linter.defProp false
set_option maxHeartbeats 1000000
def S9Fa := And.intro @F58_0.eq_1 (And.intro @F58_1.eq_1 (And.intro @F58_2.eq_1 (And.intro @F58_3.eq_1 (And.intro @F58_4.eq_1 (And.intro @F58_5.eq_1 (And.intro @F58_6.eq_1 (And.intro @F58_7.eq_1 (And.intro @F58_8.eq_1 (And.intro @F58_9.eq_1 (And.intro @F58_10.eq_1 (And.intro @F58_11.eq_1 (And.intro @F58_12.eq_1 (And.intro @F58_13.eq_1 (And.intro @F58_14.eq_1 (And.intro @F58_15.eq_1 (@F58.eq_1))))))))))))))))
set_option maxRecDepth 100000
def textR (v : V) (k : Bs) : Bs × Bool := if (getR v k).2 && (getR v k).1.kind == 3 then ((getR v k).1.s, true) else ([], false)
theorem r_refTextAt (v : V) (k : Bs) (hb : v.sz < big) : cR 58 [v.enc, .str k] = some (.tup [.str (textR v k).1, .bool (textR v k).2]) := by
  have h := r_refGet v k hb
  unfold textR
  generalize getR v k = g at h ⊢
  obtain ⟨x, b⟩ := g
  simp only at h ⊢
  obtain ⟨r, hr⟩ : ∃ r, r = AV.tup [.str (if (b && x.kind == 3) = true then (x.s, true) else (([] : Bs), false)).1, .bool (if (b && x.kind == 3) = true then (x.s, true) else (([] : Bs), false)).2] := ⟨_, rfl⟩
  rw [← hr]
  refine cR_of (F := F58) rfl ?_
  cases b with
  | false =>
    simp only [Bool.false_and, Bool.false_eq_true, if_false] at hr
    simp only [S9Fa, EXA, Nat.reduceEqDiff, reduceIte, reduceCtorEq, Nat.reduceAdd, Nat.reduceLeDiff, Nat.reduceSub, Nat.reduceMul, Int.reduceEq, Int.reduceBEq, Int.reduceBNe, Int.reduceLT, Int.reduceLE, Nat.reduceLT, VX, readAt_some, h, hr]
  | true =>
    have hb3 : (x.kind != 3) = !(x.kind == 3) := rfl
    cases h3 : x.kind == 3 with
    | false =>
      rw [h3] at hb3
      simp only [h3, Bool.and_false, Bool.false_eq_true, if_false] at hr
      simp only [S9Fa, EXA, Nat.reduceEqDiff, reduceIte, reduceCtorEq, Nat.reduceAdd, Nat.reduceLeDiff, Nat.reduceSub, Nat.reduceMul, Int.reduceEq, Int.reduceBEq, Int.reduceBNe, Int.reduceLT, Int.reduceLE, Nat.reduceLT, VX, readAt_some, h, hb3, Bool.not_false, hr]
    | true =>
      rw [h3] at hb3
      simp only [h3, Bool.and_self, if_true] at hr
      simp only [S9Fa, EXA, Nat.reduceEqDiff, reduceIte, reduceCtorEq, Nat.reduceAdd, Nat.reduceLeDiff, Nat.reduceSub, Nat.reduceMul, Int.reduceEq, Int.reduceBEq, Int.reduceBNe, Int.reduceLT, Int.reduceLE, Nat.reduceLT, VX, readAt_some, h, hb3, Bool.not_true, hr]
theorem textR_good {v : V} (k : Bs) (h : v.good = true) : textR v k = textAt v k := by
  unfold textR textAt
  rw [getR_good k h]
end Go.Ab
/- The document's: a membership; letters and digits. -/
namespace Go.Ab
set_option linter.unusedSimpArgs false
set_option linter.defProp false
set_option maxHeartbeats 1000000
def S10Fb := And.intro @F56_0.eq_1 (And.intro @F56_1.eq_1 (And.intro @F56_2.eq_1 (And.intro @F56_3.eq_1 (And.intro @F56_4.eq_1 (And.intro @F56_5.eq_1 (And.intro @F56_6.eq_1 (And.intro @F56_7.eq_1 (And.intro @F56_8.eq_1 (And.intro @F56_9.eq_1 (And.intro @F56_10.eq_1 (And.intro @F56_11.eq_1 (And.intro @F56_12.eq_1 (@F56.eq_1)))))))))))))
set_option maxRecDepth 100000
theorem textAt_no {v : V} (k : Bs) (h : v.kind ≠ 5) : textAt v k = ([], false) := by
  unfold textAt
  rw [getV_other k h]; rfl
theorem text_said (c : V) (k : Bs) : (if c.good = true then textR c k else ([], false)) = textAt (said c) k := by
  unfold said
  by_cases hg : c.good = true
  · rw [if_pos hg, textR_good k hg]
    by_cases h5 : c.kind = 5
    · rw [if_pos (by simp [hg, h5])]
    · rw [if_neg (by simp [h5]), textAt_no k h5, textAt_no k (by simp [V.zero, V.kind])]
  · rw [if_neg hg, if_neg (by simp [hg]), textAt_no k (by simp [V.zero, V.kind])]
theorem r_refText (c : V) (k : Bs) (hb : c.sz < big) : cR 56 [c.enc, .str k] = some (.tup [.str (textAt (said c) k).1, .bool (textAt (said c) k).2]) := by
  have h1 := r_refGood c hb
  have h2 := r_refTextAt c k hb
  rw [← text_said]
  refine cR_of (F := F56) rfl ?_
  cases hg : c.good with
  | false =>
    rw [hg] at h1
    simp only [S10Fb, EXA, Nat.reduceEqDiff, reduceIte, reduceCtorEq, Nat.reduceAdd, Nat.reduceLeDiff, Nat.reduceSub, Nat.reduceMul, Int.reduceEq, Int.reduceBEq, Int.reduceBNe, Int.reduceLT, Int.reduceLE, Nat.reduceLT, VX, readAt_some, h1, Bool.false_eq_true, if_false]
  | true =>
    rw [hg] at h1
    simp only [S10Fb, EXA, Nat.reduceEqDiff, reduceIte, reduceCtorEq, Nat.reduceAdd, Nat.reduceLeDiff, Nat.reduceSub, Nat.reduceMul, Int.reduceEq, Int.reduceBEq, Int.reduceBNe, Int.reduceLT, Int.reduceLE, Nat.reduceLT, VX, readAt_some, h1, h2, if_true]
theorem r_refMembership (c : V) (hb : c.sz < big) : cR 31 [c.enc] = some (.str (membershipV c)) := by
  have h := r_refText c kMembership hb
  refine cR_of (F := F31) rfl ?_
  simp only [F31_0, F31_1, F31_2, F31_3, F31_4, F31_5, F31_6, F31_7, F31, EXA, Nat.reduceEqDiff, reduceIte, reduceCtorEq, Nat.reduceAdd, Nat.reduceLeDiff, Nat.reduceSub, Nat.reduceMul, Int.reduceEq, Int.reduceBEq, Int.reduceBNe, Int.reduceLT, Int.reduceLE, Nat.reduceLT, VX, readAt_some, h, membershipV]
end Go.Ab
/- The document's: letters, digits. -/
namespace Go.Ab
set_option linter.unusedSimpArgs false
set_option linter.defProp false
set_option maxHeartbeats 1000000
set_option maxRecDepth 100000
def letB (c : UInt8) : Bool := (decide ((c.toNat : Int) ≥ 97) && decide ((c.toNat : Int) ≤ 122)) || (decide ((c.toNat : Int) ≥ 65) && decide ((c.toNat : Int) ≤ 90))
def digB (c : UInt8) : Bool := decide ((c.toNat : Int) ≥ 48) && decide ((c.toNat : Int) ≤ 57)
theorem r_letter (c : UInt8) : cR 104 [.int .u8 c.toNat] = some (.bool (letB c)) := by
  refine cR_of (F := F104) rfl ?_
  obtain ⟨r, hr⟩ : ∃ r, r = AV.bool (letB c) := ⟨_, rfl⟩
  rw [← hr]
  unfold letB at hr
  cases h1 : decide ((c.toNat : Int) ≥ 97) <;> cases h2 : decide ((c.toNat : Int) ≤ 122) <;> cases h3 : decide ((c.toNat : Int) ≥ 65) <;> cases h4 : decide ((c.toNat : Int) ≤ 90) <;>
  simp only [h1, h2, h3, h4, Bool.and_self, Bool.true_and, Bool.false_and, Bool.and_false, Bool.and_true, Bool.or_self, Bool.true_or, Bool.or_true, Bool.or_false, Bool.false_or] at hr <;>
  simp only [F104_0, F104_1, F104_2, F104_3, F104_4, F104, EXA, Nat.reduceEqDiff, reduceIte, reduceCtorEq, Nat.reduceAdd, Nat.reduceLeDiff, Nat.reduceSub, Nat.reduceMul, Int.reduceEq, Int.reduceBEq, Int.reduceBNe, Int.reduceLT, Int.reduceLE, Nat.reduceLT, h1, h2, h3, h4, hr]
theorem r_digit (c : UInt8) : cR 105 [.int .u8 c.toNat] = some (.bool (digB c)) := by
  refine cR_of (F := F105) rfl ?_
  obtain ⟨r, hr⟩ : ∃ r, r = AV.bool (digB c) := ⟨_, rfl⟩
  rw [← hr]
  unfold digB at hr
  cases h1 : decide ((c.toNat : Int) ≥ 48) <;> cases h2 : decide ((c.toNat : Int) ≤ 57) <;>
  simp only [h1, h2, Bool.and_self, Bool.true_and, Bool.false_and, Bool.and_false, Bool.and_true] at hr <;>
  simp only [F105_0, F105_1, F105_2, F105_3, F105_4, F105, EXA, Nat.reduceEqDiff, reduceIte, reduceCtorEq, Nat.reduceAdd, Nat.reduceLeDiff, Nat.reduceSub, Nat.reduceMul, Int.reduceEq, Int.reduceBEq, Int.reduceBNe, Int.reduceLT, Int.reduceLE, Nat.reduceLT, h1, h2, hr]
/-- What may stand in a name of a server. -/
def srvB (c : UInt8) : Bool := letB c || (digB c || (c == 46 || c == 45))
theorem srvB_eq (c : UInt8) : srvB c = setB lettersS c := u8_all (P := fun c => srvB c = setB lettersS c) (by decide +kernel) c
theorem digB_eq (c : UInt8) : digB c = setB digitsS c := u8_all (P := fun c => digB c = setB digitsS c) (by decide +kernel) c
end Go.Ab
/- The document's: names of servers. -/
namespace Go.Ab
set_option linter.unusedSimpArgs false
set_option linter.defProp false
set_option maxHeartbeats 1000000
def S12Fa := And.intro @F97_0.eq_1 (And.intro @F97_1.eq_1 (And.intro @F97_2.eq_1 (And.intro @F97_3.eq_1 (And.intro @F97_4.eq_1 (And.intro @F97_5.eq_1 (And.intro @F97_6.eq_1 (And.intro @F97_7.eq_1 (And.intro @F97_8.eq_1 (And.intro @F97_9.eq_1 (And.intro @F97_10.eq_1 (And.intro @F97_11.eq_1 (And.intro @F97_12.eq_1 (And.intro @F97_13.eq_1 (And.intro @F97_14.eq_1 (And.intro @F97_15.eq_1 (And.intro @F97_16.eq_1 (And.intro @F97_17.eq_1 (And.intro @F97_18.eq_1 (And.intro @F97_19.eq_1 (And.intro @F97_20.eq_1 (And.intro @F97_21.eq_1 (And.intro @F97_22.eq_1 (And.intro @F97_23.eq_1 (And.intro @F97_24.eq_1 (And.intro @F97_25.eq_1 (And.intro @F97_26.eq_1 (And.intro @F97_27.eq_1 (And.intro @F97_28.eq_1 (And.intro @F97_29.eq_1 (And.intro @F97_30.eq_1 (And.intro @F97_31.eq_1 (And.intro @F97_32.eq_1 (And.intro @F97_33.eq_1 (And.intro @F97_34.eq_1 (And.intro @F97_35.eq_1 (And.intro @F97_36.eq_1 (And.intro @F97_37.eq_1 (And.intro @F97_38.eq_1 (And.intro @F97_39.eq_1 (And.intro @F97_40.eq_1 (And.intro @F97_41.eq_1 (And.intro @F97_42.eq_1 (And.intro @F97_43.eq_1 (And.intro @F97_44.eq_1 (And.intro @F97_45.eq_1 (And.intro @F97_46.eq_1 (And.intro @F97_47.eq_1 (And.intro @F97_48.eq_1 (And.intro @F97_49.eq_1 (And.intro @F97_50.eq_1 (And.intro @F97_51.eq_1 (And.intro @F97_52.eq_1 (And.intro @F97_53.eq_1 (And.intro @F97_54.eq_1 (And.intro @F97_55.eq_1 (And.intro @F97_56.eq_1 (And.intro @F97_57.eq_1 (And.intro @F97_58.eq_1 (And.intro @F97_59.eq_1 (And.intro @F97_60.eq_1 (And.intro @F97_61.eq_1 (@F97.eq_1))))))))))))))))))))))))))))))))))))))))))))))))))))))))))))))
def S12Fb := And.intro @F97_0.eq_1 (And.intro @F97_1.eq_1 (And.intro @F97_2.eq_1 (And.intro @F97_3.eq_1 (And.intro @F97_4.eq_1 (And.intro @F97_5.eq_1 (And.intro @F97_6.eq_1 (And.intro @F97_7.eq_1 (And.intro @F97_8.eq_1 (And.intro @F97_10.eq_1 (And.intro @F97_11.eq_1 (And.intro @F97_12.eq_1 (And.intro @F97_13.eq_1 (And.intro @F97_14.eq_1 (And.intro @F97_15.eq_1 (And.intro @F97_16.eq_1 (And.intro @F97_17.eq_1 (And.intro @F97_18.eq_1 (And.intro @F97_19.eq_1 (And.intro @F97_20.eq_1 (And.intro @F97_21.eq_1 (And.intro @F97_22.eq_1 (And.intro @F97_23.eq_1 (And.intro @F97_24.eq_1 (And.intro @F97_25.eq_1 (And.intro @F97_26.eq_1 (And.intro @F97_27.eq_1 (And.intro @F97_28.eq_1 (And.intro @F97_29.eq_1 (And.intro @F97_30.eq_1 (And.intro @F97_31.eq_1 (And.intro @F97_32.eq_1 (And.intro @F97_33.eq_1 (And.intro @F97_34.eq_1 (And.intro @F97_35.eq_1 (And.intro @F97_36.eq_1 (And.intro @F97_37.eq_1 (And.intro @F97_38.eq_1 (And.intro @F97_39.eq_1 (And.intro @F97_40.eq_1 (And.intro @F97_42.eq_1 (And.intro @F97_43.eq_1 (And.intro @F97_44.eq_1 (And.intro @F97_45.eq_1 (And.intro @F97_46.eq_1 (And.intro @F97_47.eq_1 (And.intro @F97_48.eq_1 (And.intro @F97_49.eq_1 (And.intro @F97_50.eq_1 (And.intro @F97_51.eq_1 (And.intro @F97_52.eq_1 (And.intro @F97_53.eq_1 (And.intro @F97_54.eq_1 (And.intro @F97_55.eq_1 (And.intro @F97_56.eq_1 (And.intro @F97_57.eq_1 (And.intro @F97_58.eq_1 (And.intro @F97_59.eq_1 (And.intro @F97_60.eq_1 (And.intro @F97_61.eq_1 (@F97.eq_1))))))))))))))))))))))))))))))))))))))))))))))))))))))))))))
set_option maxRecDepth 100000
def nsr (s : Bs) (j : Nat) : Nat := j + ((s.drop j).takeWhile srvB).length
theorem nsr_hit {s : Bs} {j : Nat} {c : UInt8} (h : s[j]? = some c) (hc : srvB c = true) : nsr s j = nsr s (j + 1) := by
  unfold nsr
  rw [drop_cons h, List.takeWhile_cons, hc]
  simp; omega
theorem nsr_miss {s : Bs} {j : Nat} {c : UInt8} (h : s[j]? = some c) (hc : srvB c = false) : nsr s j = j := by
  unfold nsr
  rw [drop_cons h, List.takeWhile_cons, hc]
  simp
theorem nsr_end {s : Bs} {j : Nat} (h : s.length ≤ j) : nsr s j = j := by
  unfold nsr
  rw [List.drop_eq_nil_of_le h]; rfl
theorem nsr_le (s : Bs) : nsr s 0 ≤ s.length := by
  unfold nsr
  rw [List.drop_zero, Nat.zero_add]
  exact (List.takeWhile_sublist _).length_le
theorem eq8 (a b : UInt8) : ((a.toNat : Int) == (b.toNat : Int)) = (a == b) := by
  by_cases h : a = b
  · subst h; simp
  · have : (a.toNat : Int) ≠ (b.toNat : Int) := fun h' => h (UInt8.toNat_inj.1 (by omega))
    rw [beq_eq_false_iff_ne.2 this, beq_eq_false_iff_ne.2 h]
theorem eq46 (c : UInt8) : ((c.toNat : Int) == 46) = (c == 46) := eq8 c 46
theorem eq45 (c : UInt8) : ((c.toNat : Int) == 45) = (c == 45) := eq8 c 45
theorem eq58 (c : UInt8) : ((c.toNat : Int) == 58) = (c == 58) := eq8 c 58
def srvP (s : Bs) (i : Nat) : Bool := (s.drop (i + 1)).all digB && ((match s[i]? with | some c => c == 58 | none => false) && (decide (1 ≤ (s.drop (i + 1)).length) && decide ((s.drop (i + 1)).length ≤ 5)))
def serverR (s : Bs) : Bool := if nsr s 0 = 0 ∨ 255 < s.length then false else if nsr s 0 = s.length then true else srvP s (nsr s 0)
theorem sv_loop {s : Bs} {σ : Store} {K : List Item} {Q : Fr → Store → Prop} (hb : s.length < big) (hk : ∀ l : Fr, Ex ipU gU K ((0, .str s) :: (3, .int .i64 (nsr s 0 : Nat)) :: l) σ Q) :
    Ex ipU gU (.code F97_9 :: .inLoop [0, 3] F97_9 :: .inBlock 0 :: K) [(0, .str s), (3, .int .i64 0)] σ Q := by
  unfold big at hb
  refine ex_while (S := Nat) (fun j => [(0, .str s), (3, .int .i64 (j : Int))]) (fun _ => σ) (fun j => s.length - j) (fun j => nsr s j = nsr s 0) ?_ 0 rfl
  intro b j hj ih
  by_cases hlt : j < s.length
  · obtain ⟨c, hc⟩ := get_lt hlt
    have hcond := dlt hlt
    have hbyte := byte_get hc
    have hw := wsucc hlt (by omega)
    have q1 := r_letter c
    have q2 := r_digit c
    have hs : srvB c = (letB c || (digB c || (c == 46 || c == 45))) := rfl
    cases h1 : letB c with
    | true =>
      rw [h1, Bool.true_or] at hs
      have hk' := ih (j + 1)
      have hj' : nsr s (j + 1) = nsr s 0 := by rw [← nsr_hit hc hs]; exact hj
      simp only [S12Fa, EXA, Nat.reduceEqDiff, reduceIte, reduceCtorEq, Nat.reduceAdd, Nat.reduceLeDiff, Nat.reduceSub, Nat.reduceMul, Int.reduceEq, Int.reduceBEq, Int.reduceBNe, Int.reduceLT, Int.reduceLE, Nat.reduceLT, hcond, hbyte, q1, q2, h1, hw]
      exact ih (j + 1) _ _ (by omega) hj' rfl rfl
    | false =>
      rw [h1, Bool.false_or] at hs
      cases h2 : digB c with
      | true =>
        rw [h2, Bool.true_or] at hs
        have hj' : nsr s (j + 1) = nsr s 0 := by rw [← nsr_hit hc hs]; exact hj
        simp only [S12Fa, EXA, Nat.reduceEqDiff, reduceIte, reduceCtorEq, Nat.reduceAdd, Nat.reduceLeDiff, Nat.reduceSub, Nat.reduceMul, Int.reduceEq, Int.reduceBEq, Int.reduceBNe, Int.reduceLT, Int.reduceLE, Nat.reduceLT, hcond, hbyte, q1, q2, h1, h2, hw]
        exact ih (j + 1) _ _ (by omega) hj' rfl rfl
      | false =>
        rw [h2, Bool.false_or] at hs
        cases h3 : c == 46 with
        | true =>
          rw [h3, Bool.true_or] at hs
          have hj' : nsr s (j + 1) = nsr s 0 := by rw [← nsr_hit hc hs]; exact hj
          simp only [S12Fa, EXA, Nat.reduceEqDiff, reduceIte, reduceCtorEq, Nat.reduceAdd, Nat.reduceLeDiff, Nat.reduceSub, Nat.reduceMul, Int.reduceEq, Int.reduceBEq, Int.reduceBNe, Int.reduceLT, Int.reduceLE, Nat.reduceLT, hcond, hbyte, q1, q2, h1, h2, eq46, h3, hw]
          exact ih (j + 1) _ _ (by omega) hj' rfl rfl
        | false =>
          rw [h3, Bool.false_or] at hs
          cases h4 : c == 45 with
          | true =>
            rw [h4] at hs
            have hj' : nsr s (j + 1) = nsr s 0 := by rw [← nsr_hit hc hs]; exact hj
            simp only [S12Fa, EXA, Nat.reduceEqDiff, reduceIte, reduceCtorEq, Nat.reduceAdd, Nat.reduceLeDiff, Nat.reduceSub, Nat.reduceMul, Int.reduceEq, Int.reduceBEq, Int.reduceBNe, Int.reduceLT, Int.reduceLE, Nat.reduceLT, hcond, hbyte, q1, q2, h1, h2, eq46, eq45, h3, h4, hw]
            exact ih (j + 1) _ _ (by omega) hj' rfl rfl
          | false =>
            rw [h4] at hs
            rw [nsr_miss hc hs] at hj
            rw [← hj] at hk
            simp only [S12Fa, EXA, Nat.reduceEqDiff, reduceIte, reduceCtorEq, Nat.reduceAdd, Nat.reduceLeDiff, Nat.reduceSub, Nat.reduceMul, Int.reduceEq, Int.reduceBEq, Int.reduceBNe, Int.reduceLT, Int.reduceLE, Nat.reduceLT, hcond, hbyte, q1, q2, h1, h2, eq46, eq45, h3, h4]
            exact hk _
  · have hcond := dge (Nat.not_lt.1 hlt)
    rw [nsr_end (by omega)] at hj
    rw [← hj] at hk
    simp only [S12Fa, EXA, Nat.reduceEqDiff, reduceIte, reduceCtorEq, Nat.reduceAdd, Nat.reduceLeDiff, Nat.reduceSub, Nat.reduceMul, Int.reduceEq, Int.reduceBEq, Int.reduceBNe, Int.reduceLT, Int.reduceLE, Nat.reduceLT, hcond]
    exact hk _
theorem r_refServer (s : Bs) (hb : s.length < big) : cR 97 [.str s] = some (.bool (serverR s)) := by
  refine cR_of (F := F97) rfl ?_
  simp only [S12Fb, ex_loop, EXA, Nat.reduceEqDiff, reduceIte, reduceCtorEq, Nat.reduceAdd, Nat.reduceLeDiff, Nat.reduceSub, Nat.reduceMul, Int.reduceEq, Int.reduceBEq, Int.reduceBNe, Int.reduceLT, Int.reduceLE, Nat.reduceLT]
  refine sv_loop hb fun l => ?_
  unfold big at hb
  have hle := nsr_le s
  obtain ⟨r, hr⟩ : ∃ r, r = AV.bool (serverR s) := ⟨_, rfl⟩
  rw [← hr]
  unfold serverR at hr
  have h255 : decide ((s.length : Int) > 255) = decide (255 < s.length) := by rw [decide_eq_decide]; omega
  generalize hn : nsr s 0 = n at hr hle ⊢
  by_cases h0 : n = 0
  · subst h0
    have e0 : ((0 : Nat) : Int) == 0 := rfl
    rw [if_pos (Or.inl rfl)] at hr
    simp only [S12Fb, EXA, Nat.reduceEqDiff, reduceIte, reduceCtorEq, Nat.reduceAdd, Nat.reduceLeDiff, Nat.reduceSub, Nat.reduceMul, Int.reduceEq, Int.reduceBEq, Int.reduceBNe, Int.reduceLT, Int.reduceLE, Nat.reduceLT, hr, Int.ofNat_zero, Int.cast_ofNat_Int]
  · have e0 : ((n : Nat) : Int) == 0 ↔ False := by simp; omega
    have e0' : (((n : Nat) : Int) == 0) = false := by simp; omega
    by_cases hl : 255 < s.length
    · rw [if_pos (Or.inr hl)] at hr
      have hl' : decide (255 < s.length) = true := by simp [hl]
      simp only [S12Fb, EXA, Nat.reduceEqDiff, reduceIte, reduceCtorEq, Nat.reduceAdd, Nat.reduceLeDiff, Nat.reduceSub, Nat.reduceMul, Int.reduceEq, Int.reduceBEq, Int.reduceBNe, Int.reduceLT, Int.reduceLE, Nat.reduceLT, e0', h255, hl', hr]
    · rw [if_neg (by omega)] at hr
      have hl' : decide (255 < s.length) = false := by simp [hl]
      by_cases hN : n = s.length
      · rw [if_pos hN] at hr
        have e1 : ((n : Int) == (s.length : Int)) = true := by simp [hN]
        simp only [S12Fb, EXA, Nat.reduceEqDiff, reduceIte, reduceCtorEq, Nat.reduceAdd, Nat.reduceLeDiff, Nat.reduceSub, Nat.reduceMul, Int.reduceEq, Int.reduceBEq, Int.reduceBNe, Int.reduceLT, Int.reduceLE, Nat.reduceLT, e0', h255, hl', e1, hr]
      · rw [if_neg hN] at hr
        have e1 : ((n : Int) == (s.length : Int)) = false := by simp; omega
        have hlt : n < s.length := by omega
        have hw := wsucc hlt (by omega)
        have hsl : sliceSOf (.str s) (some (some ((n + 1 : Nat) : Int))) (some none) = some (.str (s.drop (n + 1))) := sliceS_lo (s := s) (i := ((n + 1 : Nat) : Int)) (by omega) (by omega)
        simp only [S12Fb, ex_loop, EXA, Nat.reduceEqDiff, reduceIte, reduceCtorEq, Nat.reduceAdd, Nat.reduceLeDiff, Nat.reduceSub, Nat.reduceMul, Int.reduceEq, Int.reduceBEq, Int.reduceBNe, Int.reduceLT, Int.reduceLE, Nat.reduceLT, e0', h255, hl', e1, hw, hsl]
        obtain ⟨c, hc⟩ := get_lt hlt
        have hbyte := byte_get hc
        generalize hp : s.drop (n + 1) = p at hr ⊢
        have hpl : p.length ≤ s.length := by rw [← hp, List.length_drop]; omega
        refine ex_while (S := Nat) (fun j => [(0, .str s), (3, .int .i64 (n : Int)), (4, .str p), (5, .int .i64 (j : Int))]) (fun _ => .empty) (fun j => p.length - j) (fun j => (p.drop j).all digB = p.all digB) ?_ 0 rfl
        intro b j hj ih
        by_cases hlt2 : j < p.length
        · obtain ⟨d, hd⟩ := get_lt hlt2
          have hcond := dlt hlt2
          have hbyte2 := byte_get hd
          have hw2 := wsucc hlt2 (by omega)
          have q2 := r_digit d
          rw [drop_cons hd, List.all_cons] at hj
          cases h2 : digB d with
          | true =>
            rw [h2, Bool.true_and] at hj
            simp only [S12Fa, EXA, Nat.reduceEqDiff, reduceIte, reduceCtorEq, Nat.reduceAdd, Nat.reduceLeDiff, Nat.reduceSub, Nat.reduceMul, Int.reduceEq, Int.reduceBEq, Int.reduceBNe, Int.reduceLT, Int.reduceLE, Nat.reduceLT, hcond, hbyte2, q2, h2, hw2]
            exact ih (j + 1) _ _ (by omega) hj rfl rfl
          | false =>
            rw [h2, Bool.false_and] at hj
            rw [srvP, hp, ← hj, Bool.false_and] at hr
            simp only [S12Fa, EXA, Nat.reduceEqDiff, reduceIte, reduceCtorEq, Nat.reduceAdd, Nat.reduceLeDiff, Nat.reduceSub, Nat.reduceMul, Int.reduceEq, Int.reduceBEq, Int.reduceBNe, Int.reduceLT, Int.reduceLE, Nat.reduceLT, hcond, hbyte2, q2, h2, hr]
        · have hcond := dge (Nat.not_lt.1 hlt2)
          rw [List.drop_eq_nil_of_le (by omega)] at hj
          rw [srvP, hp, ← hj, hc] at hr
          have g1 : decide ((p.length : Int) ≥ 1) = decide (1 ≤ p.length) := by rw [decide_eq_decide]; omega
          have g5 : decide ((p.length : Int) ≤ 5) = decide (p.length ≤ 5) := by rw [decide_eq_decide]; omega
          simp only [List.all_nil, Bool.true_and] at hr
          cases h58 : c == 58 with
          | false =>
            simp only [h58, Bool.false_and] at hr
            simp only [S12Fa, EXA, Nat.reduceEqDiff, reduceIte, reduceCtorEq, Nat.reduceAdd, Nat.reduceLeDiff, Nat.reduceSub, Nat.reduceMul, Int.reduceEq, Int.reduceBEq, Int.reduceBNe, Int.reduceLT, Int.reduceLE, Nat.reduceLT, hcond, hbyte, eq58, h58, hr]
          | true =>
            simp only [h58, Bool.true_and] at hr
            cases h1 : decide (1 ≤ p.length) with
            | false =>
              simp only [h1, Bool.false_and] at hr
              simp only [S12Fa, EXA, Nat.reduceEqDiff, reduceIte, reduceCtorEq, Nat.reduceAdd, Nat.reduceLeDiff, Nat.reduceSub, Nat.reduceMul, Int.reduceEq, Int.reduceBEq, Int.reduceBNe, Int.reduceLT, Int.reduceLE, Nat.reduceLT, hcond, hbyte, eq58, h58, g1, h1, hr]
            | true =>
              simp only [h1, Bool.true_and] at hr
              simp only [S12Fa, EXA, Nat.reduceEqDiff, reduceIte, reduceCtorEq, Nat.reduceAdd, Nat.reduceLeDiff, Nat.reduceSub, Nat.reduceMul, Int.reduceEq, Int.reduceBEq, Int.reduceBNe, Int.reduceLT, Int.reduceLE, Nat.reduceLT, hcond, hbyte, eq58, h58, g1, h1, g5, hr]
end Go.Ab
/- The document's names of servers and the program's are the same; names that begin with a sign. -/
namespace Go.Ab
set_option linter.unusedSimpArgs false
set_option linter.defProp false
set_option maxHeartbeats 1000000
def S13Fc := And.intro @F81_0.eq_1 (And.intro @F81_1.eq_1 (And.intro @F81_2.eq_1 (And.intro @F81_3.eq_1 (And.intro @F81_4.eq_1 (And.intro @F81_5.eq_1 (And.intro @F81_6.eq_1 (And.intro @F81_7.eq_1 (And.intro @F81_8.eq_1 (And.intro @F81_9.eq_1 (And.intro @F81_10.eq_1 (And.intro @F81_11.eq_1 (And.intro @F81_12.eq_1 (And.intro @F81_13.eq_1 (And.intro @F81_14.eq_1 (And.intro @F81_15.eq_1 (And.intro @F81_16.eq_1 (And.intro @F81_17.eq_1 (And.intro @F81_18.eq_1 (And.intro @F81_19.eq_1 (And.intro @F81_20.eq_1 (And.intro @F81_21.eq_1 (And.intro @F81_22.eq_1 (And.intro @F81_23.eq_1 (And.intro @F81_24.eq_1 (And.intro @F81_25.eq_1 (And.intro @F81_26.eq_1 (And.intro @F81_27.eq_1 (And.intro @F81_28.eq_1 (And.intro @F81_29.eq_1 (And.intro @F81_30.eq_1 (And.intro @F81_31.eq_1 (And.intro @F81_32.eq_1 (And.intro @F81_33.eq_1 (And.intro @F81_34.eq_1 (And.intro @F81_35.eq_1 (And.intro @F81_36.eq_1 (And.intro @F81_37.eq_1 (And.intro @F81_38.eq_1 (And.intro @F81_39.eq_1 (And.intro @F81_40.eq_1 (And.intro @F81_41.eq_1 (And.intro @F81_42.eq_1 (And.intro @F81_43.eq_1 (And.intro @F81_44.eq_1 (And.intro @F81_45.eq_1 (And.intro @F81_46.eq_1 (And.intro @F81_47.eq_1 (And.intro @F81_48.eq_1 (And.intro @F81_49.eq_1 (And.intro @F81_50.eq_1 (And.intro @F81_51.eq_1 (@F81.eq_1))))))))))))))))))))))))))))))))))))))))))))))))))))
set_option maxRecDepth 100000
theorem cutB_nil (x : UInt8) : cutB [] x = ([], [], false) := rfl
theorem cutB_cons (c x : UInt8) (r : Bs) : cutB (c :: r) x = if c = x then ([], r, true) else (c :: (cutB r x).1, (cutB r x).2.1, (cutB r x).2.2) := by
  unfold cutB
  rw [List.findIdx?_cons]
  by_cases h : c = x
  · subst h; simp
  · have hf : (c == x) = false := by simp [h]
    rw [hf, if_neg h]
    cases hq : r.findIdx? (fun b => b == x) <;> simp
theorem cutB_pre (x : UInt8) : ∀ (t d : Bs), (∀ b ∈ t, b ≠ x) → cutB (t ++ d) x = (t ++ (cutB d x).1, (cutB d x).2.1, (cutB d x).2.2)
  | [], d, _ => rfl
  | a :: t, d, h => by
    rw [List.cons_append, cutB_cons, if_neg (h a (by simp)), cutB_pre x t d (fun b hb => h b (by simp [hb]))]
    rfl
theorem srv_58 : srvB 58 = false := by decide +kernel
theorem allS_eq (n : Nat) (s : Bs) : allB (setB lettersS) n s = (s.all srvB && (decide (0 < s.length) && decide (s.length ≤ n))) := by
  unfold allB
  have : setB lettersS = srvB := by funext c; exact (srvB_eq c).symm
  rw [this]
theorem allD_eq (n : Nat) (s : Bs) : allB (setB digitsS) n s = (s.all digB && (decide (0 < s.length) && decide (s.length ≤ n))) := by
  unfold allB
  have : setB digitsS = digB := by funext c; exact (digB_eq c).symm
  rw [this]
theorem serverR_eq (s : Bs) : serverR s = serverB s := by
  unfold serverR serverB
  have hn : nsr s 0 = (s.takeWhile srvB).length := by unfold nsr; rw [List.drop_zero, Nat.zero_add]
  rw [hn, allS_eq, allD_eq]
  have hs : s = s.takeWhile srvB ++ s.dropWhile srvB := (List.takeWhile_append_dropWhile).symm
  have ht : ∀ b ∈ s.takeWhile srvB, srvB b = true := fun b hb => List.all_eq_true.1 List.all_takeWhile b hb
  have hd : ∀ c p, s.dropWhile srvB = c :: p → srvB c = false := by
    intro c p hcp
    have := List.head?_dropWhile_not srvB s
    rw [hcp] at this
    simpa using this
  generalize s.takeWhile srvB = t at hs ht ⊢
  generalize s.dropWhile srvB = d at hs hd
  have hall : t.all srvB = true := List.all_eq_true.2 ht
  have htc : ∀ b ∈ t, b ≠ 58 := fun b hb h => by have := ht b hb; rw [h, srv_58] at this; cases this
  have hcut := cutB_pre 58 t d htc
  cases d with
  | nil =>
    rw [List.append_nil] at hs
    rw [hs, ← List.append_nil t, hcut, cutB_nil]
    simp only [List.append_nil, Bool.false_and, Bool.not_false, Bool.true_and, hall]
    by_cases h0 : t.length = 0
    · simp [h0]
    · by_cases h255 : 255 < t.length
      · rw [if_pos (Or.inr h255)]
        have : ¬ t.length ≤ 255 := by omega
        simp [this]
      · rw [if_neg (by omega)]
        have h1 : t.length ≤ 255 := by omega
        have h2 : 0 < t.length := by omega
        simp [h1, h2]
  | cons c p =>
    have hc := hd c p rfl
    have hlen : s.length = t.length + (p.length + 1) := by rw [hs]; simp
    have hdrop : s.drop (t.length + 1) = p := by rw [hs, List.drop_append]; simp
    have hget : s[t.length]? = some c := by rw [hs]; simp
    rw [hs, hcut, cutB_cons, ← hs]
    by_cases h58 : c = 58
    · subst h58
      rw [if_pos rfl]
      simp only [List.append_nil, hall, Bool.true_and]
      by_cases h0 : t.length = 0
      · simp [h0]
      · by_cases h255 : 255 < s.length
        · rw [if_pos (Or.inr h255)]
          have : ¬ s.length ≤ 255 := by omega
          simp [this]
        · rw [if_neg (by omega), if_neg (by omega)]
          unfold srvP
          rw [hdrop, hget]
          have h1 : s.length ≤ 255 := by omega
          have h2 : 0 < t.length := by omega
          have h3 : t.length ≤ 255 := by omega
          simp [h1, h2, h3, Nat.succ_le_iff]
    · rw [if_neg h58]
      have hA : (t ++ c :: (cutB p 58).1).all srvB = false := by rw [List.all_append, List.all_cons, hc]; simp
      simp only [hA, Bool.false_and, Bool.and_false]
      by_cases h0 : t.length = 0 ∨ 255 < s.length
      · rw [if_pos h0]
      · rw [if_neg h0, if_neg (by omega)]
        unfold srvP
        rw [hget]
        have : (c == 58) = false := by simp [h58]
        simp [this]
/-- What the document's loop does. -/
def pR (pre : Bs) : Bs → Bs × Bs × Bool
  | [] => ([], [], false)
  | c :: r => if c = 58 then (if pre = [] ∨ serverR r = false then ([], [], false) else (pre, r, true)) else if c < 33 ∨ 126 < c then ([], [], false) else pR (pre ++ [c]) r
theorem pR_eq : ∀ (r pre : Bs), pR pre r = if (cutB r 58).2.2 = true ∧ (cutB r 58).1.all shownB = true ∧ pre ++ (cutB r 58).1 ≠ [] ∧ serverB (cutB r 58).2.1 = true then (pre ++ (cutB r 58).1, (cutB r 58).2.1, true) else ([], [], false)
  | [], pre => by rw [cutB_nil]; simp [pR]
  | c :: r, pre => by
    rw [pR, cutB_cons]
    by_cases h : c = 58
    · rw [if_pos h, if_pos h, serverR_eq]
      simp only [List.all_nil, List.append_nil, true_and]
      by_cases hp : pre = []
      · simp [hp]
      · cases hs : serverB r <;> simp [hp]
    · rw [if_neg h, if_neg h]
      simp only [List.all_cons]
      by_cases hc : c < 33 ∨ 126 < c
      · have : shownB c = false := by
          unfold shownB
          rcases hc with hc | hc
          · have : ¬ (33 ≤ c) := UInt8.not_le.2 hc
            simp [this]
          · have : ¬ (c ≤ 126) := UInt8.not_le.2 hc
            simp [this]
        rw [if_pos hc]
        simp [this]
      · have : shownB c = true := by
          unfold shownB
          have h1 : 33 ≤ c := UInt8.not_lt.1 fun h => hc (Or.inl h)
          have h2 : c ≤ 126 := UInt8.not_lt.1 fun h => hc (Or.inr h)
          simp [h1, h2, h]
        rw [if_neg hc, pR_eq r (pre ++ [c])]
        simp [this]
theorem partsB_pR (a : UInt8) (r : Bs) (sign : UInt8) (h1 : a = sign) (h2 : ¬ 255 < (a :: r).length) : partsB (a :: r) sign = pR [] r := by
  rw [pR_eq]
  have hl := (cutB_len r 58).1
  simp only [List.length_cons] at h2
  simp only [partsB, List.nil_append, List.length_cons]
  generalize cutB r 58 = x at hl ⊢
  obtain ⟨n, p, b⟩ := x
  simp only at hl ⊢
  have h3 : n.length ≤ 255 := by omega
  have h4 : r.length + 1 ≤ 255 := by omega
  have h5 : (0 < n.length) = (n ≠ []) := by rw [List.length_pos_iff]
  have e : allB shownB 255 n = true ↔ n.all shownB = true ∧ n ≠ [] := by
    unfold allB
    rw [Bool.and_eq_true, Bool.and_eq_true, decide_eq_true_eq, decide_eq_true_eq, h5]
    simp only [h3, and_true]
  have e2 : (a = sign ∧ r.length + 1 ≤ 255 ∧ b = true ∧ allB shownB 255 n = true ∧ serverB p = true) ↔ (b = true ∧ n.all shownB = true ∧ n ≠ [] ∧ serverB p = true) := by
    rw [e]
    simp only [h1, h4, true_and, and_assoc]
  by_cases hb : (b = true ∧ n.all shownB = true ∧ n ≠ [] ∧ serverB p = true)
  · rw [if_pos (e2.2 hb), if_pos hb]
  · rw [if_neg (fun h => hb (e2.1 h)), if_neg hb]
theorem sliceS_mid {s : Bs} {a b : Nat} (h : a ≤ b) (h2 : b ≤ s.length) : sliceSOf (.str s) (some (some (a : Int))) (some (some (b : Int))) = some (.str ((s.take b).drop a)) := by
  have : bounds s.length (some (a : Int)) (some (b : Int)) = some (a, b) := by
    simp [bounds]; omega
  simp [sliceSOf, this]
theorem eq8i (a b : UInt8) : ((a.toNat : Int) == (b.toNat : Int)) = (a == b) := eq8 a b
theorem l33 (c : UInt8) : decide ((c.toNat : Int) < 33) = decide (c < 33) := by rw [decide_eq_decide, UInt8.lt_iff_toNat_lt]; simp; omega
theorem g126 (c : UInt8) : decide ((c.toNat : Int) > 126) = decide (126 < c) := by rw [decide_eq_decide, UInt8.lt_iff_toNat_lt]; simp; omega
theorem r_refParted (s : Bs) (sign : UInt8) (hb : s.length < big) : cR 81 [.str s, .int .u8 sign.toNat] = some (.tup [.str (partsB s sign).1, .str (partsB s sign).2.1, .bool (partsB s sign).2.2]) := by
  refine cR_of (F := F81) rfl ?_
  obtain ⟨r, hr⟩ : ∃ r, r = AV.tup [.str (partsB s sign).1, .str (partsB s sign).2.1, .bool (partsB s sign).2.2] := ⟨_, rfl⟩
  rw [← hr]
  cases hs : s with
  | nil =>
    subst hs
    simp only [partsB] at hr
    have e0 : (((0 : Nat) : Int) == 0) = true := rfl
    simp only [S13Fc, EXA, Nat.reduceEqDiff, reduceIte, reduceCtorEq, Nat.reduceAdd, Nat.reduceLeDiff, Nat.reduceSub, Nat.reduceMul, Int.reduceEq, Int.reduceBEq, Int.reduceBNe, Int.reduceLT, Int.reduceLE, Nat.reduceLT, e0, hr]
  | cons a t =>
    rw [← hs]
    have e0 : ((s.length : Int) == 0) = false := by rw [hs, List.length_cons]; simp; omega
    have ha : byteAt (.str s) (.int .i64 0) = some (.int .u8 a.toNat) := by rw [hs]; rfl
    have h255 : decide ((s.length : Int) > 255) = decide (255 < s.length) := by rw [decide_eq_decide]; omega
    by_cases h1 : a = sign
    · have q1 : (a != sign) = false := by simp [h1]
      by_cases h2 : 255 < s.length
      · have : partsB s sign = ([], [], false) := by
          rw [hs] at h2 ⊢
          simp only [partsB]
          rw [if_neg (by omega)]
        rw [this] at hr
        have h2' : decide (255 < s.length) = true := by simp [h2]
        simp only [S13Fc, EXA, Nat.reduceEqDiff, reduceIte, reduceCtorEq, Nat.reduceAdd, Nat.reduceLeDiff, Nat.reduceSub, Nat.reduceMul, Int.reduceEq, Int.reduceBEq, Int.reduceBNe, Int.reduceLT, Int.reduceLE, Nat.reduceLT, e0, ha, ne8, q1, h255, h2', hr]
      · have h2' : decide (255 < s.length) = false := by simp [h2]
        have hp : partsB s sign = pR [] (s.drop 1) := by
          rw [hs] at h2 ⊢
          exact partsB_pR a t sign h1 h2
        rw [hp] at hr
        have hpos : 1 ≤ s.length := by rw [hs]; simp
        clear hp
        unfold big at hb
        simp only [F81_0, F81_1, F81_2, F81_3, F81_4, F81_5, F81_6, F81_7, F81_8, F81_9, F81_10, F81_11, F81_12, F81_13, F81_14, F81_15, F81_16, F81_17, F81_18, F81_19, F81_20, F81_21, F81_22, F81_23, F81_24, F81_25, F81_26, F81_27, F81_28, F81_29, F81_30, F81_31, F81_32, F81_33, F81_34, F81_35, F81_36, F81_37, F81_38, F81_40, F81_41, F81_42, F81_43, F81_44, F81_45, F81_46, F81_47, F81_48, F81_49, F81_50, F81_51, F81, ex_loop, EXA, Nat.reduceEqDiff, reduceIte, reduceCtorEq, Nat.reduceAdd, Nat.reduceLeDiff, Nat.reduceSub, Nat.reduceMul, Int.reduceEq, Int.reduceBEq, Int.reduceBNe, Int.reduceLT, Int.reduceLE, Nat.reduceLT, e0, ha, ne8, q1, h255, h2']
        refine ex_while (S := Nat) (fun j => [(0, .str s), (7, .int .i64 (j : Int))]) (fun _ => .empty) (fun j => s.length - j) (fun j => 1 ≤ j ∧ pR ((s.take j).drop 1) (s.drop j) = pR [] (s.drop 1)) ?_ 1 ⟨Nat.le_refl _, by rw [List.drop_eq_nil_of_le (by simp; omega)]⟩
        rintro b j ⟨hj1, hj⟩ ih
        by_cases hlt : j < s.length
        · obtain ⟨c, hc⟩ := get_lt hlt
          have hcond := dlt hlt
          have hbyte := byte_get hc
          have hw := wsucc hlt (by omega)
          have hsl : sliceSOf (.str s) (some (some ((j + 1 : Nat) : Int))) (some none) = some (.str (s.drop (j + 1))) := sliceS_lo (s := s) (i := ((j + 1 : Nat) : Int)) (by omega) (by omega)
          have hsl2 : sliceSOf (.str s) (some (some 1)) (some (some (j : Int))) = some (.str ((s.take j).drop 1)) := sliceS_mid (a := 1) hj1 (by omega)
          have hsrv := r_refServer (s.drop (j + 1)) (by rw [List.length_drop]; unfold big; omega)
          have hpre : ((s.take j).drop 1 = []) ↔ j = 1 := by
            rw [List.drop_eq_nil_iff, List.length_take]; omega
          rw [drop_cons hc, pR] at hj
          cases h58 : c == 58 with
          | true =>
            have h58' : c = 58 := by simpa using h58
            rw [if_pos h58'] at hj
            by_cases hj1' : j = 1
            · have ej : ((j : Int) == 1) = true := by simp [hj1']
              rw [if_pos (Or.inl (hpre.2 hj1'))] at hj
              rw [← hj] at hr
              simp only [S13Fc, EXA, Nat.reduceEqDiff, reduceIte, reduceCtorEq, Nat.reduceAdd, Nat.reduceLeDiff, Nat.reduceSub, Nat.reduceMul, Int.reduceEq, Int.reduceBEq, Int.reduceBNe, Int.reduceLT, Int.reduceLE, Nat.reduceLT, hcond, hbyte, eq58, h58, ej, hr]
            · have ej : ((j : Int) == 1) = false := by simp; omega
              cases hsv : serverR (s.drop (j + 1)) with
              | false =>
                rw [if_pos (Or.inr hsv)] at hj
                rw [← hj] at hr
                rw [hsv] at hsrv
                simp only [S13Fc, EXA, Nat.reduceEqDiff, reduceIte, reduceCtorEq, Nat.reduceAdd, Nat.reduceLeDiff, Nat.reduceSub, Nat.reduceMul, Int.reduceEq, Int.reduceBEq, Int.reduceBNe, Int.reduceLT, Int.reduceLE, Nat.reduceLT, hcond, hbyte, eq58, h58, ej, hw, hsl, hsrv, hr]
              | true =>
                rw [if_neg (by rw [hsv, hpre]; simp [hj1'])] at hj
                rw [← hj] at hr
                rw [hsv] at hsrv
                simp only [S13Fc, EXA, Nat.reduceEqDiff, reduceIte, reduceCtorEq, Nat.reduceAdd, Nat.reduceLeDiff, Nat.reduceSub, Nat.reduceMul, Int.reduceEq, Int.reduceBEq, Int.reduceBNe, Int.reduceLT, Int.reduceLE, Nat.reduceLT, hcond, hbyte, eq58, h58, ej, hw, hsl, hsl2, hsrv, hr]
          | false =>
            have h58' : c ≠ 58 := by simpa using h58
            rw [if_neg h58'] at hj
            cases hl : decide (c < 33) with
            | true =>
              rw [if_pos (Or.inl (by simpa using hl))] at hj
              rw [← hj] at hr
              simp only [S13Fc, EXA, Nat.reduceEqDiff, reduceIte, reduceCtorEq, Nat.reduceAdd, Nat.reduceLeDiff, Nat.reduceSub, Nat.reduceMul, Int.reduceEq, Int.reduceBEq, Int.reduceBNe, Int.reduceLT, Int.reduceLE, Nat.reduceLT, hcond, hbyte, eq58, h58, l33, hl, hr]
            | false =>
              cases hg : decide (126 < c) with
              | true =>
                rw [if_pos (Or.inr (by simpa using hg))] at hj
                rw [← hj] at hr
                simp only [S13Fc, EXA, Nat.reduceEqDiff, reduceIte, reduceCtorEq, Nat.reduceAdd, Nat.reduceLeDiff, Nat.reduceSub, Nat.reduceMul, Int.reduceEq, Int.reduceBEq, Int.reduceBNe, Int.reduceLT, Int.reduceLE, Nat.reduceLT, hcond, hbyte, eq58, h58, l33, hl, g126, hg, hr]
              | false =>
                rw [if_neg (by simp at hl hg ⊢; exact ⟨hl, hg⟩)] at hj
                simp only [S13Fc, EXA, Nat.reduceEqDiff, reduceIte, reduceCtorEq, Nat.reduceAdd, Nat.reduceLeDiff, Nat.reduceSub, Nat.reduceMul, Int.reduceEq, Int.reduceBEq, Int.reduceBNe, Int.reduceLT, Int.reduceLE, Nat.reduceLT, hcond, hbyte, eq58, h58, l33, hl, g126, hg, hw]
                refine ih (j + 1) _ _ (by omega) ⟨by omega, ?_⟩ rfl rfl
                rw [← hj, List.take_add_one, hc, List.drop_append, List.length_take]
                have : 1 - min j s.length = 0 := by omega
                rw [this]; rfl
        · have hcond := dge (Nat.not_lt.1 hlt)
          have hd : s.drop j = [] := List.drop_eq_nil_of_le (by omega)
          rw [hd, pR] at hj
          rw [← hj] at hr
          simp only [S13Fc, EXA, Nat.reduceEqDiff, reduceIte, reduceCtorEq, Nat.reduceAdd, Nat.reduceLeDiff, Nat.reduceSub, Nat.reduceMul, Int.reduceEq, Int.reduceBEq, Int.reduceBNe, Int.reduceLT, Int.reduceLE, Nat.reduceLT, hcond, hr]
    · have q1 : (a != sign) = true := by simp [h1]
      have : partsB s sign = ([], [], false) := by
        rw [hs]
        simp only [partsB]
        rw [if_neg (by simp [h1])]
      rw [this] at hr
      simp only [S13Fc, EXA, Nat.reduceEqDiff, reduceIte, reduceCtorEq, Nat.reduceAdd, Nat.reduceLeDiff, Nat.reduceSub, Nat.reduceMul, Int.reduceEq, Int.reduceBEq, Int.reduceBNe, Int.reduceLT, Int.reduceLE, Nat.reduceLT, e0, ha, ne8, q1, hr]
theorem r_refUser (s : Bs) (hb : s.length < big) : cR 71 [.str s] = some (.tup [.str (partsB s 64).1, .str (partsB s 64).2.1, .bool (partsB s 64).2.2]) := by
  have h : cR 81 [.str s, .int .u8 64] = _ := r_refParted s 64 hb
  refine cR_of (F := F71) rfl ?_
  simp only [F71_0, F71_1, F71_2, F71_3, F71_4, F71, EXA, Nat.reduceEqDiff, reduceIte, reduceCtorEq, Nat.reduceAdd, Nat.reduceLeDiff, Nat.reduceSub, Nat.reduceMul, Int.reduceEq, Int.reduceBEq, Int.reduceBNe, Int.reduceLT, Int.reduceLE, Nat.reduceLT, h]
theorem r_refIsUser (s : Bs) (hb : s.length < big) : cR 59 [.str s] = some (.bool (partsB s 64).2.2) := by
  have h := r_refUser s hb
  refine cR_of (F := F59) rfl ?_
  simp only [F59_0, F59_1, F59_2, F59_3, F59_4, F59_5, F59_6, F59_7, F59, EXA, Nat.reduceEqDiff, reduceIte, reduceCtorEq, Nat.reduceAdd, Nat.reduceLeDiff, Nat.reduceSub, Nat.reduceMul, Int.reduceEq, Int.reduceBEq, Int.reduceBNe, Int.reduceLT, Int.reduceLE, Nat.reduceLT, h]
end Go.Ab
