/- What functions of the program, and of the library, answer. Conditions: none. -/
import Derived.Test.YtgckcnggblomgaaGreatDoorLaw6
import Derived.Test.YtgckcnggblomgaaGreatDoorLaw5
import Derived.Test.YtgckcnggblomgaaGreatDoorLaw4
import Derived.Test.YtgckcnggblomgaaGreatDoorLaw2
set_option linter.unusedVariables false
set_option linter.unusedSimpArgs false
set_option linter.defProp false
/- The document's: names of servers. -/
namespace Go.Ab
set_option maxHeartbeats 1000000
def S12Fa := J @F97_5.eq_1 (J @F97_8.eq_1 (J @F97_9.eq_1 (J @F97_29.eq_1 (J @F97_40.eq_1 (J @F97_41.eq_1 (@F97.eq_1))))))
def S12Fb := J @F97_5.eq_1 (J @F97_8.eq_1 (J @F97_29.eq_1 (J @F97_40.eq_1 (@F97.eq_1))))
set_option maxRecDepth 100000
def nsr (s : Bs) (j : Nat) : Nat := j + ((s.drop j).takeWhile srvB).length
theorem nsr_hit {s : Bs} {j : Nat} {c : UInt8} (h : s[j]? = some c) (hc : srvB c = true) : nsr s j = nsr s (j + 1) := by
  unfold nsr
  rw [drop_cons h, List.takeWhile_cons, hc]
  simp; omega
theorem nsr_miss {s : Bs} {j : Nat} {c : UInt8} (h : s[j]? = some c) (hc : srvB c = false) : nsr s j = j := by
  unfold nsr
  rw [drop_cons h, List.takeWhile_cons, hc]
  simp
theorem nsr_end {s : Bs} {j : Nat} (h : s.length ≤ j) : nsr s j = j := by
  unfold nsr
  rw [List.drop_eq_nil_of_le h]; rfl
theorem nsr_le (s : Bs) : nsr s 0 ≤ s.length := by
  unfold nsr
  rw [List.drop_zero, Nat.zero_add]
  exact (List.takeWhile_sublist _).length_le
theorem eq8 (a b : UInt8) : ((a.toNat : Int) == (b.toNat : Int)) = (a == b) := by
  by_cases h : a = b
  · subst h; simp
  · have : (a.toNat : Int) ≠ (b.toNat : Int) := fun h' => h (UInt8.toNat_inj.1 (by omega))
    rw [beq_eq_false_iff_ne.2 this, beq_eq_false_iff_ne.2 h]
theorem eq46 (c : UInt8) : ((c.toNat : Int) == 46) = (c == 46) := eq8 c 46
theorem eq45 (c : UInt8) : ((c.toNat : Int) == 45) = (c == 45) := eq8 c 45
theorem eq58 (c : UInt8) : ((c.toNat : Int) == 58) = (c == 58) := eq8 c 58
def srvP (s : Bs) (i : Nat) : Bool := (s.drop (i + 1)).all digB && ((match s[i]? with | some c => c == 58 | none => false) && (decide (1 ≤ (s.drop (i + 1)).length) && decide ((s.drop (i + 1)).length ≤ 5)))
def serverR (s : Bs) : Bool := if nsr s 0 = 0 ∨ 255 < s.length then false else if nsr s 0 = s.length then true else srvP s (nsr s 0)
theorem sv_loop {s : Bs} {σ : Store} {K : List Item} {Q : Fr → Store → Prop} (hb : s.length < big) (hk : ∀ l : Fr, Ex ipU gU K ((0, .str s) :: (3, .int .i64 (nsr s 0 : Nat)) :: l) σ Q) :
    Ex ipU gU (.code F97_9 :: .inLoop [0, 3] F97_9 :: .inBlock 0 :: K) [(0, .str s), (3, .int .i64 0)] σ Q := by
  unfold big at hb
  refine ex_while (S := Nat) (fun j => [(0, .str s), (3, .int .i64 (j : Int))]) (fun _ => σ) (fun j => s.length - j) (fun j => nsr s j = nsr s 0) ?_ 0 rfl
  intro b j hj ih
  by_cases hlt : j < s.length
  · obtain ⟨c, hc⟩ := get_lt hlt
    have hcond := dlt hlt
    have hbyte := byte_get hc
    have hw := wsucc hlt (by omega)
    have q1 := r_letter c
    have q2 := r_digit c
    have hs : srvB c = (letB c || (digB c || (c == 46 || c == 45))) := rfl
    cases h1 : letB c with
    | true =>
      rw [h1, Bool.true_or] at hs
      have hk' := ih (j + 1)
      have hj' : nsr s (j + 1) = nsr s 0 := by rw [← nsr_hit hc hs]; exact hj
      simp only [S12Fa, EXA, Nat.reduceEqDiff, reduceIte, reduceCtorEq, Nat.reduceAdd, Nat.reduceLeDiff, Nat.reduceSub, Nat.reduceMul, Int.reduceEq, Int.reduceBEq, Int.reduceBNe, Int.reduceLT, Int.reduceLE, Nat.reduceLT, hcond, hbyte, q1, q2, h1, hw]
      exact ih (j + 1) _ _ (by omega) hj' rfl rfl
    | false =>
      rw [h1, Bool.false_or] at hs
      cases h2 : digB c with
      | true =>
        rw [h2, Bool.true_or] at hs
        have hj' : nsr s (j + 1) = nsr s 0 := by rw [← nsr_hit hc hs]; exact hj
        simp only [S12Fa, EXA, Nat.reduceEqDiff, reduceIte, reduceCtorEq, Nat.reduceAdd, Nat.reduceLeDiff, Nat.reduceSub, Nat.reduceMul, Int.reduceEq, Int.reduceBEq, Int.reduceBNe, Int.reduceLT, Int.reduceLE, Nat.reduceLT, hcond, hbyte, q1, q2, h1, h2, hw]
        exact ih (j + 1) _ _ (by omega) hj' rfl rfl
      | false =>
        rw [h2, Bool.false_or] at hs
        cases h3 : c == 46 with
        | true =>
          rw [h3, Bool.true_or] at hs
          have hj' : nsr s (j + 1) = nsr s 0 := by rw [← nsr_hit hc hs]; exact hj
          simp only [S12Fa, EXA, Nat.reduceEqDiff, reduceIte, reduceCtorEq, Nat.reduceAdd, Nat.reduceLeDiff, Nat.reduceSub, Nat.reduceMul, Int.reduceEq, Int.reduceBEq, Int.reduceBNe, Int.reduceLT, Int.reduceLE, Nat.reduceLT, hcond, hbyte, q1, q2, h1, h2, eq46, h3, hw]
          exact ih (j + 1) _ _ (by omega) hj' rfl rfl
        | false =>
          rw [h3, Bool.false_or] at hs
          cases h4 : c == 45 with
          | true =>
            rw [h4] at hs
            have hj' : nsr s (j + 1) = nsr s 0 := by rw [← nsr_hit hc hs]; exact hj
            simp only [S12Fa, EXA, Nat.reduceEqDiff, reduceIte, reduceCtorEq, Nat.reduceAdd, Nat.reduceLeDiff, Nat.reduceSub, Nat.reduceMul, Int.reduceEq, Int.reduceBEq, Int.reduceBNe, Int.reduceLT, Int.reduceLE, Nat.reduceLT, hcond, hbyte, q1, q2, h1, h2, eq46, eq45, h3, h4, hw]
            exact ih (j + 1) _ _ (by omega) hj' rfl rfl
          | false =>
            rw [h4] at hs
            rw [nsr_miss hc hs] at hj
            rw [← hj] at hk
            simp only [S12Fa, EXA, Nat.reduceEqDiff, reduceIte, reduceCtorEq, Nat.reduceAdd, Nat.reduceLeDiff, Nat.reduceSub, Nat.reduceMul, Int.reduceEq, Int.reduceBEq, Int.reduceBNe, Int.reduceLT, Int.reduceLE, Nat.reduceLT, hcond, hbyte, q1, q2, h1, h2, eq46, eq45, h3, h4]
            exact hk _
  · have hcond := dge (Nat.not_lt.1 hlt)
    rw [nsr_end (by omega)] at hj
    rw [← hj] at hk
    simp only [S12Fa, EXA, Nat.reduceEqDiff, reduceIte, reduceCtorEq, Nat.reduceAdd, Nat.reduceLeDiff, Nat.reduceSub, Nat.reduceMul, Int.reduceEq, Int.reduceBEq, Int.reduceBNe, Int.reduceLT, Int.reduceLE, Nat.reduceLT, hcond]
    exact hk _
theorem r_refServer (s : Bs) (hb : s.length < big) : cR 97 [.str s] = some (.bool (serverR s)) := by
  refine cR_of (F := F97) rfl ?_
  simp only [S12Fb, ex_loop, EXA, Nat.reduceEqDiff, reduceIte, reduceCtorEq, Nat.reduceAdd, Nat.reduceLeDiff, Nat.reduceSub, Nat.reduceMul, Int.reduceEq, Int.reduceBEq, Int.reduceBNe, Int.reduceLT, Int.reduceLE, Nat.reduceLT]
  refine sv_loop hb fun l => ?_
  unfold big at hb
  have hle := nsr_le s
  obtain ⟨r, hr⟩ : ∃ r, r = AV.bool (serverR s) := ⟨_, rfl⟩
  rw [← hr]
  unfold serverR at hr
  have h255 : decide ((s.length : Int) > 255) = decide (255 < s.length) := by rw [decide_eq_decide]; omega
  generalize hn : nsr s 0 = n at hr hle ⊢
  by_cases h0 : n = 0
  · subst h0
    have e0 : ((0 : Nat) : Int) == 0 := rfl
    rw [if_pos (Or.inl rfl)] at hr
    simp only [S12Fb, EXA, Nat.reduceEqDiff, reduceIte, reduceCtorEq, Nat.reduceAdd, Nat.reduceLeDiff, Nat.reduceSub, Nat.reduceMul, Int.reduceEq, Int.reduceBEq, Int.reduceBNe, Int.reduceLT, Int.reduceLE, Nat.reduceLT, hr, Int.ofNat_zero, Int.cast_ofNat_Int]
  · have e0 : ((n : Nat) : Int) == 0 ↔ False := by simp; omega
    have e0' : (((n : Nat) : Int) == 0) = false := by simp; omega
    by_cases hl : 255 < s.length
    · rw [if_pos (Or.inr hl)] at hr
      have hl' : decide (255 < s.length) = true := by simp [hl]
      simp only [S12Fb, EXA, Nat.reduceEqDiff, reduceIte, reduceCtorEq, Nat.reduceAdd, Nat.reduceLeDiff, Nat.reduceSub, Nat.reduceMul, Int.reduceEq, Int.reduceBEq, Int.reduceBNe, Int.reduceLT, Int.reduceLE, Nat.reduceLT, e0', h255, hl', hr]
    · rw [if_neg (by omega)] at hr
      have hl' : decide (255 < s.length) = false := by simp [hl]
      by_cases hN : n = s.length
      · rw [if_pos hN] at hr
        have e1 : ((n : Int) == (s.length : Int)) = true := by simp [hN]
        simp only [S12Fb, EXA, Nat.reduceEqDiff, reduceIte, reduceCtorEq, Nat.reduceAdd, Nat.reduceLeDiff, Nat.reduceSub, Nat.reduceMul, Int.reduceEq, Int.reduceBEq, Int.reduceBNe, Int.reduceLT, Int.reduceLE, Nat.reduceLT, e0', h255, hl', e1, hr]
      · rw [if_neg hN] at hr
        have e1 : ((n : Int) == (s.length : Int)) = false := by simp; omega
        have hlt : n < s.length := by omega
        have hw := wsucc hlt (by omega)
        have hsl : sliceSOf (.str s) (some (some ((n + 1 : Nat) : Int))) (some none) = some (.str (s.drop (n + 1))) := sliceS_lo (s := s) (i := ((n + 1 : Nat) : Int)) (by omega) (by omega)
        simp only [S12Fb, ex_loop, EXA, Nat.reduceEqDiff, reduceIte, reduceCtorEq, Nat.reduceAdd, Nat.reduceLeDiff, Nat.reduceSub, Nat.reduceMul, Int.reduceEq, Int.reduceBEq, Int.reduceBNe, Int.reduceLT, Int.reduceLE, Nat.reduceLT, e0', h255, hl', e1, hw, hsl]
        obtain ⟨c, hc⟩ := get_lt hlt
        have hbyte := byte_get hc
        generalize hp : s.drop (n + 1) = p at hr ⊢
        have hpl : p.length ≤ s.length := by rw [← hp, List.length_drop]; omega
        refine ex_while (S := Nat) (fun j => [(0, .str s), (3, .int .i64 (n : Int)), (4, .str p), (5, .int .i64 (j : Int))]) (fun _ => .empty) (fun j => p.length - j) (fun j => (p.drop j).all digB = p.all digB) ?_ 0 rfl
        intro b j hj ih
        by_cases hlt2 : j < p.length
        · obtain ⟨d, hd⟩ := get_lt hlt2
          have hcond := dlt hlt2
          have hbyte2 := byte_get hd
          have hw2 := wsucc hlt2 (by omega)
          have q2 := r_digit d
          rw [drop_cons hd, List.all_cons] at hj
          cases h2 : digB d with
          | true =>
            rw [h2, Bool.true_and] at hj
            simp only [S12Fa, EXA, Nat.reduceEqDiff, reduceIte, reduceCtorEq, Nat.reduceAdd, Nat.reduceLeDiff, Nat.reduceSub, Nat.reduceMul, Int.reduceEq, Int.reduceBEq, Int.reduceBNe, Int.reduceLT, Int.reduceLE, Nat.reduceLT, hcond, hbyte2, q2, h2, hw2]
            exact ih (j + 1) _ _ (by omega) hj rfl rfl
          | false =>
            rw [h2, Bool.false_and] at hj
            rw [srvP, hp, ← hj, Bool.false_and] at hr
            simp only [S12Fa, EXA, Nat.reduceEqDiff, reduceIte, reduceCtorEq, Nat.reduceAdd, Nat.reduceLeDiff, Nat.reduceSub, Nat.reduceMul, Int.reduceEq, Int.reduceBEq, Int.reduceBNe, Int.reduceLT, Int.reduceLE, Nat.reduceLT, hcond, hbyte2, q2, h2, hr]
        · have hcond := dge (Nat.not_lt.1 hlt2)
          rw [List.drop_eq_nil_of_le (by omega)] at hj
          rw [srvP, hp, ← hj, hc] at hr
          have g1 : decide ((p.length : Int) ≥ 1) = decide (1 ≤ p.length) := by rw [decide_eq_decide]; omega
          have g5 : decide ((p.length : Int) ≤ 5) = decide (p.length ≤ 5) := by rw [decide_eq_decide]; omega
          simp only [List.all_nil, Bool.true_and] at hr
          cases h58 : c == 58 with
          | false =>
            simp only [h58, Bool.false_and] at hr
            simp only [S12Fa, EXA, Nat.reduceEqDiff, reduceIte, reduceCtorEq, Nat.reduceAdd, Nat.reduceLeDiff, Nat.reduceSub, Nat.reduceMul, Int.reduceEq, Int.reduceBEq, Int.reduceBNe, Int.reduceLT, Int.reduceLE, Nat.reduceLT, hcond, hbyte, eq58, h58, hr]
          | true =>
            simp only [h58, Bool.true_and] at hr
            cases h1 : decide (1 ≤ p.length) with
            | false =>
              simp only [h1, Bool.false_and] at hr
              simp only [S12Fa, EXA, Nat.reduceEqDiff, reduceIte, reduceCtorEq, Nat.reduceAdd, Nat.reduceLeDiff, Nat.reduceSub, Nat.reduceMul, Int.reduceEq, Int.reduceBEq, Int.reduceBNe, Int.reduceLT, Int.reduceLE, Nat.reduceLT, hcond, hbyte, eq58, h58, g1, h1, hr]
            | true =>
              simp only [h1, Bool.true_and] at hr
              simp only [S12Fa, EXA, Nat.reduceEqDiff, reduceIte, reduceCtorEq, Nat.reduceAdd, Nat.reduceLeDiff, Nat.reduceSub, Nat.reduceMul, Int.reduceEq, Int.reduceBEq, Int.reduceBNe, Int.reduceLT, Int.reduceLE, Nat.reduceLT, hcond, hbyte, eq58, h58, g1, h1, g5, hr]
end Go.Ab
/- The document's names of servers and the program's are the same; names that begin with a sign. -/
namespace Go.Ab
set_option maxHeartbeats 1000000
def S13Fc := J @F81_11.eq_1 (J @F81_38.eq_1 (J @F81_39.eq_1 (@F81.eq_1)))
set_option maxRecDepth 100000
theorem cutB_nil (x : UInt8) : cutB [] x = ([], [], false) := rfl
theorem cutB_cons (c x : UInt8) (r : Bs) : cutB (c :: r) x = if c = x then ([], r, true) else (c :: (cutB r x).1, (cutB r x).2.1, (cutB r x).2.2) := by
  unfold cutB
  rw [List.findIdx?_cons]
  by_cases h : c = x
  · subst h; simp
  · have hf : (c == x) = false := by simp [h]
    rw [hf, if_neg h]
    cases hq : r.findIdx? (fun b => b == x) <;> simp
theorem cutB_pre (x : UInt8) : ∀ (t d : Bs), (∀ b ∈ t, b ≠ x) → cutB (t ++ d) x = (t ++ (cutB d x).1, (cutB d x).2.1, (cutB d x).2.2)
  | [], d, _ => rfl
  | a :: t, d, h => by
    rw [List.cons_append, cutB_cons, if_neg (h a (by simp)), cutB_pre x t d (fun b hb => h b (by simp [hb]))]
    rfl
theorem srv_58 : srvB 58 = false := by decide +kernel
theorem allS_eq (n : Nat) (s : Bs) : allB (setB lettersS) n s = (s.all srvB && (decide (0 < s.length) && decide (s.length ≤ n))) := by
  unfold allB
  have : setB lettersS = srvB := by funext c; exact (srvB_eq c).symm
  rw [this]
theorem allD_eq (n : Nat) (s : Bs) : allB (setB digitsS) n s = (s.all digB && (decide (0 < s.length) && decide (s.length ≤ n))) := by
  unfold allB
  have : setB digitsS = digB := by funext c; exact (digB_eq c).symm
  rw [this]
theorem serverR_eq (s : Bs) : serverR s = serverB s := by
  unfold serverR serverB
  have hn : nsr s 0 = (s.takeWhile srvB).length := by unfold nsr; rw [List.drop_zero, Nat.zero_add]
  rw [hn, allS_eq, allD_eq]
  have hs : s = s.takeWhile srvB ++ s.dropWhile srvB := (List.takeWhile_append_dropWhile).symm
  have ht : ∀ b ∈ s.takeWhile srvB, srvB b = true := fun b hb => List.all_eq_true.1 List.all_takeWhile b hb
  have hd : ∀ c p, s.dropWhile srvB = c :: p → srvB c = false := by
    intro c p hcp
    have := List.head?_dropWhile_not srvB s
    rw [hcp] at this
    simpa using this
  generalize s.takeWhile srvB = t at hs ht ⊢
  generalize s.dropWhile srvB = d at hs hd
  have hall : t.all srvB = true := List.all_eq_true.2 ht
  have htc : ∀ b ∈ t, b ≠ 58 := fun b hb h => by have := ht b hb; rw [h, srv_58] at this; cases this
  have hcut := cutB_pre 58 t d htc
  cases d with
  | nil =>
    rw [List.append_nil] at hs
    rw [hs, ← List.append_nil t, hcut, cutB_nil]
    simp only [List.append_nil, Bool.false_and, Bool.not_false, Bool.true_and, hall]
    by_cases h0 : t.length = 0
    · simp [h0]
    · by_cases h255 : 255 < t.length
      · rw [if_pos (Or.inr h255)]
        have : ¬ t.length ≤ 255 := by omega
        simp [this]
      · rw [if_neg (by omega)]
        have h1 : t.length ≤ 255 := by omega
        have h2 : 0 < t.length := by omega
        simp [h1, h2]
  | cons c p =>
    have hc := hd c p rfl
    have hlen : s.length = t.length + (p.length + 1) := by rw [hs]; simp
    have hdrop : s.drop (t.length + 1) = p := by rw [hs, List.drop_append]; simp
    have hget : s[t.length]? = some c := by rw [hs]; simp
    rw [hs, hcut, cutB_cons, ← hs]
    by_cases h58 : c = 58
    · subst h58
      rw [if_pos rfl]
      simp only [List.append_nil, hall, Bool.true_and]
      by_cases h0 : t.length = 0
      · simp [h0]
      · by_cases h255 : 255 < s.length
        · rw [if_pos (Or.inr h255)]
          have : ¬ s.length ≤ 255 := by omega
          simp [this]
        · rw [if_neg (by omega), if_neg (by omega)]
          unfold srvP
          rw [hdrop, hget]
          have h1 : s.length ≤ 255 := by omega
          have h2 : 0 < t.length := by omega
          have h3 : t.length ≤ 255 := by omega
          simp [h1, h2, h3, Nat.succ_le_iff]
    · rw [if_neg h58]
      have hA : (t ++ c :: (cutB p 58).1).all srvB = false := by rw [List.all_append, List.all_cons, hc]; simp
      simp only [hA, Bool.false_and, Bool.and_false]
      by_cases h0 : t.length = 0 ∨ 255 < s.length
      · rw [if_pos h0]
      · rw [if_neg h0, if_neg (by omega)]
        unfold srvP
        rw [hget]
        have : (c == 58) = false := by simp [h58]
        simp [this]
/-- What the document's loop does. -/
def pR (pre : Bs) : Bs → Bs × Bs × Bool
  | [] => ([], [], false)
  | c :: r => if c = 58 then (if pre = [] ∨ serverR r = false then ([], [], false) else (pre, r, true)) else if c < 33 ∨ 126 < c then ([], [], false) else pR (pre ++ [c]) r
theorem pR_eq : ∀ (r pre : Bs), pR pre r = if (cutB r 58).2.2 = true ∧ (cutB r 58).1.all shownB = true ∧ pre ++ (cutB r 58).1 ≠ [] ∧ serverB (cutB r 58).2.1 = true then (pre ++ (cutB r 58).1, (cutB r 58).2.1, true) else ([], [], false)
  | [], pre => by rw [cutB_nil]; simp [pR]
  | c :: r, pre => by
    rw [pR, cutB_cons]
    by_cases h : c = 58
    · rw [if_pos h, if_pos h, serverR_eq]
      simp only [List.all_nil, List.append_nil, true_and]
      by_cases hp : pre = []
      · simp [hp]
      · cases hs : serverB r <;> simp [hp]
    · rw [if_neg h, if_neg h]
      simp only [List.all_cons]
      by_cases hc : c < 33 ∨ 126 < c
      · have : shownB c = false := by
          unfold shownB
          rcases hc with hc | hc
          · have : ¬ (33 ≤ c) := UInt8.not_le.2 hc
            simp [this]
          · have : ¬ (c ≤ 126) := UInt8.not_le.2 hc
            simp [this]
        rw [if_pos hc]
        simp [this]
      · have : shownB c = true := by
          unfold shownB
          have h1 : 33 ≤ c := UInt8.not_lt.1 fun h => hc (Or.inl h)
          have h2 : c ≤ 126 := UInt8.not_lt.1 fun h => hc (Or.inr h)
          simp [h1, h2, h]
        rw [if_neg hc, pR_eq r (pre ++ [c])]
        simp [this]
theorem partsB_pR (a : UInt8) (r : Bs) (sign : UInt8) (h1 : a = sign) (h2 : ¬ 255 < (a :: r).length) : partsB (a :: r) sign = pR [] r := by
  rw [pR_eq]
  have hl := (cutB_len r 58).1
  simp only [List.length_cons] at h2
  simp only [partsB, List.nil_append, List.length_cons]
  generalize cutB r 58 = x at hl ⊢
  obtain ⟨n, p, b⟩ := x
  simp only at hl ⊢
  have h3 : n.length ≤ 255 := by omega
  have h4 : r.length + 1 ≤ 255 := by omega
  have h5 : (0 < n.length) = (n ≠ []) := by rw [List.length_pos_iff]
  have e : allB shownB 255 n = true ↔ n.all shownB = true ∧ n ≠ [] := by
    unfold allB
    rw [Bool.and_eq_true, Bool.and_eq_true, decide_eq_true_eq, decide_eq_true_eq, h5]
    simp only [h3, and_true]
  have e2 : (a = sign ∧ r.length + 1 ≤ 255 ∧ b = true ∧ allB shownB 255 n = true ∧ serverB p = true) ↔ (b = true ∧ n.all shownB = true ∧ n ≠ [] ∧ serverB p = true) := by
    rw [e]
    simp only [h1, h4, true_and, and_assoc]
  by_cases hb : (b = true ∧ n.all shownB = true ∧ n ≠ [] ∧ serverB p = true)
  · rw [if_pos (e2.2 hb), if_pos hb]
  · rw [if_neg (fun h => hb (e2.1 h)), if_neg hb]
theorem sliceS_mid {s : Bs} {a b : Nat} (h : a ≤ b) (h2 : b ≤ s.length) : sliceSOf (.str s) (some (some (a : Int))) (some (some (b : Int))) = some (.str ((s.take b).drop a)) := by
  have : bounds s.length (some (a : Int)) (some (b : Int)) = some (a, b) := by
    simp [bounds]; omega
  simp [sliceSOf, this]
theorem l33 (c : UInt8) : decide ((c.toNat : Int) < 33) = decide (c < 33) := by rw [decide_eq_decide, UInt8.lt_iff_toNat_lt]; simp; omega
theorem g126 (c : UInt8) : decide ((c.toNat : Int) > 126) = decide (126 < c) := by rw [decide_eq_decide, UInt8.lt_iff_toNat_lt]; simp; omega
theorem r_refParted (s : Bs) (sign : UInt8) (hb : s.length < big) : cR 81 [.str s, .int .u8 sign.toNat] = some (.tup [.str (partsB s sign).1, .str (partsB s sign).2.1, .bool (partsB s sign).2.2]) := by
  refine cR_of (F := F81) rfl ?_
  obtain ⟨r, hr⟩ : ∃ r, r = AV.tup [.str (partsB s sign).1, .str (partsB s sign).2.1, .bool (partsB s sign).2.2] := ⟨_, rfl⟩
  rw [← hr]
  cases hs : s with
  | nil =>
    subst hs
    simp only [partsB] at hr
    have e0 : (((0 : Nat) : Int) == 0) = true := rfl
    simp only [S13Fc, EXA, Nat.reduceEqDiff, reduceIte, reduceCtorEq, Nat.reduceAdd, Nat.reduceLeDiff, Nat.reduceSub, Nat.reduceMul, Int.reduceEq, Int.reduceBEq, Int.reduceBNe, Int.reduceLT, Int.reduceLE, Nat.reduceLT, e0, hr]
  | cons a t =>
    rw [← hs]
    have e0 : ((s.length : Int) == 0) = false := by rw [hs, List.length_cons]; simp; omega
    have ha : byteAt (.str s) (.int .i64 0) = some (.int .u8 a.toNat) := by rw [hs]; rfl
    have h255 : decide ((s.length : Int) > 255) = decide (255 < s.length) := by rw [decide_eq_decide]; omega
    by_cases h1 : a = sign
    · have q1 : (a != sign) = false := by simp [h1]
      by_cases h2 : 255 < s.length
      · have : partsB s sign = ([], [], false) := by
          rw [hs] at h2 ⊢
          simp only [partsB]
          rw [if_neg (by omega)]
        rw [this] at hr
        have h2' : decide (255 < s.length) = true := by simp [h2]
        simp only [S13Fc, EXA, Nat.reduceEqDiff, reduceIte, reduceCtorEq, Nat.reduceAdd, Nat.reduceLeDiff, Nat.reduceSub, Nat.reduceMul, Int.reduceEq, Int.reduceBEq, Int.reduceBNe, Int.reduceLT, Int.reduceLE, Nat.reduceLT, e0, ha, ne8, q1, h255, h2', hr]
      · have h2' : decide (255 < s.length) = false := by simp [h2]
        have hp : partsB s sign = pR [] (s.drop 1) := by
          rw [hs] at h2 ⊢
          exact partsB_pR a t sign h1 h2
        rw [hp] at hr
        have hpos : 1 ≤ s.length := by rw [hs]; simp
        clear hp
        unfold big at hb
        simp only [F81_11, F81_38, F81, ex_loop, EXA, Nat.reduceEqDiff, reduceIte, reduceCtorEq, Nat.reduceAdd, Nat.reduceLeDiff, Nat.reduceSub, Nat.reduceMul, Int.reduceEq, Int.reduceBEq, Int.reduceBNe, Int.reduceLT, Int.reduceLE, Nat.reduceLT, e0, ha, ne8, q1, h255, h2']
        refine ex_while (S := Nat) (fun j => [(0, .str s), (7, .int .i64 (j : Int))]) (fun _ => .empty) (fun j => s.length - j) (fun j => 1 ≤ j ∧ pR ((s.take j).drop 1) (s.drop j) = pR [] (s.drop 1)) ?_ 1 ⟨Nat.le_refl _, by rw [List.drop_eq_nil_of_le (by simp; omega)]⟩
        rintro b j ⟨hj1, hj⟩ ih
        by_cases hlt : j < s.length
        · obtain ⟨c, hc⟩ := get_lt hlt
          have hcond := dlt hlt
          have hbyte := byte_get hc
          have hw := wsucc hlt (by omega)
          have hsl : sliceSOf (.str s) (some (some ((j + 1 : Nat) : Int))) (some none) = some (.str (s.drop (j + 1))) := sliceS_lo (s := s) (i := ((j + 1 : Nat) : Int)) (by omega) (by omega)
          have hsl2 : sliceSOf (.str s) (some (some 1)) (some (some (j : Int))) = some (.str ((s.take j).drop 1)) := sliceS_mid (a := 1) hj1 (by omega)
          have hsrv := r_refServer (s.drop (j + 1)) (by rw [List.length_drop]; unfold big; omega)
          have hpre : ((s.take j).drop 1 = []) ↔ j = 1 := by
            rw [List.drop_eq_nil_iff, List.length_take]; omega
          rw [drop_cons hc, pR] at hj
          cases h58 : c == 58 with
          | true =>
            have h58' : c = 58 := by simpa using h58
            rw [if_pos h58'] at hj
            by_cases hj1' : j = 1
            · have ej : ((j : Int) == 1) = true := by simp [hj1']
              rw [if_pos (Or.inl (hpre.2 hj1'))] at hj
              rw [← hj] at hr
              simp only [S13Fc, EXA, Nat.reduceEqDiff, reduceIte, reduceCtorEq, Nat.reduceAdd, Nat.reduceLeDiff, Nat.reduceSub, Nat.reduceMul, Int.reduceEq, Int.reduceBEq, Int.reduceBNe, Int.reduceLT, Int.reduceLE, Nat.reduceLT, hcond, hbyte, eq58, h58, ej, hr]
            · have ej : ((j : Int) == 1) = false := by simp; omega
              cases hsv : serverR (s.drop (j + 1)) with
              | false =>
                rw [if_pos (Or.inr hsv)] at hj
                rw [← hj] at hr
                rw [hsv] at hsrv
                simp only [S13Fc, EXA, Nat.reduceEqDiff, reduceIte, reduceCtorEq, Nat.reduceAdd, Nat.reduceLeDiff, Nat.reduceSub, Nat.reduceMul, Int.reduceEq, Int.reduceBEq, Int.reduceBNe, Int.reduceLT, Int.reduceLE, Nat.reduceLT, hcond, hbyte, eq58, h58, ej, hw, hsl, hsrv, hr]
              | true =>
                rw [if_neg (by rw [hsv, hpre]; simp [hj1'])] at hj
                rw [← hj] at hr
                rw [hsv] at hsrv
                simp only [S13Fc, EXA, Nat.reduceEqDiff, reduceIte, reduceCtorEq, Nat.reduceAdd, Nat.reduceLeDiff, Nat.reduceSub, Nat.reduceMul, Int.reduceEq, Int.reduceBEq, Int.reduceBNe, Int.reduceLT, Int.reduceLE, Nat.reduceLT, hcond, hbyte, eq58, h58, ej, hw, hsl, hsl2, hsrv, hr]
          | false =>
            have h58' : c ≠ 58 := by simpa using h58
            rw [if_neg h58'] at hj
            cases hl : decide (c < 33) with
            | true =>
              rw [if_pos (Or.inl (by simpa using hl))] at hj
              rw [← hj] at hr
              simp only [S13Fc, EXA, Nat.reduceEqDiff, reduceIte, reduceCtorEq, Nat.reduceAdd, Nat.reduceLeDiff, Nat.reduceSub, Nat.reduceMul, Int.reduceEq, Int.reduceBEq, Int.reduceBNe, Int.reduceLT, Int.reduceLE, Nat.reduceLT, hcond, hbyte, eq58, h58, l33, hl, hr]
            | false =>
              cases hg : decide (126 < c) with
              | true =>
                rw [if_pos (Or.inr (by simpa using hg))] at hj
                rw [← hj] at hr
                simp only [S13Fc, EXA, Nat.reduceEqDiff, reduceIte, reduceCtorEq, Nat.reduceAdd, Nat.reduceLeDiff, Nat.reduceSub, Nat.reduceMul, Int.reduceEq, Int.reduceBEq, Int.reduceBNe, Int.reduceLT, Int.reduceLE, Nat.reduceLT, hcond, hbyte, eq58, h58, l33, hl, g126, hg, hr]
              | false =>
                rw [if_neg (by simp at hl hg ⊢; exact ⟨hl, hg⟩)] at hj
                simp only [S13Fc, EXA, Nat.reduceEqDiff, reduceIte, reduceCtorEq, Nat.reduceAdd, Nat.reduceLeDiff, Nat.reduceSub, Nat.reduceMul, Int.reduceEq, Int.reduceBEq, Int.reduceBNe, Int.reduceLT, Int.reduceLE, Nat.reduceLT, hcond, hbyte, eq58, h58, l33, hl, g126, hg, hw]
                refine ih (j + 1) _ _ (by omega) ⟨by omega, ?_⟩ rfl rfl
                rw [← hj, List.take_add_one, hc, List.drop_append, List.length_take]
                have : 1 - min j s.length = 0 := by omega
                rw [this]; rfl
        · have hcond := dge (Nat.not_lt.1 hlt)
          have hd : s.drop j = [] := List.drop_eq_nil_of_le (by omega)
          rw [hd, pR] at hj
          rw [← hj] at hr
          simp only [S13Fc, EXA, Nat.reduceEqDiff, reduceIte, reduceCtorEq, Nat.reduceAdd, Nat.reduceLeDiff, Nat.reduceSub, Nat.reduceMul, Int.reduceEq, Int.reduceBEq, Int.reduceBNe, Int.reduceLT, Int.reduceLE, Nat.reduceLT, hcond, hr]
    · have q1 : (a != sign) = true := by simp [h1]
      have : partsB s sign = ([], [], false) := by
        rw [hs]
        simp only [partsB]
        rw [if_neg (by simp [h1])]
      rw [this] at hr
      simp only [S13Fc, EXA, Nat.reduceEqDiff, reduceIte, reduceCtorEq, Nat.reduceAdd, Nat.reduceLeDiff, Nat.reduceSub, Nat.reduceMul, Int.reduceEq, Int.reduceBEq, Int.reduceBNe, Int.reduceLT, Int.reduceLE, Nat.reduceLT, e0, ha, ne8, q1, hr]
theorem r_refUser (s : Bs) (hb : s.length < big) : cR 71 [.str s] = some (.tup [.str (partsB s 64).1, .str (partsB s 64).2.1, .bool (partsB s 64).2.2]) := by
  have h : cR 81 [.str s, .int .u8 64] = _ := r_refParted s 64 hb
  refine cR_of (F := F71) rfl ?_
  simp only [F71, EXA, Nat.reduceEqDiff, reduceIte, reduceCtorEq, Nat.reduceAdd, Nat.reduceLeDiff, Nat.reduceSub, Nat.reduceMul, Int.reduceEq, Int.reduceBEq, Int.reduceBNe, Int.reduceLT, Int.reduceLE, Nat.reduceLT, h]
end Go.Ab
/- The document's: an invite of a third kind, who speaks for somebody. -/
namespace Go.Ab
set_option maxHeartbeats 1000000
set_option maxRecDepth 100000
theorem getR_fine {v : V} (k : Bs) (hf : v.fine = true) : getR v k = getV v k := by
  unfold getR
  by_cases h5 : v.kind = 5
  · rw [if_pos h5, getV_rises k h5 (fine_rises h5 hf)]
    try (cases lookM v.m k <;> rfl)
  · rw [if_neg h5, getV_other k h5]
theorem lookM_mem {k : Bs} {x : V} : ∀ {m : List Mem}, lookM m k = some x → ∃ e ∈ m, e.2 = x
  | [], h => by simp [lookM] at h
  | (a, y) :: m, h => by
    rw [lookM] at h
    split at h
    · exact ⟨(a, y), by simp, Option.some.inj h⟩
    · obtain ⟨e, he, hx⟩ := lookM_mem h
      exact ⟨e, by simp [he], hx⟩
theorem V.zero_fine : V.zero.fine = true := by rw [V.fine_eq]; decide
theorem fine_m {v : V} (h5 : v.kind = 5) (h : v.fine = true) : fineM none v.m = true := by
  rw [V.fine_eq, h5] at h
  simp only [Int.reduceEq, if_false, if_true] at h
  simp only [Bool.and_eq_true] at h
  exact h.2
theorem getR_fineV {v : V} (k : Bs) (hf : v.fine = true) : (getR v k).1.fine = true := by
  unfold getR
  by_cases h5 : v.kind = 5
  · rw [if_pos h5]
    cases hl : lookM v.m k with
    | none => exact V.zero_fine
    | some x =>
      obtain ⟨e, he, hx⟩ := lookM_mem hl
      rw [← hx]
      exact (fineM_mem (fine_m h5 hf) e he).1
  · rw [if_neg h5]; exact V.zero_fine
theorem getR_sz (v : V) (k : Bs) : (getR v k).1.sz ≤ v.sz := by
  unfold getR
  have hz := V.zero_sz
  have hp := v.sz_pos
  split
  · cases hl : lookM v.m k with
    | none => simp only; omega
    | some x =>
      obtain ⟨e, he, hx⟩ := lookM_mem hl
      have := szM_mem he
      have := v.sz_eq
      rw [hx] at *
      simp only; omega
  · simp only; omega
theorem textR_fine {v : V} (k : Bs) (h : v.fine = true) : textR v k = textAt v k := by
  unfold textR textAt
  rw [getR_fine k h]
end Go.Ab
/- Members that are deleted: slices.IndexFunc, slices.DeleteFunc over members. -/
namespace Go.Ab
set_option maxHeartbeats 1000000
set_option maxRecDepth 100000
theorem callS_ex {id : Nat} {F : IFunc} (hF : ipU id = some F) {first args caps : List AV} {σ : Store} {Q : AV → Store → Prop}
    (h : Ex ipU gU [.code F.body] (initFr (first ++ args ++ caps)) σ fun fr' σ1 => ∃ r, resAll fr' σ1 F.res = some r ∧ Q r σ1) : ∃ r σ', callS ipU gU (.fn id first caps) args σ = some (r, σ') ∧ Q r σ' := by
  obtain ⟨n, fr', σ1, h1, r, h2, h3⟩ := h
  exact ⟨r, σ1, callS_of hF (first := first) (args := args) (caps := caps) ⟨n, fr', σ1, h1, h2, rfl⟩, h3⟩
theorem idx_mem {l : List Mem} {j : Nat} {e : Mem} {c : Option Nat} (h : l[j]? = some e) : idxOf 6 none (.vsl (l.map memE) c) (.int .i64 (j : Int)) = some (.vptr (memE e).cells 0) := idx_map (f := memE) h (by simp [memE_cells])
/-- Read out: the beginning of a block of one's own. -/
theorem rb_slp {σ : Store} {d b n sz : Nat} {cells rest : List AV} (h : σ.cells b = some (cells ++ rest)) (h2 : cells.length = n * sz) (hs : 0 < sz) (hc : closedL cells = true) (ha : cells.all AV.notAgg = true) :
    rb σ (d + 1) (.sl b 0 n sz none) = some (.vsl (chunks sz n cells) none) := by
  have ht : List.take (n * sz) (List.drop 0 (cells ++ rest)) = cells := by rw [List.drop_zero, ← h2, List.take_left]
  have e : rb σ (d + 1) (.sl b 0 n sz none) = (match σ.cells b with
      | some cs =>
        if 0 + n * sz ≤ cs.length ∧ 0 < sz then
          match mapO (rb σ d) ((cs.drop 0).take (n * sz)) with
          | some cs' => if cs'.all AV.notAgg then some (.vsl (chunks sz n cs') none) else none
          | none => none
        else none
      | none => none) := rfl
  rw [e, h]
  simp only
  rw [if_pos ⟨by rw [List.length_append]; omega, hs⟩, ht, mapO_closed' hc]
  simp only
  rw [if_pos ha]
/-- A list that lies at the beginning of a block. -/
def Rp {α : Type} (L : Lay α) (σ : Store) (v : AV) (l : List α) : Prop := (l = [] ∧ (v = .nils ∨ v = .vsl [] (some 0))) ∨ ∃ b rest, v = .sl b 0 l.length L.sz none ∧ σ.get b = some (.own (L.cells l ++ rest))
theorem Rp.rbD {α : Type} {L : Lay α} {σ : Store} {v : AV} {l : List α} (h : Rp L σ v l) (d : Nat) : ∃ v', Go.Ab.rb σ (d + 1) v = some v' ∧ v'.er = .vsl (l.map L.f) none := by
  rcases h with ⟨rfl, rfl | rfl⟩ | ⟨b, rest, rfl, h⟩
  · exact ⟨_, rfl, by simp only [AV.er]; rfl⟩
  · exact ⟨_, rb_closed' rfl, by simp only [AV.er, erL]; rfl⟩
  · refine ⟨_, rb_slp (cells := L.cells l) (rest := rest) (by simp [Store.cells, h]) (L.cells_len l) L.pos (L.cells_closed l) (one_notAgg (L.cells_one l)), ?_⟩
    rw [L.chunks]; simp only [AV.er, L.erMap]
theorem RbL.rp {α : Type} {L : Lay α} {σ : Store} {d : Nat} {v : AV} {l : List α} {cs cs' : List AV} (hv : Rp L σ v l) (h : RbL σ (d + 1) cs cs') : RbL σ (d + 1) (v :: cs) (.vsl (l.map L.f) none :: cs') := by
  obtain ⟨m, h1, h2⟩ := h
  obtain ⟨v', h3, h4⟩ := hv.rbD d
  exact ⟨v' :: m, by simp only [mapO, h3, h1], by simp only [erL, h2, h4]⟩
end Go.Ab
/- b64.get: how many bytes, and whether there is an error. -/
namespace Go.Ab
set_option maxHeartbeats 1000000
def W2Fb := J @F164_4.eq_1 (J @F164_37.eq_1 (J @F164_38.eq_1 (J @F164_52.eq_1 (J @F164_53.eq_1 (@F164.eq_1)))))
def W2Fd := J @F164_4.eq_1 (J @F164_37.eq_1 (J @F164_38.eq_1 (J @F164_52.eq_1 (@F164.eq_1))))
set_option maxRecDepth 100000
def LB : Lay Int where
  f := .int .u8
  sz := 1
  pos := by decide
  len _ := rfl
  closed _ := rfl
  er _ := by simp only [AV.er]
  one _ := rfl
  agg _ := rfl
/-- Is the sign known? -/
def okC (c : UInt8) : Bool := decide (numB c < 64)
def lastV (s : Bs) : Nat := match s.getLast? with
  | some c => numB c
  | none => 0
/-- A text without error. -/
def okB (s : Bs) : Bool := s.all okC && (decide (6 * s.length % 8 < 6) && decide (lastV s % 2 ^ (6 * s.length % 8) = 0))
theorem take_succ' {s : Bs} {j : Nat} {c : UInt8} (h : s[j]? = some c) : s.take (j + 1) = s.take j ++ [c] := by
  rw [List.take_add_one, h]; rfl
def sh6 (x : Int) : Int := IntKind.wrap .u64 (x * 2 ^ (min (6 : Int).toNat (IntKind.bits .u64)))
theorem shl_6 (x : Int) : shiftInt .shl .u64 x 6 = some (.int .u64 (sh6 x)) := rfl
def shrN (x : Int) (n : Nat) : Int := x.fdiv (2 ^ (min (n : Int).toNat (IntKind.bits .u64)))
theorem shr_N (x : Int) (n : Nat) : shiftInt .shr .u64 x (n : Int) = some (.int .u64 (shrN x n)) := by
  unfold shiftInt
  rw [if_neg (by omega)]; rfl
/-- Six bits more. -/
theorem shl_or {left : Int} {v : Nat} (h0 : 0 ≤ left) (hv : v < 64) :
    ∃ l' : Int, IntKind.wrap .u64 ((BitVec.ofInt (IntKind.bits .u64) (sh6 left) ||| BitVec.ofInt (IntKind.bits .u64) (IntKind.wrap .u64 (v : Int))).toNat : Int) = l' ∧ 0 ≤ l' ∧ l' % 64 = v := by
  refine ⟨_, rfl, ?_, ?_⟩
  · simp only [IntKind.wrap, IntKind.bits, IntKind.signed, Bool.false_eq_true, if_false, Bool.false_and]
    exact Int.emod_nonneg _ (by decide)
  · obtain ⟨m, rfl⟩ := Int.eq_ofNat_of_zero_le h0
    have e1 : sh6 (m : Int) = ((m * 64 % 2 ^ 64 : Nat) : Int) := by
      simp [sh6, IntKind.wrap, IntKind.bits, IntKind.signed]
    have e2 : (IntKind.wrap .u64 (v : Int)) = ((v : Nat) : Int) := by
      simp [IntKind.wrap, IntKind.bits, IntKind.signed]; omega
    rw [e1, e2]
    have e3 : (BitVec.ofInt (IntKind.bits .u64) ((m * 64 % 2 ^ 64 : Nat) : Int) ||| BitVec.ofInt (IntKind.bits .u64) ((v : Nat) : Int)).toNat = (m * 64 % 2 ^ 64) ||| v := by
      show (BitVec.ofInt 64 ((m * 64 % 2 ^ 64 : Nat) : Int) ||| BitVec.ofInt 64 ((v : Nat) : Int)).toNat = _
      rw [BitVec.toNat_or, BitVec.ofInt_natCast, BitVec.ofInt_natCast, BitVec.toNat_ofNat, BitVec.toNat_ofNat, Nat.mod_mod, Nat.mod_eq_of_lt (show v < 2 ^ 64 by omega)]
    rw [e3]
    have e4 : ((m * 64 % 2 ^ 64) ||| v) < 2 ^ 64 := Nat.or_lt_two_pow (Nat.mod_lt _ (by decide)) (by omega)
    have e5 : ((m * 64 % 2 ^ 64) ||| v) % 64 = v := by
      rw [show (64 : Nat) = 2 ^ 6 from rfl, Nat.or_mod_two_pow, show m * 2 ^ 6 % 2 ^ 64 % 2 ^ 6 = 0 by omega, Nat.zero_or]; omega
    generalize ((m * 64 % 2 ^ 64) ||| v) = x at e4 e5 ⊢
    simp only [IntKind.wrap, IntKind.bits, IntKind.signed, Bool.false_eq_true, if_false, Bool.false_and]
    omega
/-- The low bits. -/
theorem and_low {left : Int} (h : 0 ≤ left) (r : Nat) (hr : r ≤ 6) : IntKind.wrap .u64 ((BitVec.ofInt (IntKind.bits .u64) left &&& BitVec.ofInt (IntKind.bits .u64) (2 ^ r - 1)).toNat : Int) = left % 2 ^ r := by
  obtain ⟨m, rfl⟩ := Int.eq_ofNat_of_zero_le h
  have hp : 2 ^ r ≤ 64 := by
    have := Nat.pow_le_pow_right (n := 2) (by decide) hr
    simpa using this
  have hp0 : 0 < 2 ^ r := Nat.two_pow_pos r
  have e0 : ((2 : Int) ^ r - 1) = ((2 ^ r - 1 : Nat) : Int) := by
    rw [Int.ofNat_sub (by omega)]; simp
  have e1 : (BitVec.ofInt (IntKind.bits .u64) (m : Int) &&& BitVec.ofInt (IntKind.bits .u64) (2 ^ r - 1)).toNat = m % 2 ^ r := by
    rw [e0]
    show (BitVec.ofInt 64 (m : Int) &&& BitVec.ofInt 64 ((2 ^ r - 1 : Nat) : Int)).toNat = _
    rw [BitVec.toNat_and, BitVec.ofInt_natCast, BitVec.ofInt_natCast, BitVec.toNat_ofNat, BitVec.toNat_ofNat, Nat.mod_eq_of_lt (show 2 ^ r - 1 < 2 ^ 64 by omega), Nat.and_two_pow_sub_one_eq_mod]
    exact Nat.mod_mod_of_dvd m (Nat.pow_dvd_pow 2 (by omega))
  rw [e1]
  have : m % 2 ^ r < 64 := Nat.lt_of_lt_of_le (Nat.mod_lt _ hp0) hp
  have e2 : ((m : Int) % 2 ^ r) = ((m % 2 ^ r : Nat) : Int) := by simp
  rw [e2]
  generalize m % 2 ^ r = x at this
  simp only [IntKind.wrap, IntKind.bits, IntKind.signed, Bool.false_eq_true, if_false, Bool.false_and]
  omega
structure GSt where
  j : Nat
  ob : Option Nat
  out : List Int
  left : Int
  n : Nat
def fG : AV := .fn 163 [aURL] []
theorem callG (c : UInt8) : callR ipU gU fG [.int .u8 c.toNat] = some (.int .u8 (numB c)) := by
  have h := r_num64 c
  unfold cR at h
  exact h
theorem callG' (c : UInt8) (σ : Store) : callP ipU gU false fG [.int .u8 c.toNat] σ = some (.int .u8 (numB c), σ) :=
  callP_flat (args' := [.int .u8 c.toNat]) rfl rfl (callG c) rfl
def GInv (s : Bs) (t : GSt) (σ : Store) : Prop := t.j ≤ s.length ∧ (s.take t.j).all okC = true ∧ t.n = 6 * t.j % 8 ∧ t.out.length = 6 * t.j / 8 ∧ Own LB σ t.ob t.out ∧ 0 ≤ t.left ∧ t.left % 64 = lastV (s.take t.j)
def GRes (s : Bs) (r : AV) (σ : Store) : Prop := ∃ (bs : List Int) (e : Int), rbE σ r = some (.tup [.vsl (bs.map (AV.int .u8)) none, .int .i64 e]) ∧ (e == 0) = okB s ∧ (okB s = true → bs.length = 6 * s.length / 8)
theorem g_err {s : Bs} {σ : Store} (h : okB s = false) : GRes s (.tup [.nils, .int .i64 2]) σ := ⟨[], 2, rfl, by rw [h]; rfl, by rw [h]; intro h; cases h⟩
theorem RbL.tup {σ : Store} {cs cs' : List AV} (h : RbL σ 23 cs cs') : rbE σ (.tup cs) = some (.tup cs') := by
  obtain ⟨m, h1, h2⟩ := h
  unfold rbE
  by_cases hc : (AV.tup cs).closed = true
  · have : m = cs := by
      have hm := mapO_closed' (σ := σ) (d := 23) (show closedL cs = true by simpa [AV.closed] using hc)
      rw [h1] at hm
      exact Option.some.inj hm
    subst this
    rw [rb_closed' hc, Option.map_some, AV.er, h2]
  · have e : rb σ rbDepth (.tup cs) = some (.tup m) := by
      show rb σ (23 + 1) (.tup cs) = _
      rw [rb, if_neg hc, h1]
    rw [e, Option.map_some, AV.er, h2]
theorem Own.gr {α : Type} {L : Lay α} {σ : Store} {ob : Option Nat} {l : List α} (h : Own L σ ob l) : Gr L σ (slOf L.sz ob l.length) l := by
  cases ob with
  | none => exact .inl ⟨rfl, List.eq_nil_of_length_eq_zero h.1⟩
  | some b => exact Gr.own h
theorem rbE_tup2 {σ : Store} {v : AV} {l : List Int} {e : Int} (h : Gr LB σ v l) : rbE σ (.tup [v, .int .i64 e]) = some (.tup [.vsl (l.map (AV.int .u8)) none, .int .i64 e]) := by
  have := RbL.tup (RbL.gr (d := 22) h (RbL.clo (x := .int .i64 e) rfl (RbL.nil _ _)))
  simp only [AV.er] at this; exact this
theorem okB_bad {s : Bs} (h : s.all okC = false) : okB s = false := by unfold okB; rw [h]; rfl
theorem get_ex (s : Bs) (hb : s.length < lim) : ∃ r σ', callS ipU gU (.fn 164 [] []) [.str s, fG] .empty = some (r, σ') ∧ GRes s r σ' := by
  unfold lim at hb
  refine callS_ex (F := F164) rfl (first := []) (caps := []) ?_
  simp only [F164_4, F164_37, F164_52, F164, ex_loop, EXA, Nat.reduceEqDiff, reduceIte, reduceCtorEq, Nat.reduceAdd, Nat.reduceLeDiff, Nat.reduceSub, Nat.reduceMul, Int.reduceEq, Int.reduceBEq, Int.reduceBNe, Int.reduceLT, Int.reduceLE, Nat.reduceLT, VX]
  refine ex_whileI (S := GSt) (fun t => [(0, .str s), (1, fG), (6, slOf 1 t.ob t.out.length), (7, .int .u64 t.left), (8, .int .u64 (t.n : Int)), (12, .int .i64 s.length), (13, .int .i64 (t.j : Int))]) (fun t => s.length - t.j) (GInv s) ?_ ⟨0, none, [], 0, 0⟩ .empty ⟨by simp, rfl, rfl, rfl, Own.nil _ _, by decide, rfl⟩
  rintro b ⟨j, ob, out, left, n⟩ σ ⟨h1, h2, h3, h4, h5, h6, h7⟩ ih
  simp only at h1 h2 h3 h4 h5 h6 h7
  by_cases hlt : j < s.length
  · obtain ⟨c, hc⟩ := get_lt hlt
    have hcond := dlt hlt
    have hbyte := byte_get hc
    have hcall := callG' c σ
    have hw := wsucc hlt (by omega)
    have hle := numB_le c
    by_cases hv : numB c = 64
    · have he : ((numB c : Int) == 64) = true := by simp [hv]
      have hbad : okB s = false := okB_bad (by
        rw [List.all_eq_false]
        exact ⟨c, List.mem_of_getElem? hc, by simp [okC, hv]⟩)
      simp only [W2Fd, EXA, Nat.reduceEqDiff, reduceIte, reduceCtorEq, Nat.reduceAdd, Nat.reduceLeDiff, Nat.reduceSub, Nat.reduceMul, Int.reduceEq, Int.reduceBEq, Int.reduceBNe, Int.reduceLT, Int.reduceLE, Nat.reduceLT, VX, hcond, hbyte, hcall, he]
      exact ⟨_, rfl, g_err hbad⟩
    · have he : ((numB c : Int) == 64) = false := by simp; omega
      obtain ⟨l', hl', hl0, hl6⟩ := shl_or (v := numB c) h6 (by omega)
      have hw8 : IntKind.wrap .u64 ((n : Int) + 6) = ((n + 6 : Nat) : Int) := by simp [IntKind.wrap, IntKind.bits, IntKind.signed]; omega
      have hok : (s.take (j + 1)).all okC = true := by
        rw [take_succ' hc, List.all_append, h2]
        simp [okC]; omega
      have hlast : l' % 64 = lastV (s.take (j + 1)) := by
        rw [hl6, take_succ' hc]; simp [lastV]
      simp only [W2Fd, EXA, Nat.reduceEqDiff, reduceIte, reduceCtorEq, Nat.reduceAdd, Nat.reduceLeDiff, Nat.reduceSub, Nat.reduceMul, Int.reduceEq, Int.reduceBEq, Int.reduceBNe, Int.reduceLT, Int.reduceLE, Nat.reduceLT, VX, hcond, hbyte, hcall, he, shl_6, hl', hw8, hw]
      by_cases h8 : 8 ≤ n + 6
      · have hg : decide (((n + 6 : Nat) : Int) ≥ 8) = true := by simp; omega
        have hw9 : IntKind.wrap .u64 (((n + 6 : Nat) : Int) - 8) = ((n - 2 : Nat) : Int) := by simp [IntKind.wrap, IntKind.bits, IntKind.signed]; omega
        obtain ⟨z, hz⟩ : ∃ z, IntKind.wrap .u8 (shrN l' (n - 2)) = z := ⟨_, rfl⟩
        obtain ⟨σ2, happ, hown, _, _⟩ := h5.push (a := z) (bytes := 1) (by decide) (by unfold maxBytes; omega)
        have happ' : appendTo σ 1 1 (slOf 1 ob out.length) [AV.int .u8 z] 1 = some (slOf 1 (some σ.next) (out ++ [z]).length, σ2) := happ
        have hlo : lenOf (.vsl [AV.int .u8 z] (some 1)) = some 1 := rfl
        have hro : rowOf σ 1 (.vsl [AV.int .u8 z] (some 1)) = some [AV.int .u8 z] := rfl
        simp only [W2Fd, EXA, Nat.reduceEqDiff, reduceIte, reduceCtorEq, Nat.reduceAdd, Nat.reduceLeDiff, Nat.reduceSub, Nat.reduceMul, Int.reduceEq, Int.reduceBEq, Int.reduceBNe, Int.reduceLT, Int.reduceLE, Nat.reduceLT, VX, hg, hw9, hw, shr_N, hz, hlo, hro, happ']
        exact ih ⟨j + 1, some σ.next, out ++ [z], l', n - 2⟩ _ _ (by simp only; omega) ⟨hlt, hok, by simp only; omega, by simp only [List.length_append, List.length_cons, List.length_nil]; omega, hown, hl0, hlast⟩ rfl
      · have hg : decide (((n + 6 : Nat) : Int) ≥ 8) = false := by simp; omega
        simp only [W2Fd, EXA, Nat.reduceEqDiff, reduceIte, reduceCtorEq, Nat.reduceAdd, Nat.reduceLeDiff, Nat.reduceSub, Nat.reduceMul, Int.reduceEq, Int.reduceBEq, Int.reduceBNe, Int.reduceLT, Int.reduceLE, Nat.reduceLT, VX, hg, hw]
        exact ih ⟨j + 1, ob, out, l', n + 6⟩ _ _ (by simp only; omega) ⟨hlt, hok, by simp only; omega, by simp only; omega, h5, hl0, hlast⟩ rfl
  · have hcond := dge (Nat.not_lt.1 hlt)
    have hj : j = s.length := by omega
    subst hj
    rw [List.take_length] at h2 h7
    simp only [W2Fd, EXA, Nat.reduceEqDiff, reduceIte, reduceCtorEq, Nat.reduceAdd, Nat.reduceLeDiff, Nat.reduceSub, Nat.reduceMul, Int.reduceEq, Int.reduceBEq, Int.reduceBNe, Int.reduceLT, Int.reduceLE, Nat.reduceLT, VX, hcond]
    have hokB : okB s = (decide (n < 6) && decide (lastV s % 2 ^ n = 0)) := by unfold okB; rw [h2, h3, Bool.true_and]
    rcases (by omega : n = 0 ∨ n = 2 ∨ n = 4 ∨ n = 6) with hn | hn | hn | hn <;> (clear h3; subst hn)
    · have hg : decide (((0 : Nat) : Int) ≥ 6) = false := rfl
      have hs : shiftInt .shl .u64 1 ((0 : Nat) : Int) = some (.int .u64 1) := rfl
      have hm : IntKind.wrap .u64 (1 - 1) = 2 ^ 0 - 1 := rfl
      have ha := and_low h6 0 (by decide)
      have hd : left % 2 ^ 0 = ((lastV s % 2 ^ 0 : Nat) : Int) := by omega
      rw [hd] at ha
      by_cases hz : lastV s % 2 ^ 0 = 0
      · have hne : (((lastV s % 2 ^ 0 : Nat) : Int) != 0) = false := by rw [hz]; rfl
        simp only [W2Fb, EXA, Nat.reduceEqDiff, reduceIte, reduceCtorEq, Nat.reduceAdd, Nat.reduceLeDiff, Nat.reduceSub, Nat.reduceMul, Int.reduceEq, Int.reduceBEq, Int.reduceBNe, Int.reduceLT, Int.reduceLE, Nat.reduceLT, VX, hg, hs, hm, ha, hne]
        refine ⟨_, rfl, out, 0, rbE_tup2 h5.gr, by rw [hokB, hz]; rfl, fun _ => h4⟩
      · have hne : (((lastV s % 2 ^ 0 : Nat) : Int) != 0) = true := by rw [bne_iff_ne]; omega
        simp only [W2Fb, EXA, Nat.reduceEqDiff, reduceIte, reduceCtorEq, Nat.reduceAdd, Nat.reduceLeDiff, Nat.reduceSub, Nat.reduceMul, Int.reduceEq, Int.reduceBEq, Int.reduceBNe, Int.reduceLT, Int.reduceLE, Nat.reduceLT, VX, hg, hs, hm, ha, hne]
        exact ⟨_, rfl, g_err (by rw [hokB, decide_eq_false hz, Bool.and_false])⟩
    · have hg : decide (((2 : Nat) : Int) ≥ 6) = false := rfl
      have hs : shiftInt .shl .u64 1 ((2 : Nat) : Int) = some (.int .u64 4) := rfl
      have hm : IntKind.wrap .u64 (4 - 1) = 2 ^ 2 - 1 := rfl
      have ha := and_low h6 2 (by decide)
      have hd : left % 2 ^ 2 = ((lastV s % 2 ^ 2 : Nat) : Int) := by omega
      rw [hd] at ha
      by_cases hz : lastV s % 2 ^ 2 = 0
      · have hne : (((lastV s % 2 ^ 2 : Nat) : Int) != 0) = false := by rw [hz]; rfl
        simp only [W2Fb, EXA, Nat.reduceEqDiff, reduceIte, reduceCtorEq, Nat.reduceAdd, Nat.reduceLeDiff, Nat.reduceSub, Nat.reduceMul, Int.reduceEq, Int.reduceBEq, Int.reduceBNe, Int.reduceLT, Int.reduceLE, Nat.reduceLT, VX, hg, hs, hm, ha, hne]
        refine ⟨_, rfl, out, 0, rbE_tup2 h5.gr, by rw [hokB, hz]; rfl, fun _ => h4⟩
      · have hne : (((lastV s % 2 ^ 2 : Nat) : Int) != 0) = true := by rw [bne_iff_ne]; omega
        simp only [W2Fb, EXA, Nat.reduceEqDiff, reduceIte, reduceCtorEq, Nat.reduceAdd, Nat.reduceLeDiff, Nat.reduceSub, Nat.reduceMul, Int.reduceEq, Int.reduceBEq, Int.reduceBNe, Int.reduceLT, Int.reduceLE, Nat.reduceLT, VX, hg, hs, hm, ha, hne]
        exact ⟨_, rfl, g_err (by rw [hokB, decide_eq_false hz, Bool.and_false])⟩
    · have hg : decide (((4 : Nat) : Int) ≥ 6) = false := rfl
      have hs : shiftInt .shl .u64 1 ((4 : Nat) : Int) = some (.int .u64 16) := rfl
      have hm : IntKind.wrap .u64 (16 - 1) = 2 ^ 4 - 1 := rfl
      have ha := and_low h6 4 (by decide)
      have hd : left % 2 ^ 4 = ((lastV s % 2 ^ 4 : Nat) : Int) := by omega
      rw [hd] at ha
      by_cases hz : lastV s % 2 ^ 4 = 0
      · have hne : (((lastV s % 2 ^ 4 : Nat) : Int) != 0) = false := by rw [hz]; rfl
        simp only [W2Fb, EXA, Nat.reduceEqDiff, reduceIte, reduceCtorEq, Nat.reduceAdd, Nat.reduceLeDiff, Nat.reduceSub, Nat.reduceMul, Int.reduceEq, Int.reduceBEq, Int.reduceBNe, Int.reduceLT, Int.reduceLE, Nat.reduceLT, VX, hg, hs, hm, ha, hne]
        refine ⟨_, rfl, out, 0, rbE_tup2 h5.gr, by rw [hokB, hz]; rfl, fun _ => h4⟩
      · have hne : (((lastV s % 2 ^ 4 : Nat) : Int) != 0) = true := by rw [bne_iff_ne]; omega
        simp only [W2Fb, EXA, Nat.reduceEqDiff, reduceIte, reduceCtorEq, Nat.reduceAdd, Nat.reduceLeDiff, Nat.reduceSub, Nat.reduceMul, Int.reduceEq, Int.reduceBEq, Int.reduceBNe, Int.reduceLT, Int.reduceLE, Nat.reduceLT, VX, hg, hs, hm, ha, hne]
        exact ⟨_, rfl, g_err (by rw [hokB, decide_eq_false hz, Bool.and_false])⟩
    · have hg : decide (((6 : Nat) : Int) ≥ 6) = true := rfl
      simp only [W2Fb, EXA, Nat.reduceEqDiff, reduceIte, reduceCtorEq, Nat.reduceAdd, Nat.reduceLeDiff, Nat.reduceSub, Nat.reduceMul, Int.reduceEq, Int.reduceBEq, Int.reduceBNe, Int.reduceLT, Int.reduceLE, Nat.reduceLT, VX, hg]
      exact ⟨_, rfl, g_err (by rw [hokB]; rfl)⟩
theorem r_get64 (s : Bs) (hb : s.length < lim) : ∃ (bs : List Int) (e : Int), cR 164 [.str s, fG] = some (.tup [.vsl (bs.map (AV.int .u8)) none, .int .i64 e]) ∧ (e == 0) = okB s ∧ (okB s = true → bs.length = 6 * s.length / 8) := by
  obtain ⟨r, σ', h1, bs, e, h2, h3, h4⟩ := get_ex s hb
  refine ⟨bs, e, ?_, h3, h4⟩
  show callR ipU gU (.fn 164 [] []) _ = _
  unfold callR
  rw [h1]; exact h2
theorem r_GetURL (s : Bs) (hb : s.length < lim) : ∃ (bs : List Int) (e : Int), cR 157 [.str s] = some (.tup [.vsl (bs.map (AV.int .u8)) none, .int .i64 e]) ∧ (e == 0) = okB s ∧ (okB s = true → bs.length = 6 * s.length / 8) := by
  obtain ⟨bs, e, h1, h2, h3⟩ := r_get64 s hb
  refine ⟨bs, e, cR_of (F := F157) rfl ?_, h2, h3⟩
  have hg : gU 3 = [.int .u8 45, .int .u8 95] := rfl
  simp only [fG, aURL] at h1
  simp only [F157, EXA, Nat.reduceEqDiff, reduceIte, reduceCtorEq, Nat.reduceAdd, Nat.reduceLeDiff, Nat.reduceSub, Nat.reduceMul, Int.reduceEq, Int.reduceBEq, Int.reduceBNe, Int.reduceLT, Int.reduceLE, Nat.reduceLT, VX, readAt_some, hg, h1]
end Go.Ab
/- Names of events. -/
namespace Go.Ab
set_option maxHeartbeats 1000000
def W3Fa := @F150.eq_1
def W3Fc := @F162.eq_1
set_option maxRecDepth 100000
def pre36 : Bs → Bool
  | c :: _ => c == 36
  | [] => false
theorem r_hasPre (s : Bs) : cR 166 [.str s, .str [36]] = some (.bool (pre36 s)) := by
  cases s with
  | nil => exact cR_closed 100 (by kernel_rfl)
  | cons c r =>
    refine cR_of (F := F166) rfl ?_
    have h1 : decide (((r.length + 1 : Nat) : Int) ≥ ((1 : Nat) : Int)) = true := by simp; omega
    have h2 : bounds (r.length + 1) none (some ((1 : Nat) : Int)) = some (0, 1) := by simp [bounds]; omega
    have h3 : List.drop 0 (List.take 1 (c :: r)) = [c] := rfl
    have h4 : ([c] == [36]) = (c == 36) := by simp
    simp only [F166, EXA, Nat.reduceEqDiff, reduceIte, reduceCtorEq, Nat.reduceAdd, Nat.reduceLeDiff, Nat.reduceSub, Nat.reduceMul, Int.reduceEq, Int.reduceBEq, Int.reduceBNe, Int.reduceLT, Int.reduceLE, Nat.reduceLT, h1, h2, h3, h4]
    rfl
theorem r_cutPre0 (s : Bs) : cR 162 [.str s, .str [36]] = some (.tup [.str (if pre36 s then s.drop 1 else s), .bool (pre36 s)]) := by
  refine cR_of (F := F162) rfl ?_
  have h := r_hasPre s
  cases hp : pre36 s with
  | false =>
    rw [hp] at h
    simp only [W3Fc, EXA, Nat.reduceEqDiff, reduceIte, reduceCtorEq, Nat.reduceAdd, Nat.reduceLeDiff, Nat.reduceSub, Nat.reduceMul, Int.reduceEq, Int.reduceBEq, Int.reduceBNe, Int.reduceLT, Int.reduceLE, Nat.reduceLT, h]
  | true =>
    rw [hp] at h
    have h2 : sliceSOf (.str s) (some (some ((1 : Nat) : Int))) (some none) = some (.str (s.drop 1)) := sliceS_lo (s := s) (i := ((1 : Nat) : Int)) (by omega) (by cases s with | nil => cases hp | cons c r => simp; omega)
    simp only [W3Fc, EXA, Nat.reduceEqDiff, reduceIte, reduceCtorEq, Nat.reduceAdd, Nat.reduceLeDiff, Nat.reduceSub, Nat.reduceMul, Int.reduceEq, Int.reduceBEq, Int.reduceBNe, Int.reduceLT, Int.reduceLE, Nat.reduceLT, h, h2]
theorem r_cutPre (s : Bs) : cR 156 [.str s, .str [36]] = some (.tup [.str (if pre36 s then s.drop 1 else s), .bool (pre36 s)]) := by
  refine cR_of (F := F156) rfl ?_
  have h := r_cutPre0 s
  simp only [F156, EXA, Nat.reduceEqDiff, reduceIte, reduceCtorEq, Nat.reduceAdd, Nat.reduceLeDiff, Nat.reduceSub, Nat.reduceMul, Int.reduceEq, Int.reduceBEq, Int.reduceBNe, Int.reduceLT, Int.reduceLE, Nat.reduceLT, h]
/-- The name of an event. -/
def evId (s : Bs) : Bool := pre36 s && (okB (s.drop 1) && decide (s.length = 44))
theorem r_event (s : Bs) (hb : s.length < lim) : cR 150 [.str s] = some (.bool (evId s)) := by
  refine cR_of (F := F150) rfl ?_
  have h := r_cutPre s
  unfold evId
  cases hp : pre36 s with
  | false =>
    rw [hp] at h
    obtain ⟨bs, e, h1, h2, h3⟩ := r_GetURL s hb
    simp only [Bool.false_eq_true, if_false] at h
    simp only [W3Fa, EXA, Nat.reduceEqDiff, reduceIte, reduceCtorEq, Nat.reduceAdd, Nat.reduceLeDiff, Nat.reduceSub, Nat.reduceMul, Int.reduceEq, Int.reduceBEq, Int.reduceBNe, Int.reduceLT, Int.reduceLE, Nat.reduceLT, h, h1]
    rfl
  | true =>
    rw [hp] at h
    obtain ⟨bs, e, h1, h2, h3⟩ := r_GetURL (s.drop 1) (by simp; omega)
    simp only [if_true] at h
    cases ho : okB (s.drop 1) with
    | false =>
      rw [ho] at h2
      simp only [W3Fa, EXA, Nat.reduceEqDiff, reduceIte, reduceCtorEq, Nat.reduceAdd, Nat.reduceLeDiff, Nat.reduceSub, Nat.reduceMul, Int.reduceEq, Int.reduceBEq, Int.reduceBNe, Int.reduceLT, Int.reduceLE, Nat.reduceLT, h, h1, h2]
      rfl
    | true =>
      rw [ho] at h2
      have hl := h3 ho
      have h1s : 1 ≤ s.length := by cases s with | nil => cases hp | cons c r => simp
      have hd : ((bs.length : Int) == 32) = decide (s.length = 44) := by
        rw [hl, List.length_drop]
        by_cases h44 : s.length = 44
        · rw [h44]; rfl
        · rw [decide_eq_false h44]
          have : ¬ 6 * (s.length - 1) / 8 = 32 := by
            intro h
            have hr : 6 * (s.length - 1) % 8 < 6 := by
              unfold okB at ho
              simp only [Bool.and_eq_true, decide_eq_true_eq, List.length_drop] at ho
              exact ho.2.1
            omega
          simp; omega
      simp only [W3Fa, EXA, Nat.reduceEqDiff, reduceIte, reduceCtorEq, Nat.reduceAdd, Nat.reduceLeDiff, Nat.reduceSub, Nat.reduceMul, Int.reduceEq, Int.reduceBEq, Int.reduceBNe, Int.reduceLT, Int.reduceLE, Nat.reduceLT, h, h1, h2, List.length_map, hd]
end Go.Ab
/- The document's base64: whether there is an error, for 43 signs. -/
namespace Go.Ab
set_option maxHeartbeats 1000000
def W4Fa := @F124.eq_1
def W4Fb := J @F141_6.eq_1 (J @F141_18.eq_1 (J @F141_41.eq_1 (J @F141_42.eq_1 (J @F141_55.eq_1 (J @F141_56.eq_1 (J @F141_70.eq_1 (J @F141_71.eq_1 (@F141.eq_1))))))))
def W4Fc := J @F141_6.eq_1 (J @F141_18.eq_1 (J @F141_41.eq_1 (J @F141_55.eq_1 (J @F141_56.eq_1 (J @F141_70.eq_1 (@F141.eq_1))))))
set_option maxRecDepth 100000
def G64 (σ : Store) : Prop := ∃ cells, σ.get 0 = some (.own cells) ∧ cells.length = 32 ∧ ∀ x ∈ cells, ∃ z, x = AV.int .u8 z
def bitOf (v i : Nat) : Nat := v / 2 ^ (5 - i) % 2
theorem shr_bit {v i : Nat} (hv : v < 64) (hi : i < 6) : shiftInt .shr .i64 (v : Int) ((5 - i : Nat) : Int) = some (.int .i64 ((v / 2 ^ (5 - i) : Nat) : Int)) := by
  unfold shiftInt
  rw [if_neg (by omega)]
  have : min ((5 - i : Nat) : Int).toNat (IntKind.bits .i64) = 5 - i := by simp [IntKind.bits]; omega
  simp only [this]
  congr 2
  have e : ((2 : Int) ^ (5 - i)) = ((2 ^ (5 - i) : Nat) : Int) := by simp
  rw [e, Int.fdiv_eq_ediv_of_nonneg _ (Int.natCast_nonneg _)]
  rfl
def sh8 (n : Nat) : Int := IntKind.wrap .u8 (1 * 2 ^ (min (n : Int).toNat (IntKind.bits .u8)))
theorem shl_8 (n : Nat) : shiftInt .shl .u8 1 (n : Int) = some (.int .u8 (sh8 n)) := by
  unfold shiftInt
  rw [if_neg (by omega)]; rfl
theorem and_one (x : Nat) (hx : x < 64) : IntKind.wrap .i64 ((BitVec.ofInt (IntKind.bits .i64) (x : Int) &&& BitVec.ofInt (IntKind.bits .i64) 1).toNat : Int) = ((x % 2 : Nat) : Int) := by
  have e1 : (BitVec.ofInt (IntKind.bits .i64) (x : Int) &&& BitVec.ofInt (IntKind.bits .i64) 1).toNat = x % 2 := by
    show (BitVec.ofInt 64 (x : Int) &&& BitVec.ofInt 64 ((2 ^ 1 - 1 : Nat) : Int)).toNat = _
    rw [BitVec.toNat_and, BitVec.ofInt_natCast, BitVec.ofInt_natCast, BitVec.toNat_ofNat, BitVec.toNat_ofNat, Nat.mod_eq_of_lt (show 2 ^ 1 - 1 < 2 ^ 64 by decide), Nat.and_two_pow_sub_one_eq_mod]
    omega
  rw [e1]
  have : x % 2 < 2 := Nat.mod_lt _ (by decide)
  generalize x % 2 = y at this
  simp [IntKind.wrap, IntKind.bits, IntKind.signed]
  omega
theorem w64 {x : Nat} (h : x < 9223372036854775808) : IntKind.wrap .i64 (x : Int) = x := by
  simp [IntKind.wrap, IntKind.bits, IntKind.signed]; omega
theorem g64_inner {s : Bs} {j v : Nat} (hj : j < 43) (hv : v < 64) {K : List Item} {Q : Fr → Store → Prop} {σ : Store} (hσ : G64 σ)
    (hk : ∀ σ' l, G64 σ' → (j = 42 → v % 4 = 0) → Ex ipU gU K ((0, .str s) :: (1, .bool true) :: (6, .sl 0 0 32 1 none) :: (7, .int .i64 (j : Int)) :: l) σ' Q)
    (he : j = 42 → v % 4 ≠ 0 → ∀ fr' σ', (look fr' 4).getD .undef = .nils → (look fr' 5).getD .undef = .int .i64 2 → Q fr' σ') :
    Ex ipU gU (.code F141_42 :: .inLoop [0, 1, 6, 7, 8, 9] F141_42 :: .inBlock 2 :: K) [(0, .str s), (1, .bool true), (6, .sl 0 0 32 1 none), (7, .int .i64 (j : Int)), (8, .int .i64 (v : Int)), (9, .int .i64 0)] σ Q := by
  refine ex_whileI (S := Nat) (fun i => [(0, .str s), (1, .bool true), (6, .sl 0 0 32 1 none), (7, .int .i64 (j : Int)), (8, .int .i64 (v : Int)), (9, .int .i64 (i : Int))]) (fun i => 6 - i) (fun i σ => i ≤ 6 ∧ G64 σ ∧ (j = 42 → ∀ i', 4 ≤ i' → i' < i → bitOf v i' = 0)) ?_ 0 σ ⟨by omega, hσ, fun _ i' h1 h2 => by omega⟩
  rintro b i σ ⟨h1, h2, h3⟩ ih
  by_cases hi : i < 6
  · have hcond : decide ((i : Int) < 6) = true := by simp; omega
    have hw1 : IntKind.wrap .i64 (6 * (j : Int)) = ((6 * j : Nat) : Int) := by rw [← w64 (x := 6 * j) (by omega)]; simp
    have hw2 : IntKind.wrap .i64 (((6 * j : Nat) : Int) + (i : Int)) = ((6 * j + i : Nat) : Int) := by rw [← w64 (x := 6 * j + i) (by omega)]; simp
    have hw3 : IntKind.wrap .i64 (5 - (i : Int)) = ((5 - i : Nat) : Int) := by rw [← w64 (x := 5 - i) (by omega)]; congr 1; omega
    have hw := wsucc hi (by omega)
    have hsh := shr_bit hv hi
    have hx : v / 2 ^ (5 - i) < 64 := Nat.lt_of_le_of_lt (Nat.div_le_self _ _) hv
    have ha := and_one _ hx
    by_cases hb : bitOf v i = 0
    · have hz : (((v / 2 ^ (5 - i) % 2 : Nat) : Int) == 0) = true := by unfold bitOf at hb; rw [hb]; rfl
      simp only [W4Fb, EXA, Nat.reduceEqDiff, reduceIte, reduceCtorEq, Nat.reduceAdd, Nat.reduceLeDiff, Nat.reduceSub, Nat.reduceMul, Int.reduceEq, Int.reduceBEq, Int.reduceBNe, Int.reduceLT, Int.reduceLE, Nat.reduceLT, VX, hcond, hw1, hw2, hw3, hw, hsh, ha, hz]
      refine ih (i + 1) _ _ (by omega) ⟨by omega, h2, fun hj2 i' h4 h5 => ?_⟩ rfl
      by_cases hi' : i' = i
      · subst hi'; exact hb
      · exact h3 hj2 i' h4 (by omega)
    · have hz : (((v / 2 ^ (5 - i) % 2 : Nat) : Int) == 0) = false := by unfold bitOf at hb; rw [beq_eq_false_iff_ne]; omega
      have hq : IntKind.wrap .i64 (((6 * j + i : Nat) : Int).tdiv 8) = (((6 * j + i) / 8 : Nat) : Int) := w64 (x := (6 * j + i) / 8) (by omega)
      have hr : (((6 * j + i : Nat) : Int).tmod 8) = (((6 * j + i) % 8 : Nat) : Int) := rfl
      have hs : IntKind.wrap .i64 (7 - (((6 * j + i) % 8 : Nat) : Int)) = ((7 - (6 * j + i) % 8 : Nat) : Int) := by rw [← w64 (x := 7 - (6 * j + i) % 8) (by omega)]; congr 1; omega
      by_cases hp : 32 ≤ (6 * j + i) / 8
      · have hg : decide ((((6 * j + i) / 8 : Nat) : Int) ≥ ((32 : Nat) : Int)) = true := by simp; omega
        simp only [W4Fb, EXA, Nat.reduceEqDiff, reduceIte, reduceCtorEq, Nat.reduceAdd, Nat.reduceLeDiff, Nat.reduceSub, Nat.reduceMul, Int.reduceEq, Int.reduceBEq, Int.reduceBNe, Int.reduceLT, Int.reduceLE, Nat.reduceLT, VX, hcond, hw1, hw2, hw3, hw, hsh, ha, hz, hq, hg]
        refine he (by omega) ?_ _ _ rfl rfl
        intro h4
        apply hb
        unfold bitOf
        rcases (by omega : i = 4 ∨ i = 5) with rfl | rfl <;> simp <;> omega
      · have hg : decide ((((6 * j + i) / 8 : Nat) : Int) ≥ ((32 : Nat) : Int)) = false := by simp; omega
        obtain ⟨cells, c1, c2, c3⟩ := h2
        obtain ⟨x, hx⟩ := get_lt (l := cells) (j := (6 * j + i) / 8) (by omega)
        obtain ⟨z, rfl⟩ := c3 x (List.mem_of_getElem? hx)
        have hidx : idxOf 1 none (.sl 0 0 32 1 none) (.int .i64 (((6 * j + i) / 8 : Nat) : Int)) = some (.ptr 0 ((6 * j + i) / 8)) := by
          simp [idxOf]; omega
        have hlk : look σ.m 0 = some (.own cells) := c1
        have hle : ((6 * j + i) / 8 + 1 ≤ cells.length) = True := by rw [eq_iff_iff, iff_true]; omega
        simp only [W4Fb, EXA, Nat.reduceEqDiff, reduceIte, reduceCtorEq, Nat.reduceAdd, Nat.reduceLeDiff, Nat.reduceSub, Nat.reduceMul, Int.reduceEq, Int.reduceBEq, Int.reduceBNe, Int.reduceLT, Int.reduceLE, Nat.reduceLT, VX, readAt_some, hcond, hw1, hw2, hw3, hw, hsh, ha, hz, hq, hg, hr, hs, hidx, hlk, hx, shl_8, hle]
        refine ih (i + 1) _ _ (by omega) ⟨by omega, ⟨_, rfl, by simp [c2]; omega, fun y hy => ?_⟩, fun hj2 => by omega⟩ rfl
        simp only [List.append_assoc, List.mem_append, List.mem_singleton] at hy
        rcases hy with hy | rfl | hy
        · exact c3 y (List.mem_of_mem_take hy)
        · exact ⟨_, rfl⟩
        · exact c3 y (List.mem_of_mem_drop hy)
  · have hcond : decide ((i : Int) < 6) = false := by simp; omega
    simp only [W4Fb, EXA, Nat.reduceEqDiff, reduceIte, reduceCtorEq, Nat.reduceAdd, Nat.reduceLeDiff, Nat.reduceSub, Nat.reduceMul, Int.reduceEq, Int.reduceBEq, Int.reduceBNe, Int.reduceLT, Int.reduceLE, Nat.reduceLT, VX, hcond]
    refine hk _ _ h2 fun hj2 => ?_
    have b4 := h3 hj2 4 (by omega) (by omega)
    have b5 := h3 hj2 5 (by omega) (by omega)
    unfold bitOf at b4 b5
    simp at b4 b5
    omega
theorem all_bytes : ∀ cells : List AV, (∀ x ∈ cells, ∃ z, x = AV.int .u8 z) → ∃ bs : List Int, cells = LB.cells bs ∧ bs.length = cells.length
  | [], _ => ⟨[], rfl, rfl⟩
  | x :: l, h => by
    obtain ⟨z, rfl⟩ := h x (by simp)
    obtain ⟨bs, h1, h2⟩ := all_bytes l (fun y hy => h y (by simp [hy]))
    exact ⟨z :: bs, by rw [h1]; rfl, by simp [h2]⟩
theorem get64_ex (s : Bs) (hs : s.length = 43) : ∃ r σ', callS ipU gU (.fn 141 [] []) [.str s, .bool true] .empty = some (r, σ') ∧ GRes s r σ' := by
  refine callS_ex (F := F141) rfl (first := []) (caps := []) ?_
  have h43 : ((s.length : Nat) : Int) = 43 := by omega
  have hm : makeSlOf ⟨0, []⟩ 1 1 [.int .u8 0] (IntKind.wrap .i64 ((IntKind.wrap .i64 (6 * 43)).tdiv 8)) = some (.sl 0 0 32 1 none, ⟨1, [(0, .own (rep 32 [.int .u8 0]))]⟩) := by rfl
  simp only [F141_6, F141_18, F141_41, F141_42, F141_55, F141_70, F141, ex_loop, EXA, Nat.reduceEqDiff, reduceIte, reduceCtorEq, Nat.reduceAdd, Nat.reduceLeDiff, Nat.reduceSub, Nat.reduceMul, Int.reduceEq, Int.reduceBEq, Int.reduceBNe, Int.reduceLT, Int.reduceLE, Nat.reduceLT, VX, h43, hm]
  refine ex_whileI (S := Nat) (fun j => [(0, .str s), (1, .bool true), (6, .sl 0 0 32 1 none), (7, .int .i64 (j : Int))]) (fun j => 43 - j) (fun j σ => j ≤ 43 ∧ (s.take j).all okC = true ∧ G64 σ ∧ (j = 43 → lastV s % 4 = 0)) ?_ 0 _ ⟨by omega, rfl, ⟨_, rfl, rfl, fun x hx => ⟨0, ?_⟩⟩, fun h => by omega⟩
  · rintro b j σ ⟨h1, h2, h3, h4⟩ ih
    by_cases hlt : j < s.length
    · obtain ⟨c, hc⟩ := get_lt hlt
      have hcond : decide ((j : Int) < 43) = true := by simp; omega
      have hbyte := byte_get hc
      have hcall := r_six c
      have hw := wsucc hlt (by omega)
      have hle := numB_le c
      by_cases hv : numB c = 64
      · rw [if_pos hv] at hcall
        have hbad : okB s = false := okB_bad (by
          rw [List.all_eq_false]
          exact ⟨c, List.mem_of_getElem? hc, by simp [okC, hv]⟩)
        simp only [W4Fc, EXA, Nat.reduceEqDiff, reduceIte, reduceCtorEq, Nat.reduceAdd, Nat.reduceLeDiff, Nat.reduceSub, Nat.reduceMul, Int.reduceEq, Int.reduceBEq, Int.reduceBNe, Int.reduceLT, Int.reduceLE, Nat.reduceLT, VX, hcond, h43, hbyte, hcall]
        exact ⟨_, rfl, g_err hbad⟩
      · rw [if_neg hv] at hcall
        have hneg : decide ((numB c : Int) < 0) = false := by simp
        simp only [W4Fc, ex_loop, EXA, Nat.reduceEqDiff, reduceIte, reduceCtorEq, Nat.reduceAdd, Nat.reduceLeDiff, Nat.reduceSub, Nat.reduceMul, Int.reduceEq, Int.reduceBEq, Int.reduceBNe, Int.reduceLT, Int.reduceLE, Nat.reduceLT, VX, hcond, h43, hbyte, hcall, hneg]
        refine g64_inner (j := j) (v := numB c) (by omega) (by omega) h3 (fun σ' l hσ' hlo => ?_) (fun hj hvl fr' σ' q4 q5 => ?_)
        · simp only [W4Fc, EXA, Nat.reduceEqDiff, reduceIte, reduceCtorEq, Nat.reduceAdd, Nat.reduceLeDiff, Nat.reduceSub, Nat.reduceMul, Int.reduceEq, Int.reduceBEq, Int.reduceBNe, Int.reduceLT, Int.reduceLE, Nat.reduceLT, VX, hw]
          refine ih (j + 1) _ _ (by omega) ⟨by omega, by rw [take_succ' hc, List.all_append, h2]; simp [okC]; omega, hσ', fun h => ?_⟩ rfl
          have hj : j = 42 := by omega
          subst hj
          have hv4 := hlo rfl
          have he : s = s.take 42 ++ [c] := by
            rw [← take_succ' hc, List.take_of_length_le (by omega)]
          have hl : lastV s = numB c := by rw [he]; simp [lastV]
          rw [hl]; exact hv4
        · subst hj
          have he : s = s.take 42 ++ [c] := by
            rw [← take_succ' hc, List.take_of_length_le (by omega)]
          have hl : lastV s = numB c := by rw [he]; simp [lastV]
          refine ⟨_, rfl, ?_⟩
          rw [q4, q5]
          refine g_err ?_
          unfold okB
          rw [hs, hl]
          simp; omega
    · have hcond : decide ((j : Int) < 43) = false := by simp; omega
      have hj : j = 43 := by omega
      subst hj
      simp only [W4Fb, EXA, Nat.reduceEqDiff, reduceIte, reduceCtorEq, Nat.reduceAdd, Nat.reduceLeDiff, Nat.reduceSub, Nat.reduceMul, Int.reduceEq, Int.reduceBEq, Int.reduceBNe, Int.reduceLT, Int.reduceLE, Nat.reduceLT, VX, hcond, h43]
      have h4' := h4 rfl
      obtain ⟨cells, c1, c2, c3⟩ := h3
      obtain ⟨bs, rfl, hb⟩ := all_bytes cells c3
      have hok : okB s = true := by
        unfold okB
        rw [List.take_of_length_le (by omega)] at h2
        rw [h2, hs]; simp; omega
      show ∃ r, AV.tup [AV.sl 0 0 32 1 none, AV.int IntKind.i64 0] = r ∧ GRes s r σ
      refine ⟨_, rfl, bs, 0, ?_, by rw [hok]; rfl, fun _ => by rw [hs, hb, c2]⟩
      have hr := RbL.tup (RbL.rp (L := LB) (v := .sl 0 0 32 1 none) (d := 22) (l := bs) (.inr ⟨0, [], by rw [hb, c2]; rfl, by rw [List.append_nil]; exact c1⟩) (RbL.clo (x := .int .i64 0) rfl (RbL.nil _ _)))
      simp only [AV.er] at hr
      exact hr
  · have : rep 32 [AV.int .u8 0] = List.replicate 32 (AV.int .u8 0) := rfl
    rw [this] at hx
    exact (List.mem_replicate.1 hx).2
theorem r_Get64 (s : Bs) (hs : s.length = 43) : ∃ (bs : List Int) (e : Int), cR 141 [.str s, .bool true] = some (.tup [.vsl (bs.map (AV.int .u8)) none, .int .i64 e]) ∧ (e == 0) = okB s ∧ (okB s = true → bs.length = 6 * s.length / 8) := by
  obtain ⟨r, σ', h1, bs, e, h2, h3, h4⟩ := get64_ex s hs
  refine ⟨bs, e, ?_, h3, h4⟩
  show callR ipU gU (.fn 141 [] []) _ = _
  unfold callR
  rw [h1]; exact h2
theorem r_EventID (s : Bs) : cR 124 [.str s] = some (.bool (evId s)) := by
  refine cR_of (F := F124) rfl ?_
  by_cases hl : s.length = 44
  · have h1 : ((s.length : Int) != 44) = false := by rw [hl]; rfl
    obtain ⟨c, r, rfl⟩ : ∃ c r, s = c :: r := by cases s with | nil => simp at hl | cons c r => exact ⟨c, r, rfl⟩
    have hb := byte_get (s := c :: r) (j := 0) (c := c) rfl
    have hb' : byteAt (.str (c :: r)) (.int .i64 0) = some (.int .u8 c.toNat) := hb
    have hsl : sliceSOf (.str (c :: r)) (some (some 1)) (some none) = some (.str r) := sliceS_lo (s := c :: r) (i := 1) (by decide) (by simp; omega)
    obtain ⟨bs, e, q1, q2, q3⟩ := r_Get64 r (by simpa using hl)
    have hev : evId (c :: r) = (c == 36 && okB r) := by
      unfold evId pre36
      rw [hl]; simp
    have hc : ((c.toNat : Int) != 36) = !(c == 36) := by
      by_cases h : c = 36
      · subst h; rfl
      · have : (c.toNat : Int) ≠ 36 := fun h' => h (UInt8.toNat_inj.1 (by show c.toNat = 36; omega))
        rw [beq_eq_false_iff_ne.2 h, bne_iff_ne.2 this]; rfl
    rw [hev]
    cases h36 : c == 36 with
    | false =>
      rw [h36] at hc
      simp only [W4Fa, EXA, Nat.reduceEqDiff, reduceIte, reduceCtorEq, Nat.reduceAdd, Nat.reduceLeDiff, Nat.reduceSub, Nat.reduceMul, Int.reduceEq, Int.reduceBEq, Int.reduceBNe, Int.reduceLT, Int.reduceLE, Nat.reduceLT, h1, hb', hc]
      split <;> rfl
    | true =>
      rw [h36] at hc
      simp only [W4Fa, EXA, Nat.reduceEqDiff, reduceIte, reduceCtorEq, Nat.reduceAdd, Nat.reduceLeDiff, Nat.reduceSub, Nat.reduceMul, Int.reduceEq, Int.reduceBEq, Int.reduceBNe, Int.reduceLT, Int.reduceLE, Nat.reduceLT, h1, hb', hc, hsl, q1, q2]
      have hlr : r.length = 43 := by simpa using hl
      rw [hlr]
      rw [if_neg (by decide)]
      split
      · rename_i ho
        rw [ho, List.length_map, q3 ho, hlr]; rfl
      · rename_i ho
        rw [Bool.eq_false_iff.2 ho]
  · have h1 : ((s.length : Int) != 44) = true := by rw [bne_iff_ne]; omega
    have hev : evId s = false := by unfold evId; rw [decide_eq_false hl]; simp
    simp only [W4Fa, EXA, Nat.reduceEqDiff, reduceIte, reduceCtorEq, Nat.reduceAdd, Nat.reduceLeDiff, Nat.reduceSub, Nat.reduceMul, Int.reduceEq, Int.reduceBEq, Int.reduceBNe, Int.reduceLT, Int.reduceLE, Nat.reduceLT, h1, hev]
end Go.Ab
/- slices.DeleteFunc over members. -/
namespace Go.Ab
set_option maxHeartbeats 1000000
set_option maxRecDepth 100000
abbrev zMem : List AV := [.str [], .int .i64 0, .int .i64 0, .str [], .nils, .nils]
/-- What a block holds in the loop. -/
structure DelI (l : List Mem) (p : Mem → Bool) (b0 : Nat) (σ0 : Store) (j : Nat) (kept junk : List Mem) (σ : Store) : Prop where
  row : look σ.m b0 = some (.own (LMem.cells (kept ++ junk ++ l.drop j)))
  len : kept.length + junk.length = j
  le : j ≤ l.length
  kept_eq : kept = (l.take j).filter fun x => !p x
  nx : σ0.next ≤ σ.next
  old : ∀ b, b < σ0.next → b ≠ b0 → σ.get b = σ0.get b
  b0 : b0 < σ0.next
theorem idx_sl {b n j : Nat} {σ : Store} (h : j < n) : idxOf 6 none (.sl b 0 n 6 none) (.int .i64 (j : Int)) = some (.ptr b (j * 6)) := by
  have h2 : ((j : Int) < (n : Int)) := by omega
  simp [Go.Ab.idxOf, h2]
end Go.Ab
/- value.Drop: a map without some members; value.Set. -/
namespace Go.Ab
set_option maxHeartbeats 1000000
set_option maxRecDepth 100000
theorem c_cloneM0 (c : Option Nat) (σ : Store) : callM ipU gU .split (.fn 38 [] []) [.vsl [] c] σ = some (.vsl [] (some 0), σ) := by
  have hb2 : both ipU gU (.fn 38 [] []) σ = true := both_of 100 (by kernel_rfl) (by kernel_rfl)
  simp only [callM, noItems, if_true, hb2]
theorem c_cloneM1 (x : Mem) (l : List Mem) (c : Option Nat) (σ : Store) (hb : (x :: l).length < lim) :
    callM ipU gU .split (.fn 38 [] []) [.vsl ((x :: l).map memE) c] σ = some (.sl σ.next 0 (x :: l).length 6 none, σ.alloc (LMem.cells (x :: l))) := by
  unfold lim at hb
  have hro : ∀ σ', rowOf σ' 6 (.vsl ((x :: l).map memE) c) = some (LMem.cells (x :: l)) := fun σ' => LMem.rowOf σ' (x :: l) c
  have ha : appendTo σ 6 96 (.vsl [] (some 0)) (LMem.cells (x :: l)) (l.length + 1) = some (.sl σ.next 0 (l.length + 1) 6 none, σ.alloc (LMem.cells (x :: l))) :=
    app00 (by omega) (by omega) (by unfold maxBytes; simp at hb; omega) (LMem.cells_len (x :: l)) (LMem.cells_one _) (by omega)
  have hn : noItems [.vsl ((x :: l).map memE) c] = false := rfl
  simp only [callM, hn, Bool.false_eq_true, if_false]
  refine callS_of (F := F38) rfl (first := []) (caps := []) ?_
  simp only [List.map_cons] at hro
  simp only [F38, EXA, Nat.reduceEqDiff, reduceIte, reduceCtorEq, Nat.reduceAdd, Nat.reduceLeDiff, Nat.reduceSub, Nat.reduceMul, Int.reduceEq, Int.reduceBEq, Int.reduceBNe, Int.reduceLT, Int.reduceLE, Nat.reduceLT, VX, lenOf_vsl, hro, ha]
end Go.Ab
/- The document's Map: by keys, of one key the last one. -/
namespace Go.Ab
set_option maxHeartbeats 1000000
set_option maxRecDepth 100000
def posM (acc : List Mem) (k : Bs) : Nat := (acc.takeWhile fun x => bytesLess x.1 k).length
def hitM (acc : List Mem) (k : Bs) : Bool := match acc[posM acc k]? with
  | some y => y.1 == k
  | none => false
def insM (acc : List Mem) (m : Mem) : List Mem := if hitM acc m.1 then acc.set (posM acc m.1) m else acc.take (posM acc m.1) ++ m :: acc.drop (posM acc m.1)
def refMapL (l : List Mem) : List Mem := l.foldl insM []
/-- A growing list of members: none yet, or a block of its own. -/
def GM (σ : Store) (v : AV) (l : List Mem) : Prop := (v = .nils ∧ l = []) ∨ ∃ b, v = .sl b 0 l.length 6 none ∧ look σ.m b = some (.own (LMem.cells l)) ∧ b < σ.next ∧ 0 < b
theorem GM.lenL {σ : Store} {v : AV} {l : List Mem} (h : GM σ v l) : lenL v = some (.int .i64 l.length) := by
  rcases h with ⟨rfl, rfl⟩ | ⟨b, rfl, _⟩ <;> rfl
/-- What a block holds while its members are shifted. -/
def shC (acc : List Mem) (j : Nat) (junk : List AV) : List AV := LMem.cells (acc.take j) ++ junk ++ LMem.cells (acc.drop j)
theorem take_cells (acc : List Mem) {j : Nat} (h : j ≤ acc.length) : (LMem.cells (acc.take j)).length = j * 6 := by
  rw [LMem.cells_len, List.length_take, Nat.min_eq_left h]; rfl
end Go.Ab
/- The document's Map, whole. -/
namespace Go.Ab
set_option maxHeartbeats 1000000
set_option maxRecDepth 100000
theorem GM.frame {σ σ' : Store} {v : AV} {l : List Mem} (h : GM σ v l) (hn : σ.next ≤ σ'.next) (hg : ∀ b, v = .sl b 0 l.length 6 none → look σ'.m b = look σ.m b) : GM σ' v l := by
  rcases h with h | ⟨b, rfl, h1, h2, h3⟩
  · exact .inl h
  · exact .inr ⟨b, rfl, by rw [hg b rfl]; exact h1, by omega, h3⟩
/-- A nought behind a list. -/
theorem GM.app {σ : Store} {v : AV} {l : List Mem} (h : GM σ v l) (hl : l.length < lim) (hn : 0 < σ.next) : ∃ σ', appendTo σ 6 96 v zMem 1 = some (.sl σ.next 0 (l.length + 1) 6 none, σ') ∧
    look σ'.m σ.next = some (.own (shC l l.length zMem)) ∧ σ'.next = σ.next + 1 ∧ look σ'.m 0 = look σ.m 0 := by
  unfold lim at hl
  have hc : shC l l.length zMem = LMem.cells l ++ zMem := by
    unfold shC
    rw [List.take_of_length_le (Nat.le_refl _), List.drop_of_length_le (Nat.le_refl _)]
    simp [Lay.cells]
  rcases h with ⟨rfl, rfl⟩ | ⟨b, rfl, h1, h2, h3⟩
  · obtain ⟨σ', a1, a2, a3, a4⟩ := append_own (σ := σ) (sz := 6) (bytes := 96) (n := 0) (k := 1) (ob := none) (cells := []) (new := zMem) ⟨rfl, rfl⟩ (by omega) (by omega) (by unfold maxBytes; omega) rfl rfl (by omega)
    refine ⟨σ', a1, ?_, a3, a4 0 hn (by simp)⟩
    rw [hc]
    exact a2.1
  · cases l with
    | nil =>
      refine ⟨(σ.set b .dead).alloc ([] ++ zMem), ?_, ?_, rfl, ?_⟩
      · have ho : σ.owned b = some [] := by
          have : σ.get b = some (.own (LMem.cells [])) := h1
          simp [Store.owned, this, Lay.cells]
        unfold appendTo
        simp only [lenOf, ho, List.length_nil]
        simp [maxBytes, AV.one]
      · rw [hc]; exact get_alloc_next (σ := σ.set b .dead)
      · have := get_alloc (σ := σ.set b .dead) (cs := [] ++ zMem) (b := 0) (by rw [next_set]; omega)
        exact this.trans (get_set (by omega))
    | cons x l =>
      obtain ⟨σ', a1, a2, a3, a4⟩ := append_own (σ := σ) (sz := 6) (bytes := 96) (n := (x :: l).length) (k := 1) (ob := some b) (cells := LMem.cells (x :: l)) (new := zMem) ⟨h1, LMem.cells_len _, h2, by simp⟩ (by omega) (by omega) (by unfold maxBytes; omega) rfl rfl (by omega)
      refine ⟨σ', a1, ?_, a3, a4 0 hn (by simp; omega)⟩
      rw [hc]
      exact a2.1
end Go.Ab
/- RulesAllows: true. -/
namespace Go.Ab
set_option maxHeartbeats 1000000
set_option maxRecDepth 100000
/-- A slice that may be read as a list. -/
def Rd {α : Type} (L : Lay α) (σ : Store) (v : AV) (l : List α) : Prop :=
  (v = .nils ∧ l = []) ∨ (∃ b, v = .sl b 0 l.length L.sz none ∧ σ.cells b = some (L.cells l) ∧ b < σ.next) ∨ v = .vsl (l.map L.f) (some l.length)
section
variable {α : Type} {L : Lay α} {σ : Store} {v : AV} {l : List α}
theorem Gr.rd (h : Gr L σ v l) : Rd L σ v l := by
  rcases h with h | ⟨b, rfl, h⟩ | h
  · exact .inl h
  · exact .inr (.inl ⟨b, rfl, by have := h.1; simp [Store.cells, this], h.lt⟩)
  · exact .inr (.inr h)
theorem freeze_cells (σ : Store) (b : Nat) : σ.freeze.cells b = σ.cells b := by
  have e : σ.freeze.get b = (σ.get b).map fun x => match x with | .own cs => .frz cs | x => x := by
    unfold Store.freeze Store.get
    simp only
    induction σ.m with
    | nil => rfl
    | cons p l ih =>
      obtain ⟨i, x⟩ := p
      simp only [List.map_cons, look]
      by_cases h : i = b
      · rw [if_pos h, if_pos h]; rfl
      · rw [if_neg h, if_neg h]; exact ih
  unfold Store.cells
  rw [e]
  cases σ.get b with
  | none => rfl
  | some x => cases x <;> rfl
theorem Rd.freeze (h : Rd L σ v l) : Rd L σ.freeze v l := by
  rcases h with h | ⟨b, rfl, h, h2⟩ | h
  · exact .inl h
  · exact .inr (.inl ⟨b, rfl, by rw [freeze_cells]; exact h, h2⟩)
  · exact .inr (.inr h)
theorem Rd.newset (h : Rd L σ v l) (cs cs' : List AV) : Rd L { next := σ.next + 1, m := (σ.next, .own cs) :: (σ.next, .own cs') :: σ.m } v l := by
  rcases h with h | ⟨b, rfl, h, h2⟩ | h
  · exact .inl h
  · refine .inr (.inl ⟨b, rfl, ?_, by simp; omega⟩)
    have : Store.get { next := σ.next + 1, m := (σ.next, .own cs) :: (σ.next, .own cs') :: σ.m } b = σ.get b := by
      show look ((σ.next, Blk.own cs) :: (σ.next, .own cs') :: σ.m) b = look σ.m b
      simp only [look]; rw [if_neg (by omega), if_neg (by omega)]
    unfold Store.cells at h ⊢
    rw [this]; exact h
  · exact .inr (.inr h)
theorem Rd.rb (h : Rd L σ v l) : ∃ v', Go.Ab.rb σ rbDepth v = some v' ∧ v'.er = .vsl (l.map L.f) none := by
  rcases h with ⟨rfl, rfl⟩ | ⟨b, rfl, h, _⟩ | rfl
  · exact ⟨_, rfl, by simp only [AV.er]; rfl⟩
  · refine ⟨_, rb_sl (d := 23) h (L.cells_len l) L.pos (L.cells_closed l) (one_notAgg (L.cells_one l)), ?_⟩
    rw [L.chunks]; simp only [AV.er, L.erMap]
  · refine ⟨_, rb_closed' (by simp only [AV.closed]; exact closedL_map fun a _ => L.closed a), ?_⟩
    simp only [AV.er, L.erMap]
/-- No block is both's. -/
def Dis (v w : AV) : Prop := ∀ b o len sz c o' len' sz' c', v = .sl b o len sz c → w ≠ .sl b o' len' sz' c'
theorem Dis.symm {v w : AV} (h : Dis v w) : Dis w v := fun _ _ _ _ _ _ _ _ _ h1 h2 => h _ _ _ _ _ _ _ _ _ h2 h1
end
/-- A text of such a slice, by its number. -/
theorem Gr.idxS {σ : Store} {v : AV} {l : List Bs} (h : Gr LStr σ v l) {j : Nat} {s : Bs} (hj : l[j]? = some s) : ∃ p, idxOf 1 none v (.int .i64 (j : Int)) = some p ∧ readPtr σ p none = some (.str s) := by
  have hlt := lt_of_get hj
  have hc : ∀ m : List Bs, LStr.cells m = m.map AV.str := by
    intro m; simp only [Lay.cells, LStr, AV.cells]; induction m with
    | nil => rfl
    | cons a m ih => simp [ih]
  rcases h with ⟨rfl, rfl⟩ | ⟨b, rfl, h⟩ | rfl
  · simp at hj
  · refine ⟨.ptr b j, ?_, ?_⟩
    · simp [idxOf, LStr, hlt]
    · have := h.1
      simp only [readPtr, Store.cells, this, readAt, hc, List.getElem?_map, hj, Option.map_some]
  · refine ⟨.vptr [.str s] 0, idx_map (f := AV.str) hj rfl, rfl⟩
end Go.Ab
/- Lists of texts, and small makers, of the program and of the document. -/
namespace Go.Ab
set_option maxHeartbeats 1000000
def U6Fe := J @F147_5.eq_1 (J @F147_16.eq_1 (J @F147_17.eq_1 (@F147.eq_1)))
set_option maxRecDepth 100000
def tV3 (s : Bs) : V := V.mk 3 0 s [] []
def lV (l : List Bs) : V := V.mk 4 0 [] (l.map tV3) []
theorem r_Has (l : List Bs) (k : Bs) (hlen : l.length < big) : cR 147 [.vsl (l.map .str) none, .str k] = some (.bool (hasS l k)) := by
  unfold big at hlen
  refine cR_of (F := F147) rfl ?_
  obtain ⟨r, hr⟩ : ∃ r, r = AV.bool (hasS l k) := ⟨_, rfl⟩
  rw [← hr]
  simp only [F147_5, F147_16, F147, ex_loop, EXA, Nat.reduceEqDiff, reduceIte, reduceCtorEq, Nat.reduceAdd, Nat.reduceLeDiff, Nat.reduceSub, Nat.reduceMul, Int.reduceEq, Int.reduceBEq, Int.reduceBNe, Int.reduceLT, Int.reduceLE, Nat.reduceLT, VX]
  refine ex_while (S := Nat) (fun j => [(0, .vsl (l.map .str) none), (1, .str k), (5, .int .i64 (j : Int))]) (fun _ => .empty) (fun j => l.length - j) (fun j => hasS (l.drop j) k = hasS l k) ?_ 0 rfl
  intro b j hj ih
  by_cases hlt : j < l.length
  · obtain ⟨x, hx⟩ := get_lt hlt
    have hidx := idx_str (c := none) hx
    have hcond := dlt hlt
    have hw := wsucc hlt (by omega)
    rw [drop_cons hx] at hj
    cases hxk : x == k with
    | true =>
      have : hasS l k = true := by rw [← hj]; have : k = x := by simp at hxk; exact hxk.symm
                                   simp [hasS, this]
      rw [this] at hr
      simp only [U6Fe, EXA, Nat.reduceEqDiff, reduceIte, reduceCtorEq, Nat.reduceAdd, Nat.reduceLeDiff, Nat.reduceSub, Nat.reduceMul, Int.reduceEq, Int.reduceBEq, Int.reduceBNe, Int.reduceLT, Int.reduceLE, Nat.reduceLT, VX, readAt_some, hcond, hidx, hxk, hr]
    | false =>
      have hkx : (k == x) = false := by simp at hxk ⊢; exact fun h => hxk h.symm
      simp only [U6Fe, EXA, Nat.reduceEqDiff, reduceIte, reduceCtorEq, Nat.reduceAdd, Nat.reduceLeDiff, Nat.reduceSub, Nat.reduceMul, Int.reduceEq, Int.reduceBEq, Int.reduceBNe, Int.reduceLT, Int.reduceLE, Nat.reduceLT, VX, readAt_some, hcond, hidx, hxk, hw]
      exact ih (j + 1) _ _ (by omega) (by rw [← hj]; simp [hasS, hkx]) rfl rfl
  · have hcond := dge (Nat.not_lt.1 hlt)
    rw [List.drop_eq_nil_of_le (by omega)] at hj
    rw [← hj] at hr
    simp only [U6Fe, EXA, Nat.reduceEqDiff, reduceIte, reduceCtorEq, Nat.reduceAdd, Nat.reduceLeDiff, Nat.reduceSub, Nat.reduceMul, Int.reduceEq, Int.reduceBEq, Int.reduceBNe, Int.reduceLT, Int.reduceLE, Nat.reduceLT, VX, hcond, hr]
    rfl
/-- A list that grows in a value of one's own. -/
structure LSt (σ : Store) (v : AV) (acc : List V) : Prop where
  one : look σ.m 1 = some (.own [.int .i64 4, .int .i64 0, .str [], v, .nils])
  nil : look σ.m 0 = some (.own [.int .i64 0, .int .i64 0, .str [], .nils, .nils])
  gr : Gr LV σ v acc
  nx : 1 < σ.next
  far : ∀ b len sz c, b < 2 → v ≠ .sl b 0 len sz c
theorem LSt.push {σ : Store} {v : AV} {acc : List V} (h : LSt σ v acc) (hl : acc.length < lim) (x : V) :
    appendTo σ 5 80 v x.enc.cells 1 = some (.sl σ.next 0 (acc ++ [x]).length 5 none, grNext LV σ v acc [x]) ∧ look (grNext LV σ v acc [x]).m 1 = some (.own [.int .i64 4, .int .i64 0, .str [], v, .nils]) ∧
    LSt { next := (grNext LV σ v acc [x]).next, m := (1, .own [.int .i64 4, .int .i64 0, .str [], .sl σ.next 0 (acc ++ [x]).length 5 none, .nils]) :: (grNext LV σ v acc [x]).m } (.sl σ.next 0 (acc ++ [x]).length 5 none) (acc ++ [x]) := by
  unfold lim at hl
  have hnx := h.nx
  have hn := grNext_next LV σ v acc [x]
  have g1 : look (grNext LV σ v acc [x]).m 1 = look σ.m 1 := grNext_get (m := [x]) h.gr hnx (fun len sz c => h.far 1 len sz c (by omega))
  have g0 : look (grNext LV σ v acc [x]).m 0 = look σ.m 0 := grNext_get (m := [x]) h.gr (by omega) (fun len sz c => h.far 0 len sz c (by omega))
  have hg := h.gr.next (m := [x]) (by simp)
  refine ⟨h.gr.push (a := x) (bytes := 80) (by omega) (by unfold maxBytes; omega), by rw [g1]; exact h.one, by simp [look], ?_, ?_, by show 1 < (grNext LV σ v acc [x]).next; omega, ?_⟩
  · show look ((1, _) :: _) 0 = _
    simp only [look]
    rw [if_neg (by omega), g0]; exact h.nil
  · exact Gr.own (L := LV) (hg.frame (by show look ((1, _) :: _) σ.next = look _ σ.next; simp only [look]; rw [if_neg (by omega)]) (Nat.le_refl _))
  · intro b len sz c hb hv
    simp only [AV.sl.injEq] at hv
    omega
theorem LSt.fin {σ : Store} {v : AV} {acc : List V} (h : LSt σ v acc) : rbE { next := σ.next, m := (0, .own [.int .i64 4, .int .i64 0, .str [], v, .nils]) :: σ.m } (.agg [.int .i64 4, .int .i64 0, .str [], v, .nils]) = some (V.mk 4 0 [] acc []).enc := by
  have hg : Gr LV { next := σ.next, m := (0, .own [.int .i64 4, .int .i64 0, .str [], v, .nils]) :: σ.m } v acc := by
    rcases h.gr with g | ⟨b, rfl, g⟩ | g
    · exact .inl g
    · refine .inr (.inl ⟨b, rfl, g.frame ?_ (Nat.le_refl _)⟩)
      have hb : b ≠ 0 := by rintro rfl; exact h.far 0 _ _ _ (by omega) rfl
      show look ((0, _) :: _) b = look _ b
      simp only [look]; rw [if_neg (fun hh => hb hh.symm)]
    · exact .inr (.inr g)
  have := RbL.agg (RbL.clo (x := .int .i64 4) rfl (RbL.clo (x := .int .i64 0) rfl (RbL.clo (x := .str []) rfl (RbL.gr hg (RbL.clo (x := .nils) rfl (RbL.nil _ 23))))))
  simp only [er_int, er_str, er_nils] at this
  rw [V.enc_eq]
  exact this
end Go.Ab
/- The document's Keep; how deep what comes behind events is. -/
namespace Go.Ab
set_option maxHeartbeats 1000000
def U7Fe := J @F133_12.eq_1 (J @F133_22.eq_1 (J @F133_23.eq_1 (@F133.eq_1)))
def U7Ff := J @F133_12.eq_1 (J @F133_22.eq_1 (@F133.eq_1))
set_option maxRecDepth 100000
def keepV (v : V) (keys : List Bs) (b : Bool) : V := if v.kind = 5 then V.mk 5 0 [] [] (v.m.filter fun x => hasS keys x.1 == b) else v
structure KSt (σ : Store) (v : AV) (acc : List Mem) : Prop where
  nil : look σ.m 0 = some (.own [.int .i64 0, .int .i64 0, .str [], .nils, .nils])
  gr : Gr LMem σ v acc
  nx : 0 < σ.next
  far : ∀ len sz c, v ≠ .sl 0 0 len sz c
theorem KSt.push {σ : Store} {v : AV} {acc : List Mem} (h : KSt σ v acc) (hl : acc.length < lim) (x : Mem) :
    appendTo σ 6 96 v (memE x).cells 1 = some (.sl σ.next 0 (acc ++ [x]).length 6 none, grNext LMem σ v acc [x]) ∧ KSt (grNext LMem σ v acc [x]) (.sl σ.next 0 (acc ++ [x]).length 6 none) (acc ++ [x]) := by
  unfold lim at hl
  have hnx := h.nx
  have hn := grNext_next LMem σ v acc [x]
  have g0 : look (grNext LMem σ v acc [x]).m 0 = look σ.m 0 := grNext_get (m := [x]) h.gr (by omega) h.far
  refine ⟨h.gr.push (a := x) (bytes := 96) (by omega) (by unfold maxBytes; omega), by rw [g0]; exact h.nil, Gr.own (h.gr.next (m := [x]) (by simp)), by omega, ?_⟩
  intro len sz c hv
  simp only [AV.sl.injEq] at hv
  omega
theorem KSt.fin5 {σ : Store} {v : AV} {acc : List Mem} (h : KSt σ v acc) (cs : List AV) : rbE { next := σ.next, m := (0, .own cs) :: σ.m } (.agg [.int .i64 5, .int .i64 0, .str [], .nils, v]) = some (V.mk 5 0 [] [] acc).enc := by
  have hg : Gr LMem { next := σ.next, m := (0, .own cs) :: σ.m } v acc := by
    rcases h.gr with g | ⟨b, rfl, g⟩ | g
    · exact .inl g
    · refine .inr (.inl ⟨b, rfl, g.frame ?_ (Nat.le_refl _)⟩)
      have hb : b ≠ 0 := by rintro rfl; exact h.far _ _ _ rfl
      show look ((0, _) :: _) b = look _ b
      simp only [look]; rw [if_neg (fun hh => hb hh.symm)]
    · exact .inr (.inr g)
  have := RbL.agg (RbL.clo (x := .int .i64 5) rfl (RbL.clo (x := .int .i64 0) rfl (RbL.clo (x := .str []) rfl (RbL.clo (x := .nils) rfl (RbL.gr hg (RbL.nil _ 23))))))
  simp only [er_int, er_str, er_nils] at this
  rw [V.enc_eq]
  exact this
theorem memE_lo (x : Mem) : lenOf (.vsl [memE x] (some 1)) = some 1 := rfl
theorem memE_ro (x : Mem) (σ : Store) : rowOf σ 6 (.vsl [memE x] (some 1)) = some (memE x).cells := by
  have := LMem.rowOf σ [x] (some 1)
  simpa [Lay.cells, LMem] using this
theorem r_Keep (v : V) (keys : List Bs) (b : Bool) (hk : keys.length < big) (hm : v.m.length < lim) : cR 133 [v.enc, .vsl (keys.map .str) none, .bool b] = some (keepV v keys b).enc := by
  have hm' := hm
  unfold lim at hm'
  refine cR_of (F := F133) rfl ?_
  obtain ⟨r, hr⟩ : ∃ r, r = (keepV v keys b).enc := ⟨_, rfl⟩
  rw [← hr]
  unfold keepV at hr
  cases h5 : v.kind != 5 with
  | true =>
    have hk5 : v.kind ≠ 5 := by simpa using h5
    rw [if_neg hk5] at hr
    simp only [U7Ff, EXA, Nat.reduceEqDiff, reduceIte, reduceCtorEq, Nat.reduceAdd, Nat.reduceLeDiff, Nat.reduceSub, Nat.reduceMul, Int.reduceEq, Int.reduceBEq, Int.reduceBNe, Int.reduceLT, Int.reduceLE, Nat.reduceLT, VX, readAt_some, h5, hr]
  | false =>
    have hk5 : v.kind = 5 := by simpa using h5
    rw [if_pos hk5] at hr
    simp only [U7Ff, ex_loop, EXA, Nat.reduceEqDiff, reduceIte, reduceCtorEq, Nat.reduceAdd, Nat.reduceLeDiff, Nat.reduceSub, Nat.reduceMul, Int.reduceEq, Int.reduceBEq, Int.reduceBNe, Int.reduceLT, Int.reduceLE, Nat.reduceLT, VX, readAt_some, h5]
    refine ex_whileI (S := Nat × List Mem × AV) (fun s => [(1, .vsl (keys.map .str) none), (2, .bool b), (3, .vptr [.int .i64 v.kind, .int .i64 v.n, .str v.s, .vsl (v.l.map V.enc) none, .vsl (v.m.map memE) none] 0), (6, .ptr 0 0), (7, s.2.2), (8, .int .i64 (s.1 : Int))])
      (fun s => v.m.length - s.1) (fun s σ => KSt σ s.2.2 s.2.1 ∧ s.2.1.length ≤ s.1 ∧ s.2.1 ++ (v.m.drop s.1).filter (fun x => hasS keys x.1 == b) = v.m.filter (fun x => hasS keys x.1 == b)) ?_ (0, [], .nils) _ ⟨⟨rfl, Gr.nil LMem _, by simp, fun _ _ _ h => by cases h⟩, by simp, rfl⟩
    rintro bd ⟨j, acc, w⟩ σ ⟨h, hai, hf⟩ ih
    simp only at h hai hf ih ⊢
    by_cases hlt : j < v.m.length
    · obtain ⟨x, hx⟩ := get_lt hlt
      have hcond := dlt hlt
      have hw := wsucc hlt (by omega)
      have hidx := idx_mem (c := none) hx
      have hh := r_Has keys x.1 hk
      rw [drop_cons hx, List.filter_cons] at hf
      obtain ⟨p1, p2⟩ := h.push (by unfold lim; omega) x
      have hlo := memE_lo x
      have hro := memE_ro x
      simp only [memE_cells] at p1 hro
      cases hb : hasS keys x.1 == b with
      | true =>
        rw [hb] at hf
        simp only [if_true] at hf
        simp only [U7Fe, EXA, Nat.reduceEqDiff, reduceIte, reduceCtorEq, Nat.reduceAdd, Nat.reduceLeDiff, Nat.reduceSub, Nat.reduceMul, Int.reduceEq, Int.reduceBEq, Int.reduceBNe, Int.reduceLT, Int.reduceLE, Nat.reduceLT, VX, readAt_some, hcond, hidx, hh, hb, hlo, hro, p1, hw]
        exact ih (j + 1, acc ++ [x], _) _ _ (by simp; omega) ⟨p2, by simp; omega, by simpa using hf⟩ (by simp only [EXA, Nat.reduceEqDiff, reduceIte, reduceCtorEq, Nat.reduceAdd, Nat.reduceLeDiff, Nat.reduceSub, Nat.reduceMul, Int.reduceEq, Int.reduceBEq, Int.reduceBNe, Int.reduceLT, Int.reduceLE, Nat.reduceLT])
      | false =>
        rw [hb] at hf
        simp only [Bool.false_eq_true, if_false] at hf
        simp only [U7Fe, EXA, Nat.reduceEqDiff, reduceIte, reduceCtorEq, Nat.reduceAdd, Nat.reduceLeDiff, Nat.reduceSub, Nat.reduceMul, Int.reduceEq, Int.reduceBEq, Int.reduceBNe, Int.reduceLT, Int.reduceLE, Nat.reduceLT, VX, readAt_some, hcond, hidx, hh, hb, hw]
        exact ih (j + 1, acc, w) _ _ (by simp; omega) ⟨h, by simp; omega, hf⟩ (by simp only [EXA, Nat.reduceEqDiff, reduceIte, reduceCtorEq, Nat.reduceAdd, Nat.reduceLeDiff, Nat.reduceSub, Nat.reduceMul, Int.reduceEq, Int.reduceBEq, Int.reduceBNe, Int.reduceLT, Int.reduceLE, Nat.reduceLT])
    · have hcond := dge (Nat.not_lt.1 hlt)
      rw [List.drop_of_length_le (by omega), List.filter_nil, List.append_nil] at hf
      have h0 := h.nil
      have hp := h.gr.plain
      have hfin := h.fin5 [.int .i64 5, .int .i64 0, .str [], .nils, w]
      simp only [U7Fe, EXA, Nat.reduceEqDiff, reduceIte, reduceCtorEq, Nat.reduceAdd, Nat.reduceLeDiff, Nat.reduceSub, Nat.reduceMul, Int.reduceEq, Int.reduceBEq, Int.reduceBNe, Int.reduceLT, Int.reduceLE, Nat.reduceLT, VX, readAt_some, hcond, h0, hp.1, hp.2.1, hp.2.2.1]
      rw [hfin, hr, hf]
end Go.Ab
/- What a template holds: texts, tables, who stands for a joining. -/
namespace Go.Ab
set_option maxHeartbeats 1000000
def W5Fa := @F134.eq_1
def W5Fb := @F135.eq_1
def W5Fc := @F136.eq_1
def W5Fd := @F138.eq_1
def W5Fe := @F140.eq_1
set_option maxRecDepth 100000
def isV (v : V) (k x : Bs) : Bool := (textAt v k).2 && (textAt v k).1 == x
theorem r_is (v : V) (k x : Bs) (hb : v.sz < big) : cR 134 [v.enc, .str k, .str x] = some (.bool (isV v k x)) := by
  have h := r_textAt v k hb
  unfold isV
  generalize textAt v k = t at h ⊢
  obtain ⟨s, b⟩ := t
  refine cR_of (F := F134) rfl ?_
  cases b with
  | false => simp only [W5Fa, EXA, Nat.reduceEqDiff, reduceIte, reduceCtorEq, Nat.reduceAdd, Nat.reduceLeDiff, Nat.reduceSub, Nat.reduceMul, Int.reduceEq, Int.reduceBEq, Int.reduceBNe, Int.reduceLT, Int.reduceLE, Nat.reduceLT, VX, readAt_some, V.eta, h]; rfl
  | true => simp only [W5Fa, EXA, Nat.reduceEqDiff, reduceIte, reduceCtorEq, Nat.reduceAdd, Nat.reduceLeDiff, Nat.reduceSub, Nat.reduceMul, Int.reduceEq, Int.reduceBEq, Int.reduceBNe, Int.reduceLT, Int.reduceLE, Nat.reduceLT, VX, readAt_some, V.eta, h, Bool.true_and]
def tabV (v : V) (k : Bs) : V × Bool := ((getV v k).1, (getV v k).2 && (getV v k).1.kind == 5)
theorem r_tabAt (v : V) (k : Bs) (hb : v.sz < big) : cR 135 [v.enc, .str k] = some (.tup [(tabV v k).1.enc, .bool (tabV v k).2]) := by
  have h := r_get v k hb
  unfold tabV
  generalize getV v k = t at h ⊢
  obtain ⟨x, b⟩ := t
  refine cR_of (F := F135) rfl ?_
  cases b with
  | false => simp only [W5Fb, EXF, EXA, Nat.reduceEqDiff, reduceIte, reduceCtorEq, Nat.reduceAdd, Nat.reduceLeDiff, Nat.reduceSub, Nat.reduceMul, Int.reduceEq, Int.reduceBEq, Int.reduceBNe, Int.reduceLT, Int.reduceLE, Nat.reduceLT, VX, readAt_some, V.eta, h]; rfl
  | true => simp only [W5Fb, EXF, EXA, Nat.reduceEqDiff, reduceIte, reduceCtorEq, Nat.reduceAdd, Nat.reduceLeDiff, Nat.reduceSub, Nat.reduceMul, Int.reduceEq, Int.reduceBEq, Int.reduceBNe, Int.reduceLT, Int.reduceLE, Nat.reduceLT, VX, readAt_some, V.eta, h, Bool.true_and]
def intV (g : V × Bool) : Int × Bool := if g.2 && g.1.kind == 2 then (g.1.n, true) else (0, false)
theorem r_intAt (v : V) (k : Bs) (hb : v.sz < big) : cR 138 [v.enc, .str k] = some (.tup [.int .i64 (intV (getV v k)).1, .bool (intV (getV v k)).2]) := by
  have h := r_get v k hb
  generalize getV v k = t at h ⊢
  obtain ⟨x, b⟩ := t
  refine cR_of (F := F138) rfl ?_
  have hb2 : (x.kind != 2) = !(x.kind == 2) := rfl
  cases b with
  | false => simp only [W5Fd, EXA, Nat.reduceEqDiff, reduceIte, reduceCtorEq, Nat.reduceAdd, Nat.reduceLeDiff, Nat.reduceSub, Nat.reduceMul, Int.reduceEq, Int.reduceBEq, Int.reduceBNe, Int.reduceLT, Int.reduceLE, Nat.reduceLT, VX, readAt_some, V.eta, h]; rfl
  | true =>
    cases h2 : x.kind == 2 with
    | false => rw [h2] at hb2; simp only [W5Fd, EXA, Nat.reduceEqDiff, reduceIte, reduceCtorEq, Nat.reduceAdd, Nat.reduceLeDiff, Nat.reduceSub, Nat.reduceMul, Int.reduceEq, Int.reduceBEq, Int.reduceBNe, Int.reduceLT, Int.reduceLE, Nat.reduceLT, VX, readAt_some, V.eta, h, hb2]; simp [intV, h2]
    | true => rw [h2] at hb2; simp only [W5Fd, EXA, Nat.reduceEqDiff, reduceIte, reduceCtorEq, Nat.reduceAdd, Nat.reduceLeDiff, Nat.reduceSub, Nat.reduceMul, Int.reduceEq, Int.reduceBEq, Int.reduceBNe, Int.reduceLT, Int.reduceLE, Nat.reduceLT, VX, readAt_some, V.eta, h, hb2]; simp [intV, h2]
theorem r_refIntAt (v : V) (k : Bs) (hb : v.sz < big) : cR 140 [v.enc, .str k] = some (.tup [.int .i64 (intV (getR v k)).1, .bool (intV (getR v k)).2]) := by
  have h := r_refGet v k hb
  generalize getR v k = t at h ⊢
  obtain ⟨x, b⟩ := t
  refine cR_of (F := F140) rfl ?_
  have hb2 : (x.kind != 2) = !(x.kind == 2) := rfl
  cases b with
  | false => simp only [W5Fe, EXA, Nat.reduceEqDiff, reduceIte, reduceCtorEq, Nat.reduceAdd, Nat.reduceLeDiff, Nat.reduceSub, Nat.reduceMul, Int.reduceEq, Int.reduceBEq, Int.reduceBNe, Int.reduceLT, Int.reduceLE, Nat.reduceLT, VX, readAt_some, V.eta, h]; rfl
  | true =>
    cases h2 : x.kind == 2 with
    | false => rw [h2] at hb2; simp only [W5Fe, EXA, Nat.reduceEqDiff, reduceIte, reduceCtorEq, Nat.reduceAdd, Nat.reduceLeDiff, Nat.reduceSub, Nat.reduceMul, Int.reduceEq, Int.reduceBEq, Int.reduceBNe, Int.reduceLT, Int.reduceLE, Nat.reduceLT, VX, readAt_some, V.eta, h, hb2]; simp [intV, h2]
    | true => rw [h2] at hb2; simp only [W5Fe, EXA, Nat.reduceEqDiff, reduceIte, reduceCtorEq, Nat.reduceAdd, Nat.reduceLeDiff, Nat.reduceSub, Nat.reduceMul, Int.reduceEq, Int.reduceBEq, Int.reduceBNe, Int.reduceLT, Int.reduceLE, Nat.reduceLT, VX, readAt_some, V.eta, h, hb2]; simp [intV, h2]
abbrev kJoin4 : Bs := [106, 111, 105, 110]
def byP (v : V) (to server : Bs) : Bs × Bool := if (getV v kAuthd).2 then ((textAt v kAuthd).1, ((partsB (textAt v kAuthd).1 64).2.2 && (partsB (textAt v kAuthd).1 64).2.1 == server) && to == kJoin4) else ([], true)
theorem r_by (v : V) (to server : Bs) (hb : v.sz < big) : cR 136 [v.enc, .str to, .str server] = some (.tup [.str (byP v to server).1, .bool (byP v to server).2]) := by
  have h1 := r_get v kAuthd hb
  have h2 := r_textAt v kAuthd hb
  have hl : (textAt v kAuthd).1.length < big := by
    have := textAt_len v kAuthd
    omega
  have h3 := r_User _ hl
  unfold byP
  generalize getV v kAuthd = g at h1 ⊢
  generalize textAt v kAuthd = t at h2 h3 ⊢
  generalize partsB t.1 64 = u at h3 ⊢
  obtain ⟨x, b⟩ := g
  obtain ⟨s, c⟩ := t
  obtain ⟨u1, u2, u3⟩ := u
  simp only at h1 h2 h3 ⊢
  refine cR_of (F := F136) rfl ?_
  cases b with
  | false => simp only [W5Fc, EXA, Nat.reduceEqDiff, reduceIte, reduceCtorEq, Nat.reduceAdd, Nat.reduceLeDiff, Nat.reduceSub, Nat.reduceMul, Int.reduceEq, Int.reduceBEq, Int.reduceBNe, Int.reduceLT, Int.reduceLE, Nat.reduceLT, VX, readAt_some, V.eta, h1, h2, h3]; try rfl
  | true =>
    cases u3 with
    | false => simp only [W5Fc, EXA, Nat.reduceEqDiff, reduceIte, reduceCtorEq, Nat.reduceAdd, Nat.reduceLeDiff, Nat.reduceSub, Nat.reduceMul, Int.reduceEq, Int.reduceBEq, Int.reduceBNe, Int.reduceLT, Int.reduceLE, Nat.reduceLT, VX, readAt_some, V.eta, h1, h2, h3]; try rfl
    | true =>
      cases hu : u2 == server with
      | false => simp only [W5Fc, EXA, Nat.reduceEqDiff, reduceIte, reduceCtorEq, Nat.reduceAdd, Nat.reduceLeDiff, Nat.reduceSub, Nat.reduceMul, Int.reduceEq, Int.reduceBEq, Int.reduceBNe, Int.reduceLT, Int.reduceLE, Nat.reduceLT, VX, readAt_some, V.eta, h1, h2, h3, hu]; try rfl
      | true => simp only [W5Fc, EXA, Nat.reduceEqDiff, reduceIte, reduceCtorEq, Nat.reduceAdd, Nat.reduceLeDiff, Nat.reduceSub, Nat.reduceMul, Int.reduceEq, Int.reduceBEq, Int.reduceBNe, Int.reduceLT, Int.reduceLE, Nat.reduceLT, VX, readAt_some, V.eta, h1, h2, h3, hu]; try rfl
end Go.Ab
