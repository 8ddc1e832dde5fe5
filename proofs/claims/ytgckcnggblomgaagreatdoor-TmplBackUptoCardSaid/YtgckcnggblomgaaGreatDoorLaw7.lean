/- What functions of the program, and of the library, answer. Conditions: none. -/
import Derived.Test.YtgckcnggblomgaaGreatDoorLaw6
import Derived.Test.YtgckcnggblomgaaGreatDoorLaw2
import Derived.Test.YtgckcnggblomgaaGreatDoorLaw5
set_option linter.unusedVariables false
set_option linter.unusedSimpArgs false
set_option linter.defProp false
/- Names of events. -/
namespace Go.Ab
set_option maxHeartbeats 1000000
def W3Fa := @F150.eq_1
def W3Fc := @F162.eq_1
set_option maxRecDepth 100000
def pre36 : Bs → Bool
  | c :: _ => c == 36
  | [] => false
theorem r_hasPre (s : Bs) : cR 166 [.str s, .str [36]] = some (.bool (pre36 s)) := by
  cases s with
  | nil => exact cR_closed 100 (by kernel_rfl)
  | cons c r =>
    refine cR_of (F := F166) rfl ?_
    have h1 : decide (((r.length + 1 : Nat) : Int) ≥ ((1 : Nat) : Int)) = true := by simp; omega
    have h2 : bounds (r.length + 1) none (some ((1 : Nat) : Int)) = some (0, 1) := by simp [bounds]; omega
    have h3 : List.drop 0 (List.take 1 (c :: r)) = [c] := rfl
    have h4 : ([c] == [36]) = (c == 36) := by simp
    simp only [F166, EXA, Nat.reduceEqDiff, reduceIte, reduceCtorEq, Nat.reduceAdd, Nat.reduceLeDiff, Nat.reduceSub, Nat.reduceMul, Int.reduceEq, Int.reduceBEq, Int.reduceBNe, Int.reduceLT, Int.reduceLE, Nat.reduceLT, h1, h2, h3, h4]
    rfl
theorem r_cutPre0 (s : Bs) : cR 162 [.str s, .str [36]] = some (.tup [.str (if pre36 s then s.drop 1 else s), .bool (pre36 s)]) := by
  refine cR_of (F := F162) rfl ?_
  have h := r_hasPre s
  cases hp : pre36 s with
  | false =>
    rw [hp] at h
    simp only [W3Fc, EXA, Nat.reduceEqDiff, reduceIte, reduceCtorEq, Nat.reduceAdd, Nat.reduceLeDiff, Nat.reduceSub, Nat.reduceMul, Int.reduceEq, Int.reduceBEq, Int.reduceBNe, Int.reduceLT, Int.reduceLE, Nat.reduceLT, h]
  | true =>
    rw [hp] at h
    have h2 : sliceSOf (.str s) (some (some ((1 : Nat) : Int))) (some none) = some (.str (s.drop 1)) := sliceS_lo (s := s) (i := ((1 : Nat) : Int)) (by omega) (by cases s with | nil => cases hp | cons c r => simp; omega)
    simp only [W3Fc, EXA, Nat.reduceEqDiff, reduceIte, reduceCtorEq, Nat.reduceAdd, Nat.reduceLeDiff, Nat.reduceSub, Nat.reduceMul, Int.reduceEq, Int.reduceBEq, Int.reduceBNe, Int.reduceLT, Int.reduceLE, Nat.reduceLT, h, h2]
theorem r_cutPre (s : Bs) : cR 156 [.str s, .str [36]] = some (.tup [.str (if pre36 s then s.drop 1 else s), .bool (pre36 s)]) := by
  refine cR_of (F := F156) rfl ?_
  have h := r_cutPre0 s
  simp only [F156, EXA, Nat.reduceEqDiff, reduceIte, reduceCtorEq, Nat.reduceAdd, Nat.reduceLeDiff, Nat.reduceSub, Nat.reduceMul, Int.reduceEq, Int.reduceBEq, Int.reduceBNe, Int.reduceLT, Int.reduceLE, Nat.reduceLT, h]
/-- The name of an event. -/
def evId (s : Bs) : Bool := pre36 s && (okB (s.drop 1) && decide (s.length = 44))
theorem r_event (s : Bs) (hb : s.length < lim) : cR 150 [.str s] = some (.bool (evId s)) := by
  refine cR_of (F := F150) rfl ?_
  have h := r_cutPre s
  unfold evId
  cases hp : pre36 s with
  | false =>
    rw [hp] at h
    obtain ⟨bs, e, h1, h2, h3⟩ := r_GetURL s hb
    simp only [Bool.false_eq_true, if_false] at h
    simp only [W3Fa, EXA, Nat.reduceEqDiff, reduceIte, reduceCtorEq, Nat.reduceAdd, Nat.reduceLeDiff, Nat.reduceSub, Nat.reduceMul, Int.reduceEq, Int.reduceBEq, Int.reduceBNe, Int.reduceLT, Int.reduceLE, Nat.reduceLT, h, h1]
    rfl
  | true =>
    rw [hp] at h
    obtain ⟨bs, e, h1, h2, h3⟩ := r_GetURL (s.drop 1) (by simp; omega)
    simp only [if_true] at h
    cases ho : okB (s.drop 1) with
    | false =>
      rw [ho] at h2
      simp only [W3Fa, EXA, Nat.reduceEqDiff, reduceIte, reduceCtorEq, Nat.reduceAdd, Nat.reduceLeDiff, Nat.reduceSub, Nat.reduceMul, Int.reduceEq, Int.reduceBEq, Int.reduceBNe, Int.reduceLT, Int.reduceLE, Nat.reduceLT, h, h1, h2]
      rfl
    | true =>
      rw [ho] at h2
      have hl := h3 ho
      have h1s : 1 ≤ s.length := by cases s with | nil => cases hp | cons c r => simp
      have hd : ((bs.length : Int) == 32) = decide (s.length = 44) := by
        rw [hl, List.length_drop]
        by_cases h44 : s.length = 44
        · rw [h44]; rfl
        · rw [decide_eq_false h44]
          have : ¬ 6 * (s.length - 1) / 8 = 32 := by
            intro h
            have hr : 6 * (s.length - 1) % 8 < 6 := by
              unfold okB at ho
              simp only [Bool.and_eq_true, decide_eq_true_eq, List.length_drop] at ho
              exact ho.2.1
            omega
          simp; omega
      simp only [W3Fa, EXA, Nat.reduceEqDiff, reduceIte, reduceCtorEq, Nat.reduceAdd, Nat.reduceLeDiff, Nat.reduceSub, Nat.reduceMul, Int.reduceEq, Int.reduceBEq, Int.reduceBNe, Int.reduceLT, Int.reduceLE, Nat.reduceLT, h, h1, h2, List.length_map, hd]
end Go.Ab
/- The document's base64: whether there is an error, for 43 signs. -/
namespace Go.Ab
set_option maxHeartbeats 1000000
def W4Fa := @F124.eq_1
def W4Fb := J @F141_6.eq_1 (J @F141_18.eq_1 (J @F141_41.eq_1 (J @F141_42.eq_1 (J @F141_55.eq_1 (J @F141_56.eq_1 (J @F141_70.eq_1 (J @F141_71.eq_1 (@F141.eq_1))))))))
def W4Fc := J @F141_6.eq_1 (J @F141_18.eq_1 (J @F141_41.eq_1 (J @F141_55.eq_1 (J @F141_56.eq_1 (J @F141_70.eq_1 (@F141.eq_1))))))
set_option maxRecDepth 100000
def G64 (σ : Store) : Prop := ∃ cells, σ.get 0 = some (.own cells) ∧ cells.length = 32 ∧ ∀ x ∈ cells, ∃ z, x = AV.int .u8 z
def bitOf (v i : Nat) : Nat := v / 2 ^ (5 - i) % 2
theorem shr_bit {v i : Nat} (hv : v < 64) (hi : i < 6) : shiftInt .shr .i64 (v : Int) ((5 - i : Nat) : Int) = some (.int .i64 ((v / 2 ^ (5 - i) : Nat) : Int)) := by
  unfold shiftInt
  rw [if_neg (by omega)]
  have : min ((5 - i : Nat) : Int).toNat (IntKind.bits .i64) = 5 - i := by simp [IntKind.bits]; omega
  simp only [this]
  congr 2
  have e : ((2 : Int) ^ (5 - i)) = ((2 ^ (5 - i) : Nat) : Int) := by simp
  rw [e, Int.fdiv_eq_ediv_of_nonneg _ (Int.natCast_nonneg _)]
  rfl
def sh8 (n : Nat) : Int := IntKind.wrap .u8 (1 * 2 ^ (min (n : Int).toNat (IntKind.bits .u8)))
theorem shl_8 (n : Nat) : shiftInt .shl .u8 1 (n : Int) = some (.int .u8 (sh8 n)) := by
  unfold shiftInt
  rw [if_neg (by omega)]; rfl
theorem and_one (x : Nat) (hx : x < 64) : IntKind.wrap .i64 ((BitVec.ofInt (IntKind.bits .i64) (x : Int) &&& BitVec.ofInt (IntKind.bits .i64) 1).toNat : Int) = ((x % 2 : Nat) : Int) := by
  have e1 : (BitVec.ofInt (IntKind.bits .i64) (x : Int) &&& BitVec.ofInt (IntKind.bits .i64) 1).toNat = x % 2 := by
    show (BitVec.ofInt 64 (x : Int) &&& BitVec.ofInt 64 ((2 ^ 1 - 1 : Nat) : Int)).toNat = _
    rw [BitVec.toNat_and, BitVec.ofInt_natCast, BitVec.ofInt_natCast, BitVec.toNat_ofNat, BitVec.toNat_ofNat, Nat.mod_eq_of_lt (show 2 ^ 1 - 1 < 2 ^ 64 by decide), Nat.and_two_pow_sub_one_eq_mod]
    omega
  rw [e1]
  have : x % 2 < 2 := Nat.mod_lt _ (by decide)
  generalize x % 2 = y at this
  simp [IntKind.wrap, IntKind.bits, IntKind.signed]
  omega
theorem w64 {x : Nat} (h : x < 9223372036854775808) : IntKind.wrap .i64 (x : Int) = x := by
  simp [IntKind.wrap, IntKind.bits, IntKind.signed]; omega
theorem g64_inner {s : Bs} {j v : Nat} (hj : j < 43) (hv : v < 64) {K : List Item} {Q : Fr → Store → Prop} {σ : Store} (hσ : G64 σ)
    (hk : ∀ σ' l, G64 σ' → (j = 42 → v % 4 = 0) → Ex ipU gU K ((0, .str s) :: (1, .bool true) :: (6, .sl 0 0 32 1 none) :: (7, .int .i64 (j : Int)) :: l) σ' Q)
    (he : j = 42 → v % 4 ≠ 0 → ∀ fr' σ', (look fr' 4).getD .undef = .nils → (look fr' 5).getD .undef = .int .i64 2 → Q fr' σ') :
    Ex ipU gU (.code F141_42 :: .inLoop [0, 1, 6, 7, 8, 9] F141_42 :: .inBlock 2 :: K) [(0, .str s), (1, .bool true), (6, .sl 0 0 32 1 none), (7, .int .i64 (j : Int)), (8, .int .i64 (v : Int)), (9, .int .i64 0)] σ Q := by
  refine ex_whileI (S := Nat) (fun i => [(0, .str s), (1, .bool true), (6, .sl 0 0 32 1 none), (7, .int .i64 (j : Int)), (8, .int .i64 (v : Int)), (9, .int .i64 (i : Int))]) (fun i => 6 - i) (fun i σ => i ≤ 6 ∧ G64 σ ∧ (j = 42 → ∀ i', 4 ≤ i' → i' < i → bitOf v i' = 0)) ?_ 0 σ ⟨by omega, hσ, fun _ i' h1 h2 => by omega⟩
  rintro b i σ ⟨h1, h2, h3⟩ ih
  by_cases hi : i < 6
  · have hcond : decide ((i : Int) < 6) = true := by simp; omega
    have hw1 : IntKind.wrap .i64 (6 * (j : Int)) = ((6 * j : Nat) : Int) := by rw [← w64 (x := 6 * j) (by omega)]; simp
    have hw2 : IntKind.wrap .i64 (((6 * j : Nat) : Int) + (i : Int)) = ((6 * j + i : Nat) : Int) := by rw [← w64 (x := 6 * j + i) (by omega)]; simp
    have hw3 : IntKind.wrap .i64 (5 - (i : Int)) = ((5 - i : Nat) : Int) := by rw [← w64 (x := 5 - i) (by omega)]; congr 1; omega
    have hw := wsucc hi (by omega)
    have hsh := shr_bit hv hi
    have hx : v / 2 ^ (5 - i) < 64 := Nat.lt_of_le_of_lt (Nat.div_le_self _ _) hv
    have ha := and_one _ hx
    by_cases hb : bitOf v i = 0
    · have hz : (((v / 2 ^ (5 - i) % 2 : Nat) : Int) == 0) = true := by unfold bitOf at hb; rw [hb]; rfl
      simp only [W4Fb, EXA, Nat.reduceEqDiff, reduceIte, reduceCtorEq, Nat.reduceAdd, Nat.reduceLeDiff, Nat.reduceSub, Nat.reduceMul, Int.reduceEq, Int.reduceBEq, Int.reduceBNe, Int.reduceLT, Int.reduceLE, Nat.reduceLT, VX, hcond, hw1, hw2, hw3, hw, hsh, ha, hz]
      refine ih (i + 1) _ _ (by omega) ⟨by omega, h2, fun hj2 i' h4 h5 => ?_⟩ rfl
      by_cases hi' : i' = i
      · subst hi'; exact hb
      · exact h3 hj2 i' h4 (by omega)
    · have hz : (((v / 2 ^ (5 - i) % 2 : Nat) : Int) == 0) = false := by unfold bitOf at hb; rw [beq_eq_false_iff_ne]; omega
      have hq : IntKind.wrap .i64 (((6 * j + i : Nat) : Int).tdiv 8) = (((6 * j + i) / 8 : Nat) : Int) := w64 (x := (6 * j + i) / 8) (by omega)
      have hr : (((6 * j + i : Nat) : Int).tmod 8) = (((6 * j + i) % 8 : Nat) : Int) := rfl
      have hs : IntKind.wrap .i64 (7 - (((6 * j + i) % 8 : Nat) : Int)) = ((7 - (6 * j + i) % 8 : Nat) : Int) := by rw [← w64 (x := 7 - (6 * j + i) % 8) (by omega)]; congr 1; omega
      by_cases hp : 32 ≤ (6 * j + i) / 8
      · have hg : decide ((((6 * j + i) / 8 : Nat) : Int) ≥ ((32 : Nat) : Int)) = true := by simp; omega
        simp only [W4Fb, EXA, Nat.reduceEqDiff, reduceIte, reduceCtorEq, Nat.reduceAdd, Nat.reduceLeDiff, Nat.reduceSub, Nat.reduceMul, Int.reduceEq, Int.reduceBEq, Int.reduceBNe, Int.reduceLT, Int.reduceLE, Nat.reduceLT, VX, hcond, hw1, hw2, hw3, hw, hsh, ha, hz, hq, hg]
        refine he (by omega) ?_ _ _ rfl rfl
        intro h4
        apply hb
        unfold bitOf
        rcases (by omega : i = 4 ∨ i = 5) with rfl | rfl <;> simp <;> omega
      · have hg : decide ((((6 * j + i) / 8 : Nat) : Int) ≥ ((32 : Nat) : Int)) = false := by simp; omega
        obtain ⟨cells, c1, c2, c3⟩ := h2
        obtain ⟨x, hx⟩ := get_lt (l := cells) (j := (6 * j + i) / 8) (by omega)
        obtain ⟨z, rfl⟩ := c3 x (List.mem_of_getElem? hx)
        have hidx : idxOf 1 none (.sl 0 0 32 1 none) (.int .i64 (((6 * j + i) / 8 : Nat) : Int)) = some (.ptr 0 ((6 * j + i) / 8)) := by
          simp [idxOf]; omega
        have hlk : look σ.m 0 = some (.own cells) := c1
        have hle : ((6 * j + i) / 8 + 1 ≤ cells.length) = True := by rw [eq_iff_iff, iff_true]; omega
        simp only [W4Fb, EXA, Nat.reduceEqDiff, reduceIte, reduceCtorEq, Nat.reduceAdd, Nat.reduceLeDiff, Nat.reduceSub, Nat.reduceMul, Int.reduceEq, Int.reduceBEq, Int.reduceBNe, Int.reduceLT, Int.reduceLE, Nat.reduceLT, VX, readAt_some, hcond, hw1, hw2, hw3, hw, hsh, ha, hz, hq, hg, hr, hs, hidx, hlk, hx, shl_8, hle]
        refine ih (i + 1) _ _ (by omega) ⟨by omega, ⟨_, rfl, by simp [c2]; omega, fun y hy => ?_⟩, fun hj2 => by omega⟩ rfl
        simp only [List.append_assoc, List.mem_append, List.mem_singleton] at hy
        rcases hy with hy | rfl | hy
        · exact c3 y (List.mem_of_mem_take hy)
        · exact ⟨_, rfl⟩
        · exact c3 y (List.mem_of_mem_drop hy)
  · have hcond : decide ((i : Int) < 6) = false := by simp; omega
    simp only [W4Fb, EXA, Nat.reduceEqDiff, reduceIte, reduceCtorEq, Nat.reduceAdd, Nat.reduceLeDiff, Nat.reduceSub, Nat.reduceMul, Int.reduceEq, Int.reduceBEq, Int.reduceBNe, Int.reduceLT, Int.reduceLE, Nat.reduceLT, VX, hcond]
    refine hk _ _ h2 fun hj2 => ?_
    have b4 := h3 hj2 4 (by omega) (by omega)
    have b5 := h3 hj2 5 (by omega) (by omega)
    unfold bitOf at b4 b5
    simp at b4 b5
    omega
theorem all_bytes : ∀ cells : List AV, (∀ x ∈ cells, ∃ z, x = AV.int .u8 z) → ∃ bs : List Int, cells = LB.cells bs ∧ bs.length = cells.length
  | [], _ => ⟨[], rfl, rfl⟩
  | x :: l, h => by
    obtain ⟨z, rfl⟩ := h x (by simp)
    obtain ⟨bs, h1, h2⟩ := all_bytes l (fun y hy => h y (by simp [hy]))
    exact ⟨z :: bs, by rw [h1]; rfl, by simp [h2]⟩
theorem get64_ex (s : Bs) (hs : s.length = 43) : ∃ r σ', callS ipU gU (.fn 141 [] []) [.str s, .bool true] .empty = some (r, σ') ∧ GRes s r σ' := by
  refine callS_ex (F := F141) rfl (first := []) (caps := []) ?_
  have h43 : ((s.length : Nat) : Int) = 43 := by omega
  have hm : makeSlOf ⟨0, []⟩ 1 1 [.int .u8 0] (IntKind.wrap .i64 ((IntKind.wrap .i64 (6 * 43)).tdiv 8)) = some (.sl 0 0 32 1 none, ⟨1, [(0, .own (rep 32 [.int .u8 0]))]⟩) := by rfl
  simp only [F141_6, F141_18, F141_41, F141_42, F141_55, F141_70, F141, ex_loop, EXA, Nat.reduceEqDiff, reduceIte, reduceCtorEq, Nat.reduceAdd, Nat.reduceLeDiff, Nat.reduceSub, Nat.reduceMul, Int.reduceEq, Int.reduceBEq, Int.reduceBNe, Int.reduceLT, Int.reduceLE, Nat.reduceLT, VX, h43, hm]
  refine ex_whileI (S := Nat) (fun j => [(0, .str s), (1, .bool true), (6, .sl 0 0 32 1 none), (7, .int .i64 (j : Int))]) (fun j => 43 - j) (fun j σ => j ≤ 43 ∧ (s.take j).all okC = true ∧ G64 σ ∧ (j = 43 → lastV s % 4 = 0)) ?_ 0 _ ⟨by omega, rfl, ⟨_, rfl, rfl, fun x hx => ⟨0, ?_⟩⟩, fun h => by omega⟩
  · rintro b j σ ⟨h1, h2, h3, h4⟩ ih
    by_cases hlt : j < s.length
    · obtain ⟨c, hc⟩ := get_lt hlt
      have hcond : decide ((j : Int) < 43) = true := by simp; omega
      have hbyte := byte_get hc
      have hcall := r_six c
      have hw := wsucc hlt (by omega)
      have hle := numB_le c
      by_cases hv : numB c = 64
      · rw [if_pos hv] at hcall
        have hbad : okB s = false := okB_bad (by
          rw [List.all_eq_false]
          exact ⟨c, List.mem_of_getElem? hc, by simp [okC, hv]⟩)
        simp only [W4Fc, EXA, Nat.reduceEqDiff, reduceIte, reduceCtorEq, Nat.reduceAdd, Nat.reduceLeDiff, Nat.reduceSub, Nat.reduceMul, Int.reduceEq, Int.reduceBEq, Int.reduceBNe, Int.reduceLT, Int.reduceLE, Nat.reduceLT, VX, hcond, h43, hbyte, hcall]
        exact ⟨_, rfl, g_err hbad⟩
      · rw [if_neg hv] at hcall
        have hneg : decide ((numB c : Int) < 0) = false := by simp
        simp only [W4Fc, ex_loop, EXA, Nat.reduceEqDiff, reduceIte, reduceCtorEq, Nat.reduceAdd, Nat.reduceLeDiff, Nat.reduceSub, Nat.reduceMul, Int.reduceEq, Int.reduceBEq, Int.reduceBNe, Int.reduceLT, Int.reduceLE, Nat.reduceLT, VX, hcond, h43, hbyte, hcall, hneg]
        refine g64_inner (j := j) (v := numB c) (by omega) (by omega) h3 (fun σ' l hσ' hlo => ?_) (fun hj hvl fr' σ' q4 q5 => ?_)
        · simp only [W4Fc, EXA, Nat.reduceEqDiff, reduceIte, reduceCtorEq, Nat.reduceAdd, Nat.reduceLeDiff, Nat.reduceSub, Nat.reduceMul, Int.reduceEq, Int.reduceBEq, Int.reduceBNe, Int.reduceLT, Int.reduceLE, Nat.reduceLT, VX, hw]
          refine ih (j + 1) _ _ (by omega) ⟨by omega, by rw [take_succ' hc, List.all_append, h2]; simp [okC]; omega, hσ', fun h => ?_⟩ rfl
          have hj : j = 42 := by omega
          subst hj
          have hv4 := hlo rfl
          have he : s = s.take 42 ++ [c] := by
            rw [← take_succ' hc, List.take_of_length_le (by omega)]
          have hl : lastV s = numB c := by rw [he]; simp [lastV]
          rw [hl]; exact hv4
        · subst hj
          have he : s = s.take 42 ++ [c] := by
            rw [← take_succ' hc, List.take_of_length_le (by omega)]
          have hl : lastV s = numB c := by rw [he]; simp [lastV]
          refine ⟨_, rfl, ?_⟩
          rw [q4, q5]
          refine g_err ?_
          unfold okB
          rw [hs, hl]
          simp; omega
    · have hcond : decide ((j : Int) < 43) = false := by simp; omega
      have hj : j = 43 := by omega
      subst hj
      simp only [W4Fb, EXA, Nat.reduceEqDiff, reduceIte, reduceCtorEq, Nat.reduceAdd, Nat.reduceLeDiff, Nat.reduceSub, Nat.reduceMul, Int.reduceEq, Int.reduceBEq, Int.reduceBNe, Int.reduceLT, Int.reduceLE, Nat.reduceLT, VX, hcond, h43]
      have h4' := h4 rfl
      obtain ⟨cells, c1, c2, c3⟩ := h3
      obtain ⟨bs, rfl, hb⟩ := all_bytes cells c3
      have hok : okB s = true := by
        unfold okB
        rw [List.take_of_length_le (by omega)] at h2
        rw [h2, hs]; simp; omega
      show ∃ r, AV.tup [AV.sl 0 0 32 1 none, AV.int IntKind.i64 0] = r ∧ GRes s r σ
      refine ⟨_, rfl, bs, 0, ?_, by rw [hok]; rfl, fun _ => by rw [hs, hb, c2]⟩
      have hr := RbL.tup (RbL.rp (L := LB) (v := .sl 0 0 32 1 none) (d := 22) (l := bs) (.inr ⟨0, [], by rw [hb, c2]; rfl, by rw [List.append_nil]; exact c1⟩) (RbL.clo (x := .int .i64 0) rfl (RbL.nil _ _)))
      simp only [AV.er] at hr
      exact hr
  · have : rep 32 [AV.int .u8 0] = List.replicate 32 (AV.int .u8 0) := rfl
    rw [this] at hx
    exact (List.mem_replicate.1 hx).2
theorem r_Get64 (s : Bs) (hs : s.length = 43) : ∃ (bs : List Int) (e : Int), cR 141 [.str s, .bool true] = some (.tup [.vsl (bs.map (AV.int .u8)) none, .int .i64 e]) ∧ (e == 0) = okB s ∧ (okB s = true → bs.length = 6 * s.length / 8) := by
  obtain ⟨r, σ', h1, bs, e, h2, h3, h4⟩ := get64_ex s hs
  refine ⟨bs, e, ?_, h3, h4⟩
  show callR ipU gU (.fn 141 [] []) _ = _
  unfold callR
  rw [h1]; exact h2
theorem r_EventID (s : Bs) : cR 124 [.str s] = some (.bool (evId s)) := by
  refine cR_of (F := F124) rfl ?_
  by_cases hl : s.length = 44
  · have h1 : ((s.length : Int) != 44) = false := by rw [hl]; rfl
    obtain ⟨c, r, rfl⟩ : ∃ c r, s = c :: r := by cases s with | nil => simp at hl | cons c r => exact ⟨c, r, rfl⟩
    have hb := byte_get (s := c :: r) (j := 0) (c := c) rfl
    have hb' : byteAt (.str (c :: r)) (.int .i64 0) = some (.int .u8 c.toNat) := hb
    have hsl : sliceSOf (.str (c :: r)) (some (some 1)) (some none) = some (.str r) := sliceS_lo (s := c :: r) (i := 1) (by decide) (by simp; omega)
    obtain ⟨bs, e, q1, q2, q3⟩ := r_Get64 r (by simpa using hl)
    have hev : evId (c :: r) = (c == 36 && okB r) := by
      unfold evId pre36
      rw [hl]; simp
    have hc : ((c.toNat : Int) != 36) = !(c == 36) := by
      by_cases h : c = 36
      · subst h; rfl
      · have : (c.toNat : Int) ≠ 36 := fun h' => h (UInt8.toNat_inj.1 (by show c.toNat = 36; omega))
        rw [beq_eq_false_iff_ne.2 h, bne_iff_ne.2 this]; rfl
    rw [hev]
    cases h36 : c == 36 with
    | false =>
      rw [h36] at hc
      simp only [W4Fa, EXA, Nat.reduceEqDiff, reduceIte, reduceCtorEq, Nat.reduceAdd, Nat.reduceLeDiff, Nat.reduceSub, Nat.reduceMul, Int.reduceEq, Int.reduceBEq, Int.reduceBNe, Int.reduceLT, Int.reduceLE, Nat.reduceLT, h1, hb', hc]
      split <;> rfl
    | true =>
      rw [h36] at hc
      simp only [W4Fa, EXA, Nat.reduceEqDiff, reduceIte, reduceCtorEq, Nat.reduceAdd, Nat.reduceLeDiff, Nat.reduceSub, Nat.reduceMul, Int.reduceEq, Int.reduceBEq, Int.reduceBNe, Int.reduceLT, Int.reduceLE, Nat.reduceLT, h1, hb', hc, hsl, q1, q2]
      have hlr : r.length = 43 := by simpa using hl
      rw [hlr]
      rw [if_neg (by decide)]
      split
      · rename_i ho
        rw [ho, List.length_map, q3 ho, hlr]; rfl
      · rename_i ho
        rw [Bool.eq_false_iff.2 ho]
  · have h1 : ((s.length : Int) != 44) = true := by rw [bne_iff_ne]; omega
    have hev : evId s = false := by unfold evId; rw [decide_eq_false hl]; simp
    simp only [W4Fa, EXA, Nat.reduceEqDiff, reduceIte, reduceCtorEq, Nat.reduceAdd, Nat.reduceLeDiff, Nat.reduceSub, Nat.reduceMul, Int.reduceEq, Int.reduceBEq, Int.reduceBNe, Int.reduceLT, Int.reduceLE, Nat.reduceLT, h1, hev]
end Go.Ab
/- slices.DeleteFunc over members. -/
namespace Go.Ab
set_option maxHeartbeats 1000000
def U2Fa := J @F155_12.eq_1 (J @F155_28.eq_1 (J @F155_29.eq_1 (@F155.eq_1)))
def U2Fb := J @F155_12.eq_1 (J @F155_28.eq_1 (@F155.eq_1))
set_option maxRecDepth 100000
abbrev zMem : List AV := [.str [], .int .i64 0, .int .i64 0, .str [], .nils, .nils]
/-- What a block holds in the loop. -/
structure DelI (l : List Mem) (p : Mem → Bool) (b0 : Nat) (σ0 : Store) (j : Nat) (kept junk : List Mem) (σ : Store) : Prop where
  row : look σ.m b0 = some (.own (LMem.cells (kept ++ junk ++ l.drop j)))
  len : kept.length + junk.length = j
  le : j ≤ l.length
  kept_eq : kept = (l.take j).filter fun x => !p x
  nx : σ0.next ≤ σ.next
  old : ∀ b, b < σ0.next → b ≠ b0 → σ.get b = σ0.get b
  b0 : b0 < σ0.next
theorem slice_tail {b n i : Nat} (h : i ≤ n) : slice3 6 (.sl b 0 n 6 none) (some (some (i : Int))) (some none) (some none) = some (.sl b (i * 6) (n - i) 6 none) := by
  have hb : bounds n (some (i : Int)) none = some (i, n) := by simp [bounds]; omega
  simp only [slice3, sliceOf, hb, if_true, Option.map_none, Nat.zero_add]
theorem slice_head {b n i : Nat} (h : i ≤ n) : slice3 6 (.sl b 0 n 6 none) (some none) (some (some (i : Int))) (some none) = some (.sl b 0 i 6 none) := by
  have hb : bounds n none (some (i : Int)) = some (0, i) := by simp [bounds]; omega
  simp only [slice3, sliceOf, hb, if_true, Option.map_none, Nat.zero_add, Nat.zero_mul, Nat.sub_zero]
theorem idx_sl {b n j : Nat} {σ : Store} (h : j < n) : idxOf 6 none (.sl b 0 n 6 none) (.int .i64 (j : Int)) = some (.ptr b (j * 6)) := by
  have h2 : ((j : Int) < (n : Int)) := by omega
  simp [Go.Ab.idxOf, h2]
/-- A member that is written over an elder one. -/
theorem del_write (kept junk D : List Mem) (x : Mem) : ∃ junk', splice (LMem.cells (kept ++ junk ++ x :: D)) (kept.length * 6) (memE x).cells = LMem.cells ((kept ++ [x]) ++ junk' ++ D) ∧ junk'.length = junk.length := by
  cases junk with
  | nil =>
    refine ⟨[], ?_, rfl⟩
    have : splice (LMem.cells (kept ++ x :: D) ++ []) (kept.length * 6) (memE x).cells = LMem.cells (kept ++ x :: D) ++ [] := splice_row LMem kept D x x []
    simpa using this
  | cons y junk =>
    refine ⟨junk ++ [x], ?_, by simp⟩
    have : splice (LMem.cells (kept ++ y :: (junk ++ x :: D)) ++ []) (kept.length * 6) (memE x).cells = LMem.cells (kept ++ x :: (junk ++ x :: D)) ++ [] := splice_row LMem kept (junk ++ x :: D) y x []
    simpa using this
theorem del_loop {l : List Mem} {f : AV} {p : Mem → Bool} {b0 : Nat} {σ0 : Store} {k : List Item} {Q : Fr → Store → Prop} (hf : f.closed = true) (hfe : f.er = f) (hlen : l.length < lim) (hp : ∀ e ∈ l, callR ipU gU f [memE e] = some (.bool (p e)))
    {j : Nat} {kept junk : List Mem} {σ : Store} (h : DelI l p b0 σ0 j kept junk σ)
    (hk : ∀ (kept junk : List Mem) (σ : Store) (fr : Fr), DelI l p b0 σ0 l.length kept junk σ → (look fr 0).getD .undef = .sl b0 0 l.length 6 none → (look fr 5).getD .undef = .int .i64 (kept.length : Int) → Ex ipU gU k fr σ Q) :
    Ex ipU gU (.code F155_29 :: .inLoop [0, 1, 5, 6] F155_29 :: .inBlock 0 :: k) [(0, .sl b0 0 l.length 6 none), (1, f), (5, .int .i64 (kept.length : Int)), (6, .int .i64 (j : Int))] σ Q := by
  unfold lim at hlen
  refine ex_whileI (S := Nat × List Mem × List Mem) (fun s => [(0, .sl b0 0 l.length 6 none), (1, f), (5, .int .i64 (s.2.1.length : Int)), (6, .int .i64 (s.1 : Int))]) (fun s => l.length - s.1)
    (fun s σ => DelI l p b0 σ0 s.1 s.2.1 s.2.2 σ) ?_ (j, kept, junk) σ h
  rintro b ⟨j, kept, junk⟩ σ h ih
  simp only at h ih ⊢
  have hb0 := h.b0
  have hnx := h.nx
  have hne : (σ.next = b0) = False := by simp; omega
  by_cases hlt : j < l.length
  · obtain ⟨x, hx⟩ := get_lt hlt
    have hcond := dlt hlt
    have hrow := h.row
    have hpx := hp x (List.mem_of_getElem? hx)
    rw [drop_cons hx] at hrow
    have hkl : kept.length ≤ j := by have := h.len; omega
    have hidx := idx_sl (b := b0) (σ := σ) hlt
    have hidx2 := idx_sl (b := b0) (n := l.length) (σ := σ) (j := kept.length) (by omega)
    have hread : readAt (LMem.cells (kept ++ junk ++ x :: l.drop (j + 1))) (j * 6) (some 6) = some (memE x) := by
      have := read_row LMem (by simp [LMem]) (kept ++ junk) (l.drop (j + 1)) x []
      have hl : (kept ++ junk).length = j := by simp; exact h.len
      rw [hl] at this
      simpa [LMem] using this
    have hw := wsucc hlt (by omega)
    have hw2 := wsucc (j := kept.length) (n := l.length) (by omega) (by omega)
    obtain ⟨junk', hspl, hjl⟩ := del_write kept junk (l.drop (j + 1)) x
    have hcl : (memE x).cells.length = 6 := by simp [memE_cells]
    have hle : kept.length * 6 + 6 ≤ (LMem.cells (kept ++ junk ++ x :: l.drop (j + 1))).length := by
      rw [LMem.cells_len]
      have : (kept ++ junk ++ x :: l.drop (j + 1)).length = l.length := by simp; have := h.len; omega
      rw [this]
      show kept.length * 6 + 6 ≤ l.length * 6
      omega
    have hone : (memE x).cells.all AV.one = true := LMem.one x
    have htk : (l.take (j + 1)).filter (fun x => !p x) = kept ++ (if p x then [] else [x]) := by
      rw [List.take_add_one, hx, List.filter_append, h.kept_eq]
      cases hpx' : p x <;> simp [hpx']
    have hzl : (6 : Nat) ≤ [AV.str [], AV.int .i64 0, AV.int .i64 0, AV.str [], AV.nils, AV.nils].length := by simp
    have hspl0 : splice [AV.str [], AV.int .i64 0, AV.int .i64 0, AV.str [], AV.nils, AV.nils] 0 (memE x).cells = (memE x).cells := by simp [splice, memE_cells]
    cases hpe : p x with
    | true =>
      rw [hpe] at hpx
      simp only [U2Fa, EXA, Nat.reduceEqDiff, reduceIte, reduceCtorEq, Nat.reduceAdd, Nat.reduceLeDiff, Nat.reduceSub, Nat.reduceMul, Int.reduceEq, Int.reduceBEq, Int.reduceBNe, Int.reduceLT, Int.reduceLE, Nat.reduceLT, VX, readAt_some, hcond, hidx, hrow, hread, hf, hfe, hpx, hw, hne]
      refine ih (j + 1, kept, junk ++ [x]) _ _ (by simp; omega) ⟨?_, by have := h.len; simp; omega, hlt, ?_, by show σ0.next ≤ σ.next + 1; omega, ?_, hb0⟩ (by simp only [EXA, Nat.reduceEqDiff, reduceIte, reduceCtorEq, Nat.reduceAdd, Nat.reduceLeDiff, Nat.reduceSub, Nat.reduceMul, Int.reduceEq, Int.reduceBEq, Int.reduceBNe, Int.reduceLT, Int.reduceLE, Nat.reduceLT])
      · show look ((σ.next, _) :: (σ.next, _) :: σ.m) b0 = _
        simp only [look, hne, if_false, hrow]
        simp
      · simp only [htk, hpe, if_true, List.append_nil]
      · intro b hb hbn
        show look ((σ.next, _) :: (σ.next, _) :: σ.m) b = _
        have hnb : (σ.next = b) = False := by simp; omega
        simp only [look, hnb, if_false]
        exact h.old b hb hbn
    | false =>
      rw [hpe] at hpx
      simp only [memE_cells] at hspl hone hle
      simp only [U2Fa, EXA, Nat.reduceEqDiff, reduceIte, reduceCtorEq, Nat.reduceAdd, Nat.reduceLeDiff, Nat.reduceSub, Nat.reduceMul, Int.reduceEq, Int.reduceBEq, Int.reduceBNe, Int.reduceLT, Int.reduceLE, Nat.reduceLT, VX, readAt_some, hcond, hidx, hidx2, hrow, hread, hf, hfe, hpx, hw, hw2, hne, hspl, hone, hle]
      refine ih (j + 1, kept ++ [x], junk') _ _ (by simp; omega) ⟨?_, by have := h.len; simp; omega, hlt, ?_, by show σ0.next ≤ σ.next + 1; omega, ?_, hb0⟩ (by simp only [EXA, Nat.reduceEqDiff, reduceIte, reduceCtorEq, Nat.reduceAdd, Nat.reduceLeDiff, Nat.reduceSub, Nat.reduceMul, Int.reduceEq, Int.reduceBEq, Int.reduceBNe, Int.reduceLT, Int.reduceLE, Nat.reduceLT, List.length_append])
      · show look ((b0, _) :: (σ.next, _) :: (σ.next, _) :: σ.m) b0 = _
        simp only [look, if_true]
        exact congrArg (fun c => some (Blk.own c)) hspl
      · simp only [htk, hpe, Bool.false_eq_true, if_false]
      · intro b hb hbn
        show look ((b0, _) :: (σ.next, _) :: (σ.next, _) :: σ.m) b = _
        have hnb : (σ.next = b) = False := by simp; omega
        have hnb2 : (b0 = b) = False := by simp; exact fun hh => hbn hh.symm
        simp only [look, hnb, hnb2, if_false]
        exact h.old b hb hbn
  · have hcond := dge (Nat.not_lt.1 hlt)
    have hj : j = l.length := by have := h.le; omega
    simp only [U2Fa, EXA, Nat.reduceEqDiff, reduceIte, reduceCtorEq, Nat.reduceAdd, Nat.reduceLeDiff, Nat.reduceSub, Nat.reduceMul, Int.reduceEq, Int.reduceBEq, Int.reduceBNe, Int.reduceLT, Int.reduceLE, Nat.reduceLT, hcond]
    subst hj
    exact hk kept junk σ _ h (by simp only [EXA, Nat.reduceEqDiff, reduceIte, reduceCtorEq, Nat.reduceAdd, Nat.reduceLeDiff, Nat.reduceSub, Nat.reduceMul, Int.reduceEq, Int.reduceBEq, Int.reduceBNe, Int.reduceLT, Int.reduceLE, Nat.reduceLT]) (by simp only [EXA, Nat.reduceEqDiff, reduceIte, reduceCtorEq, Nat.reduceAdd, Nat.reduceLeDiff, Nat.reduceSub, Nat.reduceMul, Int.reduceEq, Int.reduceBEq, Int.reduceBNe, Int.reduceLT, Int.reduceLE, Nat.reduceLT])
theorem firstFrom_some {α : Type} {p : α → Bool} {l : List α} {i : Nat} (h : l.findIdx? p = some i) : firstFrom p l 0 = (i : Int) := by
  unfold firstFrom; rw [List.drop_zero, h]; rfl
theorem firstFrom_no {α : Type} {p : α → Bool} {l : List α} (h : l.findIdx? p = none) : firstFrom p l 0 = -1 := by
  unfold firstFrom; rw [List.drop_zero, h]
/-- slices.DeleteFunc: what is kept lies at the beginning of the block. -/
theorem c_delete (l : List Mem) (f : AV) (p : Mem → Bool) (hf : f.closed = true) (hfe : f.er = f) (hlen : l.length < lim) (hp : ∀ e ∈ l, callR ipU gU f [memE e] = some (.bool (p e)))
    (σ : Store) (b0 : Nat) (hown : σ.get b0 = some (.own (LMem.cells l))) (hb0 : b0 < σ.next) :
    ∃ σ', callS ipU gU (.fn 155 [] []) [.sl b0 0 l.length 6 none, f] σ = some (.sl b0 0 (l.filter fun x => !p x).length 6 none, σ') ∧ (∃ rest, σ'.get b0 = some (.own (LMem.cells (l.filter fun x => !p x) ++ rest))) ∧ σ.next ≤ σ'.next ∧ ∀ b, b < σ.next → b ≠ b0 → σ'.get b = σ.get b := by
  have hi := r_indexM l f p hf hfe (by unfold lim at hlen; unfold big; omega) hp
  have hcall : callP ipU gU false (.fn 161 [] []) [.sl b0 0 l.length 6 none, f] σ = some (.int .i64 (firstFrom p l 0), σ) := callP_own (L := LMem) (l := l) (by simp [Store.cells, hown]) hf hfe hi rfl
  have hlen' := hlen
  unfold lim at hlen'
  suffices hh : ∃ r σ', callS ipU gU (.fn 155 [] []) [.sl b0 0 l.length 6 none, f] σ = some (r, σ') ∧ (r = .sl b0 0 (l.filter fun x => !p x).length 6 none ∧ (∃ rest, σ'.get b0 = some (.own (LMem.cells (l.filter fun x => !p x) ++ rest))) ∧ σ.next ≤ σ'.next ∧ ∀ b, b < σ.next → b ≠ b0 → σ'.get b = σ.get b) by
    obtain ⟨r, σ', h1, rfl, h2⟩ := hh
    exact ⟨σ', h1, h2⟩
  refine callS_ex (F := F155) rfl (first := []) (caps := []) ?_
  cases hq : l.findIdx? p with
  | none =>
    rw [firstFrom_no hq] at hcall
    have hall : l.filter (fun x => !p x) = l := by
      rw [List.findIdx?_eq_none_iff] at hq
      rw [List.filter_eq_self]
      intro x hx
      simp [hq x hx]
    simp only [U2Fb, EXA, Nat.reduceEqDiff, reduceIte, reduceCtorEq, Nat.reduceAdd, Nat.reduceLeDiff, Nat.reduceSub, Nat.reduceMul, Int.reduceEq, Int.reduceBEq, Int.reduceBNe, Int.reduceLT, Int.reduceLE, Nat.reduceLT, hcall]
    refine ⟨_, rfl, ?_⟩
    rw [hall]
    exact ⟨rfl, [], by rw [List.append_nil]; exact hown⟩
  | some i =>
    rw [firstFrom_some hq] at hcall
    obtain ⟨hil, hpi, hbefore⟩ := List.findIdx?_eq_some_iff_getElem.1 hq
    have hx : l[i]? = some l[i] := List.getElem?_eq_getElem hil
    have hne1 : ((i : Int) == -1) = false := by simp
    have hw := wsucc hil (by omega)
    have hk0 : (l.take (i + 1)).filter (fun x => !p x) = l.take i := by
      rw [List.take_add_one, hx, List.filter_append]
      have h1 : (l.take i).filter (fun x => !p x) = l.take i := by
        rw [List.filter_eq_self]
        intro x hx'
        obtain ⟨j, hj, rfl⟩ := List.mem_iff_getElem.1 hx'
        simp only [List.length_take] at hj
        rw [List.getElem_take]
        have := hbefore j (by omega)
        simp [this]
      rw [h1]; simp [hpi]
    have h0 : DelI l p b0 σ (i + 1) (l.take i) [l[i]] σ := by
      refine ⟨?_, by simp; omega, hil, hk0.symm, Nat.le_refl _, fun _ _ _ => rfl, hb0⟩
      have : l.take i ++ [l[i]] ++ l.drop (i + 1) = l := by
        have e : l.take i ++ [l[i]] = l.take (i + 1) := by rw [List.take_add_one, hx]; rfl
        rw [e]; exact List.take_append_drop (i + 1) l
      rw [this]
      exact hown
    have hkl : (l.take i).length = i := by simp; omega
    have hloop := fun {k Q} => del_loop (k := k) (Q := Q) hf hfe hlen hp h0
    rw [hkl] at hloop
    simp only [U2Fb, ex_loop, EXA, Nat.reduceEqDiff, reduceIte, reduceCtorEq, Nat.reduceAdd, Nat.reduceLeDiff, Nat.reduceSub, Nat.reduceMul, Int.reduceEq, Int.reduceBEq, Int.reduceBNe, Int.reduceLT, Int.reduceLE, Nat.reduceLT, hcall, hne1, hw]
    refine hloop ?_
    intro kept junk σ' fr hI h0' h5'
    have hrow := hI.row
    rw [List.drop_eq_nil_of_le (Nat.le_refl _), List.append_nil] at hrow
    have hkle : kept.length ≤ l.length := by have := hI.len; omega
    have hs1 := slice_tail (b := b0) hkle
    have hs2 := slice_head (b := b0) hkle
    have hclr : clearOf σ' 6 zMem (.sl b0 (kept.length * 6) (l.length - kept.length) 6 none) = some (.tup [], σ'.set b0 (.own (LMem.cells kept ++ rep (l.length - kept.length) zMem))) := by
      have hown' : σ'.owned b0 = some (LMem.cells (kept ++ junk)) := by
        have : σ'.get b0 = some (.own (LMem.cells (kept ++ junk))) := hrow
        simp [Store.owned, this]
      have hcl := LMem.cells_len (kept ++ junk)
      have hck := LMem.cells_len kept
      have hjl : (kept ++ junk).length = l.length := by rw [List.length_append]; exact hI.len
      have hsz : LMem.sz = 6 := rfl
      have hrl : (rep (l.length - kept.length) zMem).length = (l.length - kept.length) * 6 := by unfold rep; rw [rep_length]; rfl
      rw [hjl, hsz] at hcl
      rw [hsz] at hck
      unfold clearOf
      simp only [hown']
      rw [if_pos ⟨by trivial, by rfl, by omega, by rw [hcl]; omega, by rfl⟩]
      have : splice (LMem.cells (kept ++ junk)) (kept.length * 6) (rep (l.length - kept.length) zMem) = LMem.cells kept ++ rep (l.length - kept.length) zMem := by
        unfold splice
        rw [Lay.cells_append, ← hck, List.take_left, List.drop_eq_nil_of_le (by rw [List.length_append, hrl]; rw [Lay.cells_append, List.length_append] at hcl; omega), List.append_nil]
      rw [this]
    have hkeep : ∀ L : List Nat, keep L fr = L.map fun t => (t, fr.get t) := fun _ => rfl
    simp only [U2Fb, EXA, Nat.reduceEqDiff, reduceIte, reduceCtorEq, Nat.reduceAdd, Nat.reduceLeDiff, Nat.reduceSub, Nat.reduceMul, Int.reduceEq, Int.reduceBEq, Int.reduceBNe, Int.reduceLT, Int.reduceLE, Nat.reduceLT, h0', h5', hs1, hs2, hclr]
    have hke := hI.kept_eq
    rw [List.take_of_length_le (Nat.le_refl _)] at hke
    rw [← hke]
    refine ⟨_, rfl, rfl, ⟨rep (l.length - kept.length) zMem, rfl⟩, hI.nx, ?_⟩
    intro b hb hbn
    rw [if_neg (fun hh => hbn hh.symm)]
    exact hI.old b hb hbn
end Go.Ab
/- value.Drop: a map without some members; value.Set. -/
namespace Go.Ab
set_option maxHeartbeats 1000000
def U3Fc := @F145.eq_1
set_option maxRecDepth 100000
theorem c_cloneM0 (c : Option Nat) (σ : Store) : callM ipU gU .split (.fn 38 [] []) [.vsl [] c] σ = some (.vsl [] (some 0), σ) := by
  have hb2 : both ipU gU (.fn 38 [] []) σ = true := both_of 100 (by kernel_rfl) (by kernel_rfl)
  simp only [callM, noItems, if_true, hb2]
theorem c_cloneM1 (x : Mem) (l : List Mem) (c : Option Nat) (σ : Store) (hb : (x :: l).length < lim) :
    callM ipU gU .split (.fn 38 [] []) [.vsl ((x :: l).map memE) c] σ = some (.sl σ.next 0 (x :: l).length 6 none, σ.alloc (LMem.cells (x :: l))) := by
  unfold lim at hb
  have hro : ∀ σ', rowOf σ' 6 (.vsl ((x :: l).map memE) c) = some (LMem.cells (x :: l)) := fun σ' => LMem.rowOf σ' (x :: l) c
  have ha : appendTo σ 6 96 (.vsl [] (some 0)) (LMem.cells (x :: l)) (l.length + 1) = some (.sl σ.next 0 (l.length + 1) 6 none, σ.alloc (LMem.cells (x :: l))) :=
    app00 (by omega) (by omega) (by unfold maxBytes; simp at hb; omega) (LMem.cells_len (x :: l)) (LMem.cells_one _) (by omega)
  have hn : noItems [.vsl ((x :: l).map memE) c] = false := rfl
  simp only [callM, hn, Bool.false_eq_true, if_false]
  refine callS_of (F := F38) rfl (first := []) (caps := []) ?_
  simp only [List.map_cons] at hro
  simp only [F38, EXA, Nat.reduceEqDiff, reduceIte, reduceCtorEq, Nat.reduceAdd, Nat.reduceLeDiff, Nat.reduceSub, Nat.reduceMul, Int.reduceEq, Int.reduceBEq, Int.reduceBNe, Int.reduceLT, Int.reduceLE, Nat.reduceLT, VX, lenOf_vsl, hro, ha]
theorem c_delete0 (f : AV) (hf : f.closed = true) (hfe : f.er = f) (σ : Store) : callS ipU gU (.fn 155 [] []) [.vsl [] (some 0), f] σ = some (.vsl [] (some 0), σ) := by
  have hi := r_indexM [] f (fun _ => false) hf hfe (by simp [big]) (fun _ h => by cases h)
  have hcall : callP ipU gU false (.fn 161 [] []) [.vsl [] (some 0), f] σ = some (.int .i64 (-1), σ) := by
    rw [callP_closed rfl (by simp [closedL, AV.closed, hf])]
    simp only [erL, AV.er, hfe]
    have : callR ipU gU (.fn 161 [] []) [.vsl [] none, f] = some (.int .i64 (-1)) := hi
    rw [this]; rfl
  refine callS_of (F := F155) rfl (first := []) (caps := []) ?_
  simp only [F155_12, F155_28, F155, EXA, Nat.reduceEqDiff, reduceIte, reduceCtorEq, Nat.reduceAdd, Nat.reduceLeDiff, Nat.reduceSub, Nat.reduceMul, Int.reduceEq, Int.reduceBEq, Int.reduceBNe, Int.reduceLT, Int.reduceLE, Nat.reduceLT, hcall]
def withoutV (v : V) (p : Bs → Bool) : V := if v.kind = 5 then V.mk v.kind v.n v.s v.l (v.m.filter fun x => !p x.1) else v
theorem r_without1 (f : AV) (p : Bs → Bool) (hf : f.closed = true) (hfe : f.er = f) (k : Bs) (hp : callR ipU gU f [.str k] = some (.bool (p k))) (v : V) :
    callR ipU gU (.fn 154 [] [.vptr [f] 0]) [memE (k, v)] = some (.bool (p k)) := by
  refine callR_of (F := F154) rfl (first := []) (caps := [.vptr [f] 0]) ?_
  simp only [F154, EXA, Nat.reduceEqDiff, reduceIte, reduceCtorEq, Nat.reduceAdd, Nat.reduceLeDiff, Nat.reduceSub, Nat.reduceMul, Int.reduceEq, Int.reduceBEq, Int.reduceBNe, Int.reduceLT, Int.reduceLE, Nat.reduceLT, VX, readAt_some, hf, hfe, hp]
theorem r_without (v : V) (f : AV) (p : Bs → Bool) (hf : f.closed = true) (hfe : f.er = f) (hk : f.known = true) (hc : f.cells = [f]) (hlen : v.m.length < lim) (hp : ∀ k, callR ipU gU f [.str k] = some (.bool (p k))) :
    cR 145 [v.enc, f] = some (withoutV v p).enc := by
  refine cR_of (F := F145) rfl ?_
  obtain ⟨r, hr⟩ : ∃ r, r = (withoutV v p).enc := ⟨_, rfl⟩
  rw [← hr]
  unfold withoutV at hr
  cases h5 : v.kind == 5 with
  | false =>
    have hk5 : v.kind ≠ 5 := by simpa using h5
    rw [if_neg hk5] at hr
    simp only [U3Fc, EXA, Nat.reduceEqDiff, reduceIte, reduceCtorEq, Nat.reduceAdd, Nat.reduceLeDiff, Nat.reduceSub, Nat.reduceMul, Int.reduceEq, Int.reduceBEq, Int.reduceBNe, Int.reduceLT, Int.reduceLE, Nat.reduceLT, VX, readAt_some, h5, hk, hc, hr]
  | true =>
    have hk5 : v.kind = 5 := by simpa using h5
    rw [if_pos hk5] at hr
    have h154 : ∀ e ∈ v.m, callR ipU gU (.fn 154 [] [.vptr [f] 0]) [memE e] = some (.bool (p e.1)) := fun e _ => r_without1 f p hf hfe e.1 (hp e.1) e.2
    have hfc : (AV.fn 154 [] [.vptr [f] 0]).closed = true := by simp [AV.closed, closedL, hf]
    have hfee : (AV.fn 154 [] [.vptr [f] 0]).er = .fn 154 [] [.vptr [f] 0] := by simp only [AV.er, erL, hfe]
    obtain ⟨σ0, hσ⟩ : ∃ σ0 : Store, σ0 = ⟨2, [(1, .own [.int .i64 0, .int .i64 0, .str [], .nils, .nils]), (0, .own [.int .i64 v.kind, .int .i64 v.n, .str v.s, .vsl (v.l.map V.enc) none, .vsl (v.m.map memE) none])]⟩ := ⟨_, rfl⟩
    cases hm : v.m with
    | nil =>
      rw [hm] at hσ hr
      have c1 := c_cloneM0 none σ0
      have c2 := c_delete0 _ hfc hfee σ0
      rw [hσ] at c1 c2
      simp only [List.map_nil] at c1 c2
      simp only [U3Fc, EXA, Nat.reduceEqDiff, reduceIte, reduceCtorEq, Nat.reduceAdd, Nat.reduceLeDiff, Nat.reduceSub, Nat.reduceMul, Int.reduceEq, Int.reduceBEq, Int.reduceBNe, Int.reduceLT, Int.reduceLE, Nat.reduceLT, VX, readAt_some, h5, hk, hc, hm, List.map_nil, c1, c2]
      rw [hr, hk5]; rfl
    | cons x m =>
      have hlen' := hlen
      rw [hm] at hlen'
      have c1 := c_cloneM1 x m none σ0 hlen'
      rw [← hm] at c1
      have hnx : σ0.next = 2 := by rw [hσ]
      obtain ⟨σ', d1, ⟨rest, d2⟩, d3, d4⟩ := c_delete v.m _ (fun e => p e.1) hfc hfee hlen h154 (σ0.alloc (LMem.cells v.m)) σ0.next (get_alloc_next (σ := σ0)) (by simp [next_alloc])
      have z0 : look σ'.m 0 = look σ0.m 0 := (d4 0 (by simp [next_alloc]) (by omega)).trans (get_alloc (σ := σ0) (by omega))
      have z1 : look σ'.m 1 = look σ0.m 1 := (d4 1 (by rw [next_alloc]; omega) (by omega)).trans (get_alloc (σ := σ0) (by omega))
      rw [hnx] at c1 d1 d2
      simp only [hσ, look, if_true, Nat.succ_ne_self, if_false] at z0 z1
      clear d3 d4
      generalize hσa : σ0.alloc (LMem.cells v.m) = σa at c1 d1
      rw [hσ] at c1
      simp only [U3Fc, EXA, Nat.reduceEqDiff, reduceIte, reduceCtorEq, Nat.reduceAdd, Nat.reduceLeDiff, Nat.reduceSub, Nat.reduceMul, Int.reduceEq, Int.reduceBEq, Int.reduceBNe, Int.reduceLT, Int.reduceLE, Nat.reduceLT, VX, readAt_some, h5, hk, hc, c1, d1, z0, z1]
      have hcl : (AV.vsl (v.l.map V.enc) none).closed = true := by simp only [AV.closed, closedL_mapV]
      have hce : (AV.vsl (v.l.map V.enc) none).er = .vsl (v.l.map V.enc) none := by simp only [AV.er, erL_mapV]
      have hb := fun (σ1 : Store) (h2 : look σ1.m 2 = some (.own (LMem.cells (v.m.filter fun x => !p x.1) ++ rest))) =>
        RbL.agg (σ := σ1) (RbL.clo (x := .int .i64 v.kind) rfl (RbL.clo (x := .int .i64 v.n) rfl (RbL.clo (x := .str v.s) rfl (RbL.clo (x := .vsl (v.l.map V.enc) none) hcl (RbL.rp (L := LMem) (.inr ⟨2, rest, rfl, h2⟩) (RbL.nil σ1 23))))))
      simp only [er_int, er_str, hce] at hb
      rw [hr, V.enc_eq]
      exact hb _ (by simp only [look, Nat.reduceEqDiff, if_false]; exact d2)
theorem r_Drop1 (keys : List Bs) (hk : keys.length < big) (k : Bs) : callR ipU gU (.fn 144 [] [.vptr [.vsl (keys.map .str) none] 0]) [.str k] = some (.bool (hasS keys k)) := by
  have h := r_containsS keys k hk
  refine callR_of (F := F144) rfl (first := []) (caps := [.vptr [.vsl (keys.map .str) none] 0]) ?_
  simp only [F144, EXA, Nat.reduceEqDiff, reduceIte, reduceCtorEq, Nat.reduceAdd, Nat.reduceLeDiff, Nat.reduceSub, Nat.reduceMul, Int.reduceEq, Int.reduceBEq, Int.reduceBNe, Int.reduceLT, Int.reduceLE, Nat.reduceLT, VX, readAt_some, h]
def dropV (v : V) (keys : List Bs) : V := withoutV v (hasS keys)
theorem r_Drop (v : V) (keys : List Bs) (hlen : v.m.length < lim) (hk : keys.length < big) : cR 131 [v.enc, .vsl (keys.map .str) none] = some (dropV v keys).enc := by
  have hc : (AV.fn 144 [] [.vptr [.vsl (keys.map .str) none] 0]).closed = true := by simp only [AV.closed, closedL, closedL_strs, Bool.and_self]
  have he : (AV.fn 144 [] [.vptr [.vsl (keys.map .str) none] 0]).er = .fn 144 [] [.vptr [.vsl (keys.map .str) none] 0] := by simp only [AV.er, erL, erL_strs]
  have h := r_without v _ (hasS keys) hc he rfl rfl hlen (r_Drop1 keys hk)
  refine cR_of (F := F131) rfl ?_
  simp only [F131, EXA, Nat.reduceEqDiff, reduceIte, reduceCtorEq, Nat.reduceAdd, Nat.reduceLeDiff, Nat.reduceSub, Nat.reduceMul, Int.reduceEq, Int.reduceBEq, Int.reduceBNe, Int.reduceLT, Int.reduceLE, Nat.reduceLT, VX, readAt_some, h]
  unfold dropV
  simp
end Go.Ab
/- The document's Map: by keys, of one key the last one. -/
namespace Go.Ab
set_option maxHeartbeats 1000000
set_option maxRecDepth 100000
def posM (acc : List Mem) (k : Bs) : Nat := (acc.takeWhile fun x => bytesLess x.1 k).length
def hitM (acc : List Mem) (k : Bs) : Bool := match acc[posM acc k]? with
  | some y => y.1 == k
  | none => false
def insM (acc : List Mem) (m : Mem) : List Mem := if hitM acc m.1 then acc.set (posM acc m.1) m else acc.take (posM acc m.1) ++ m :: acc.drop (posM acc m.1)
def refMapL (l : List Mem) : List Mem := l.foldl insM []
/-- A growing list of members: none yet, or a block of its own. -/
def GM (σ : Store) (v : AV) (l : List Mem) : Prop := (v = .nils ∧ l = []) ∨ ∃ b, v = .sl b 0 l.length 6 none ∧ look σ.m b = some (.own (LMem.cells l)) ∧ b < σ.next ∧ 0 < b
theorem GM.lenL {σ : Store} {v : AV} {l : List Mem} (h : GM σ v l) : lenL v = some (.int .i64 l.length) := by
  rcases h with ⟨rfl, rfl⟩ | ⟨b, rfl, _⟩ <;> rfl
/-- What a block holds while its members are shifted. -/
def shC (acc : List Mem) (j : Nat) (junk : List AV) : List AV := LMem.cells (acc.take j) ++ junk ++ LMem.cells (acc.drop j)
theorem take_cells (acc : List Mem) {j : Nat} (h : j ≤ acc.length) : (LMem.cells (acc.take j)).length = j * 6 := by
  rw [LMem.cells_len, List.length_take, Nat.min_eq_left h]; rfl
end Go.Ab
/- The document's Map, whole. -/
namespace Go.Ab
set_option maxHeartbeats 1000000
set_option maxRecDepth 100000
theorem GM.frame {σ σ' : Store} {v : AV} {l : List Mem} (h : GM σ v l) (hn : σ.next ≤ σ'.next) (hg : ∀ b, v = .sl b 0 l.length 6 none → look σ'.m b = look σ.m b) : GM σ' v l := by
  rcases h with h | ⟨b, rfl, h1, h2, h3⟩
  · exact .inl h
  · exact .inr ⟨b, rfl, by rw [hg b rfl]; exact h1, by omega, h3⟩
/-- A nought behind a list. -/
theorem GM.app {σ : Store} {v : AV} {l : List Mem} (h : GM σ v l) (hl : l.length < lim) (hn : 0 < σ.next) : ∃ σ', appendTo σ 6 96 v zMem 1 = some (.sl σ.next 0 (l.length + 1) 6 none, σ') ∧
    look σ'.m σ.next = some (.own (shC l l.length zMem)) ∧ σ'.next = σ.next + 1 ∧ look σ'.m 0 = look σ.m 0 := by
  unfold lim at hl
  have hc : shC l l.length zMem = LMem.cells l ++ zMem := by
    unfold shC
    rw [List.take_of_length_le (Nat.le_refl _), List.drop_of_length_le (Nat.le_refl _)]
    simp [Lay.cells]
  rcases h with ⟨rfl, rfl⟩ | ⟨b, rfl, h1, h2, h3⟩
  · obtain ⟨σ', a1, a2, a3, a4⟩ := append_own (σ := σ) (sz := 6) (bytes := 96) (n := 0) (k := 1) (ob := none) (cells := []) (new := zMem) ⟨rfl, rfl⟩ (by omega) (by omega) (by unfold maxBytes; omega) rfl rfl (by omega)
    refine ⟨σ', a1, ?_, a3, a4 0 hn (by simp)⟩
    rw [hc]
    exact a2.1
  · cases l with
    | nil =>
      refine ⟨(σ.set b .dead).alloc ([] ++ zMem), ?_, ?_, rfl, ?_⟩
      · have ho : σ.owned b = some [] := by
          have : σ.get b = some (.own (LMem.cells [])) := h1
          simp [Store.owned, this, Lay.cells]
        unfold appendTo
        simp only [lenOf, ho, List.length_nil]
        simp [maxBytes, AV.one]
      · rw [hc]; exact get_alloc_next (σ := σ.set b .dead)
      · have := get_alloc (σ := σ.set b .dead) (cs := [] ++ zMem) (b := 0) (by rw [next_set]; omega)
        exact this.trans (get_set (by omega))
    | cons x l =>
      obtain ⟨σ', a1, a2, a3, a4⟩ := append_own (σ := σ) (sz := 6) (bytes := 96) (n := (x :: l).length) (k := 1) (ob := some b) (cells := LMem.cells (x :: l)) (new := zMem) ⟨h1, LMem.cells_len _, h2, by simp⟩ (by omega) (by omega) (by unfold maxBytes; omega) rfl rfl (by omega)
      refine ⟨σ', a1, ?_, a3, a4 0 hn (by simp; omega)⟩
      rw [hc]
      exact a2.1
end Go.Ab
/- RulesAllows: true. -/
namespace Go.Ab
set_option maxHeartbeats 1000000
set_option maxRecDepth 100000
/-- A slice that may be read as a list. -/
def Rd {α : Type} (L : Lay α) (σ : Store) (v : AV) (l : List α) : Prop :=
  (v = .nils ∧ l = []) ∨ (∃ b, v = .sl b 0 l.length L.sz none ∧ σ.cells b = some (L.cells l) ∧ b < σ.next) ∨ v = .vsl (l.map L.f) (some l.length)
section
variable {α : Type} {L : Lay α} {σ : Store} {v : AV} {l : List α}
theorem Gr.rd (h : Gr L σ v l) : Rd L σ v l := by
  rcases h with h | ⟨b, rfl, h⟩ | h
  · exact .inl h
  · exact .inr (.inl ⟨b, rfl, by have := h.1; simp [Store.cells, this], h.lt⟩)
  · exact .inr (.inr h)
theorem freeze_cells (σ : Store) (b : Nat) : σ.freeze.cells b = σ.cells b := by
  have e : σ.freeze.get b = (σ.get b).map fun x => match x with | .own cs => .frz cs | x => x := by
    unfold Store.freeze Store.get
    simp only
    induction σ.m with
    | nil => rfl
    | cons p l ih =>
      obtain ⟨i, x⟩ := p
      simp only [List.map_cons, look]
      by_cases h : i = b
      · rw [if_pos h, if_pos h]; rfl
      · rw [if_neg h, if_neg h]; exact ih
  unfold Store.cells
  rw [e]
  cases σ.get b with
  | none => rfl
  | some x => cases x <;> rfl
theorem Rd.freeze (h : Rd L σ v l) : Rd L σ.freeze v l := by
  rcases h with h | ⟨b, rfl, h, h2⟩ | h
  · exact .inl h
  · exact .inr (.inl ⟨b, rfl, by rw [freeze_cells]; exact h, h2⟩)
  · exact .inr (.inr h)
theorem Rd.newset (h : Rd L σ v l) (cs cs' : List AV) : Rd L { next := σ.next + 1, m := (σ.next, .own cs) :: (σ.next, .own cs') :: σ.m } v l := by
  rcases h with h | ⟨b, rfl, h, h2⟩ | h
  · exact .inl h
  · refine .inr (.inl ⟨b, rfl, ?_, by simp; omega⟩)
    have : Store.get { next := σ.next + 1, m := (σ.next, .own cs) :: (σ.next, .own cs') :: σ.m } b = σ.get b := by
      show look ((σ.next, Blk.own cs) :: (σ.next, .own cs') :: σ.m) b = look σ.m b
      simp only [look]; rw [if_neg (by omega), if_neg (by omega)]
    unfold Store.cells at h ⊢
    rw [this]; exact h
  · exact .inr (.inr h)
theorem Rd.rb (h : Rd L σ v l) : ∃ v', Go.Ab.rb σ rbDepth v = some v' ∧ v'.er = .vsl (l.map L.f) none := by
  rcases h with ⟨rfl, rfl⟩ | ⟨b, rfl, h, _⟩ | rfl
  · exact ⟨_, rfl, by simp only [AV.er]; rfl⟩
  · refine ⟨_, rb_sl (d := 23) h (L.cells_len l) L.pos (L.cells_closed l) (one_notAgg (L.cells_one l)), ?_⟩
    rw [L.chunks]; simp only [AV.er, L.erMap]
  · refine ⟨_, rb_closed' (by simp only [AV.closed]; exact closedL_map fun a _ => L.closed a), ?_⟩
    simp only [AV.er, L.erMap]
/-- No block is both's. -/
def Dis (v w : AV) : Prop := ∀ b o len sz c o' len' sz' c', v = .sl b o len sz c → w ≠ .sl b o' len' sz' c'
theorem Dis.symm {v w : AV} (h : Dis v w) : Dis w v := fun _ _ _ _ _ _ _ _ _ h1 h2 => h _ _ _ _ _ _ _ _ _ h2 h1
end
/-- A text of such a slice, by its number. -/
theorem Gr.idxS {σ : Store} {v : AV} {l : List Bs} (h : Gr LStr σ v l) {j : Nat} {s : Bs} (hj : l[j]? = some s) : ∃ p, idxOf 1 none v (.int .i64 (j : Int)) = some p ∧ readPtr σ p none = some (.str s) := by
  have hlt := lt_of_get hj
  have hc : ∀ m : List Bs, LStr.cells m = m.map AV.str := by
    intro m; simp only [Lay.cells, LStr, AV.cells]; induction m with
    | nil => rfl
    | cons a m ih => simp [ih]
  rcases h with ⟨rfl, rfl⟩ | ⟨b, rfl, h⟩ | rfl
  · simp at hj
  · refine ⟨.ptr b j, ?_, ?_⟩
    · simp [idxOf, LStr, hlt]
    · have := h.1
      simp only [readPtr, Store.cells, this, readAt, hc, List.getElem?_map, hj, Option.map_some]
  · refine ⟨.vptr [.str s] 0, idx_map (f := AV.str) hj rfl, rfl⟩
end Go.Ab
/- Lists of texts, and small makers, of the program and of the document. -/
namespace Go.Ab
set_option maxHeartbeats 1000000
def U6Fc := J @F146_3.eq_1 (J @F146_15.eq_1 (J @F146_16.eq_1 (@F146.eq_1)))
set_option maxRecDepth 100000
def tV3 (s : Bs) : V := V.mk 3 0 s [] []
def iV2 (n : Int) : V := V.mk 2 n [] [] []
def lV (l : List Bs) : V := V.mk 4 0 [] (l.map tV3) []
/-- A list that grows in a value of one's own. -/
structure LSt (σ : Store) (v : AV) (acc : List V) : Prop where
  one : look σ.m 1 = some (.own [.int .i64 4, .int .i64 0, .str [], v, .nils])
  nil : look σ.m 0 = some (.own [.int .i64 0, .int .i64 0, .str [], .nils, .nils])
  gr : Gr LV σ v acc
  nx : 1 < σ.next
  far : ∀ b len sz c, b < 2 → v ≠ .sl b 0 len sz c
theorem LSt.push {σ : Store} {v : AV} {acc : List V} (h : LSt σ v acc) (hl : acc.length < lim) (x : V) :
    appendTo σ 5 80 v x.enc.cells 1 = some (.sl σ.next 0 (acc ++ [x]).length 5 none, grNext LV σ v acc [x]) ∧ look (grNext LV σ v acc [x]).m 1 = some (.own [.int .i64 4, .int .i64 0, .str [], v, .nils]) ∧
    LSt { next := (grNext LV σ v acc [x]).next, m := (1, .own [.int .i64 4, .int .i64 0, .str [], .sl σ.next 0 (acc ++ [x]).length 5 none, .nils]) :: (grNext LV σ v acc [x]).m } (.sl σ.next 0 (acc ++ [x]).length 5 none) (acc ++ [x]) := by
  unfold lim at hl
  have hnx := h.nx
  have hn := grNext_next LV σ v acc [x]
  have g1 : look (grNext LV σ v acc [x]).m 1 = look σ.m 1 := grNext_get (m := [x]) h.gr hnx (fun len sz c => h.far 1 len sz c (by omega))
  have g0 : look (grNext LV σ v acc [x]).m 0 = look σ.m 0 := grNext_get (m := [x]) h.gr (by omega) (fun len sz c => h.far 0 len sz c (by omega))
  have hg := h.gr.next (m := [x]) (by simp)
  refine ⟨h.gr.push (a := x) (bytes := 80) (by omega) (by unfold maxBytes; omega), by rw [g1]; exact h.one, by simp [look], ?_, ?_, by show 1 < (grNext LV σ v acc [x]).next; omega, ?_⟩
  · show look ((1, _) :: _) 0 = _
    simp only [look]
    rw [if_neg (by omega), g0]; exact h.nil
  · exact Gr.own (L := LV) (hg.frame (by show look ((1, _) :: _) σ.next = look _ σ.next; simp only [look]; rw [if_neg (by omega)]) (Nat.le_refl _))
  · intro b len sz c hb hv
    simp only [AV.sl.injEq] at hv
    omega
theorem LSt.fin {σ : Store} {v : AV} {acc : List V} (h : LSt σ v acc) : rbE { next := σ.next, m := (0, .own [.int .i64 4, .int .i64 0, .str [], v, .nils]) :: σ.m } (.agg [.int .i64 4, .int .i64 0, .str [], v, .nils]) = some (V.mk 4 0 [] acc []).enc := by
  have hg : Gr LV { next := σ.next, m := (0, .own [.int .i64 4, .int .i64 0, .str [], v, .nils]) :: σ.m } v acc := by
    rcases h.gr with g | ⟨b, rfl, g⟩ | g
    · exact .inl g
    · refine .inr (.inl ⟨b, rfl, g.frame ?_ (Nat.le_refl _)⟩)
      have hb : b ≠ 0 := by rintro rfl; exact h.far 0 _ _ _ (by omega) rfl
      show look ((0, _) :: _) b = look _ b
      simp only [look]; rw [if_neg (fun hh => hb hh.symm)]
    · exact .inr (.inr g)
  have := RbL.agg (RbL.clo (x := .int .i64 4) rfl (RbL.clo (x := .int .i64 0) rfl (RbL.clo (x := .str []) rfl (RbL.gr hg (RbL.clo (x := .nils) rfl (RbL.nil _ 23))))))
  simp only [er_int, er_str, er_nils] at this
  rw [V.enc_eq]
  exact this
theorem V.enc_lo (x : V) : lenOf (.vsl [x.enc] (some 1)) = some 1 := rfl
theorem V.enc_ro (x : V) (σ : Store) : rowOf σ 5 (.vsl [x.enc] (some 1)) = some x.enc.cells := by
  have := LV.rowOf σ [x] (some 1)
  simpa [Lay.cells, LV] using this
theorem r_texts (l : List Bs) (hb : l.length < lim) : cR 146 [.vsl (l.map .str) none] = some (lV l).enc := by
  have hb' := hb
  unfold lim at hb'
  refine cR_of (F := F146) rfl ?_
  obtain ⟨r, hr⟩ : ∃ r, r = (lV l).enc := ⟨_, rfl⟩
  rw [← hr]
  simp only [F146_3, F146_15, F146, ex_loop, EXA, Nat.reduceEqDiff, reduceIte, reduceCtorEq, Nat.reduceAdd, Nat.reduceLeDiff, Nat.reduceSub, Nat.reduceMul, Int.reduceEq, Int.reduceBEq, Int.reduceBNe, Int.reduceLT, Int.reduceLE, Nat.reduceLT, VX, readAt_some]
  refine ex_whileI (S := Nat × AV) (fun s => [(2, .ptr 0 0), (3, .ptr 1 0), (7, .vsl (l.map .str) none), (8, .int .i64 l.length), (9, .int .i64 (s.1 : Int))]) (fun s => l.length - s.1)
    (fun s σ => LSt σ s.2 ((l.take s.1).map tV3) ∧ s.1 ≤ l.length) ?_ (0, .nils) _ ⟨⟨rfl, rfl, Gr.nil LV _, by simp, fun _ _ _ _ _ h => by cases h⟩, by omega⟩
  rintro bd ⟨i, v⟩ σ ⟨h, hi⟩ ih
  simp only at h hi ih ⊢
  by_cases hlt : i < l.length
  · obtain ⟨x, hx⟩ := get_lt hlt
    have hcond := dlt hlt
    have hw := wsucc hlt (by omega)
    have hidx := idx_str (c := none) hx
    have h18 : cR 18 [.str x] = some (tV3 x).enc := r_Text x
    obtain ⟨p1, p2, p3⟩ := h.push (by simp; omega) (tV3 x)
    have h1 := h.one
    have he : (l.take i).map tV3 ++ [tV3 x] = (l.take (i + 1)).map tV3 := by rw [List.take_add_one, hx]; simp
    have hlo := V.enc_lo (tV3 x)
    have hro := V.enc_ro (tV3 x)
    generalize hX : (tV3 x).enc = X at h18 p1 hlo hro
    have hXk : X.known = true := by rw [← hX]; exact V.enc_known _
    have hXc : X.cells.length = 5 := by rw [← hX, V.enc_cells]; rfl
    have hall : X.cells.all AV.notAgg = true := by rw [← hX, V.enc_cells]; rfl
    have hone : X.cells.all AV.one = true := by rw [← hX]; exact LV.one (tV3 x)
    have htk : AV.agg (X.cells.take 5) = X := by rw [← hX, V.enc_cells, V.enc_eq]; rfl
    simp only [U6Fc, EXA, Nat.reduceEqDiff, reduceIte, reduceCtorEq, Nat.reduceAdd, Nat.reduceLeDiff, Nat.reduceSub, Nat.reduceMul, Int.reduceEq, Int.reduceBEq, Int.reduceBNe, Int.reduceLT, Int.reduceLE, Nat.reduceLT, VX, readAt_some, hcond, hidx, h18, h1, hXc, hXk, hall, htk, hlo, hro, p1, p2, hw]
    exact ih (i + 1, _) _ _ (by simp; omega) ⟨by rw [← he]; exact p3, hlt⟩ (by simp only [EXA, Nat.reduceEqDiff, reduceIte, reduceCtorEq, Nat.reduceAdd, Nat.reduceLeDiff, Nat.reduceSub, Nat.reduceMul, Int.reduceEq, Int.reduceBEq, Int.reduceBNe, Int.reduceLT, Int.reduceLE, Nat.reduceLT])
  · have hcond := dge (Nat.not_lt.1 hlt)
    have h1 := h.one
    have h0 := h.nil
    have hfin := h.fin
    have : i = l.length := by omega
    subst this
    rw [List.take_of_length_le (Nat.le_refl _)] at hfin
    have hp := h.gr.plain
    simp only [U6Fc, EXA, Nat.reduceEqDiff, reduceIte, reduceCtorEq, Nat.reduceAdd, Nat.reduceLeDiff, Nat.reduceSub, Nat.reduceMul, Int.reduceEq, Int.reduceBEq, Int.reduceBNe, Int.reduceLT, Int.reduceLE, Nat.reduceLT, VX, readAt_some, hcond, h1, h0, hp.1, hp.2.1, hp.2.2.1]
    rw [hfin, hr]; rfl
end Go.Ab
/- The document's Keep; how deep what comes behind events is. -/
namespace Go.Ab
set_option maxHeartbeats 1000000
def U7Fa := J @F125_3.eq_1 (J @F125_15.eq_1 (J @F125_16.eq_1 (@F125.eq_1)))
set_option maxRecDepth 100000
def keepV (v : V) (keys : List Bs) (b : Bool) : V := if v.kind = 5 then V.mk 5 0 [] [] (v.m.filter fun x => hasS keys x.1 == b) else v
structure KSt (σ : Store) (v : AV) (acc : List Mem) : Prop where
  nil : look σ.m 0 = some (.own [.int .i64 0, .int .i64 0, .str [], .nils, .nils])
  gr : Gr LMem σ v acc
  nx : 0 < σ.next
  far : ∀ len sz c, v ≠ .sl 0 0 len sz c
theorem KSt.push {σ : Store} {v : AV} {acc : List Mem} (h : KSt σ v acc) (hl : acc.length < lim) (x : Mem) :
    appendTo σ 6 96 v (memE x).cells 1 = some (.sl σ.next 0 (acc ++ [x]).length 6 none, grNext LMem σ v acc [x]) ∧ KSt (grNext LMem σ v acc [x]) (.sl σ.next 0 (acc ++ [x]).length 6 none) (acc ++ [x]) := by
  unfold lim at hl
  have hnx := h.nx
  have hn := grNext_next LMem σ v acc [x]
  have g0 : look (grNext LMem σ v acc [x]).m 0 = look σ.m 0 := grNext_get (m := [x]) h.gr (by omega) h.far
  refine ⟨h.gr.push (a := x) (bytes := 96) (by omega) (by unfold maxBytes; omega), by rw [g0]; exact h.nil, Gr.own (h.gr.next (m := [x]) (by simp)), by omega, ?_⟩
  intro len sz c hv
  simp only [AV.sl.injEq] at hv
  omega
theorem memE_lo (x : Mem) : lenOf (.vsl [memE x] (some 1)) = some 1 := rfl
theorem memE_ro (x : Mem) (σ : Store) : rowOf σ 6 (.vsl [memE x] (some 1)) = some (memE x).cells := by
  have := LMem.rowOf σ [x] (some 1)
  simpa [Lay.cells, LMem] using this
/-- The greatest depth, and 1 more. -/
def topD (l : List Ev) : Int := l.foldl (fun a e => if e.depth > a then e.depth else a) 0
def deeper (l : List Ev) : Int := if topD l ≥ 9007199254740991 then 9007199254740991 else IntKind.wrap .i64 (topD l + 1)
theorem topD_step (l : List Ev) (j : Nat) (e : Ev) (h : l[j]? = some e) : topD (l.take (j + 1)) = if e.depth > topD (l.take j) then e.depth else topD (l.take j) := by
  unfold topD
  rw [List.take_add_one, h, List.foldl_append]
  rfl
theorem r_deeper (l : List Ev) (hb : l.length < big) : cR 125 [.vsl (l.map evE) none] = some (.int .i64 (deeper l)) := by
  unfold big at hb
  refine cR_of (F := F125) rfl ?_
  obtain ⟨r, hr⟩ : ∃ r, r = AV.int .i64 (deeper l) := ⟨_, rfl⟩
  rw [← hr]
  simp only [F125_3, F125_15, F125, ex_loop, EXA, Nat.reduceEqDiff, reduceIte, reduceCtorEq, Nat.reduceAdd, Nat.reduceLeDiff, Nat.reduceSub, Nat.reduceMul, Int.reduceEq, Int.reduceBEq, Int.reduceBNe, Int.reduceLT, Int.reduceLE, Nat.reduceLT, VX]
  refine ex_whileI (S := Nat) (fun j => [(3, .int .i64 (topD (l.take j))), (6, .vsl (l.map evE) none), (7, .int .i64 l.length), (8, .int .i64 (j : Int))]) (fun j => l.length - j) (fun j σ => j ≤ l.length) ?_ 0 _ (by omega)
  intro b j σ hj ih
  by_cases hlt : j < l.length
  · obtain ⟨e, he⟩ := get_lt hlt
    have hcond := dlt hlt
    have hw := wsucc hlt (by omega)
    have hidx := idx_ev (c := none) he
    have ht := topD_step l j e he
    simp only [U7Fa, EXA, Nat.reduceEqDiff, reduceIte, reduceCtorEq, Nat.reduceAdd, Nat.reduceLeDiff, Nat.reduceSub, Nat.reduceMul, Int.reduceEq, Int.reduceBEq, Int.reduceBNe, Int.reduceLT, Int.reduceLE, Nat.reduceLT, VX, readAt_some, hcond, hidx, hw]
    exact ih (j + 1) _ _ (by omega) hlt (by simp only [EXA, Nat.reduceEqDiff, reduceIte, reduceCtorEq, Nat.reduceAdd, Nat.reduceLeDiff, Nat.reduceSub, Nat.reduceMul, Int.reduceEq, Int.reduceBEq, Int.reduceBNe, Int.reduceLT, Int.reduceLE, Nat.reduceLT, ht])
  · have hcond := dge (Nat.not_lt.1 hlt)
    have : j = l.length := by omega
    subst this
    rw [List.take_of_length_le (Nat.le_refl _)]
    unfold deeper at hr
    by_cases hg : topD l ≥ 9007199254740991
    · have hg' : decide (topD l ≥ 9007199254740991) = true := by simp; omega
      rw [if_pos hg] at hr
      simp only [U7Fa, EXA, Nat.reduceEqDiff, reduceIte, reduceCtorEq, Nat.reduceAdd, Nat.reduceLeDiff, Nat.reduceSub, Nat.reduceMul, Int.reduceEq, Int.reduceBEq, Int.reduceBNe, Int.reduceLT, Int.reduceLE, Nat.reduceLT, VX, hcond, hg', hr]
    · have hg' : decide (topD l ≥ 9007199254740991) = false := by simp; omega
      rw [if_neg hg] at hr
      simp only [U7Fa, EXA, Nat.reduceEqDiff, reduceIte, reduceCtorEq, Nat.reduceAdd, Nat.reduceLeDiff, Nat.reduceSub, Nat.reduceMul, Int.reduceEq, Int.reduceBEq, Int.reduceBNe, Int.reduceLT, Int.reduceLE, Nat.reduceLT, VX, hcond, hg', hr]
end Go.Ab
/- What a template holds: texts, tables, who stands for a joining. -/
namespace Go.Ab
set_option maxHeartbeats 1000000
def W5Fa := @F134.eq_1
def W5Fb := @F135.eq_1
def W5Fc := @F136.eq_1
def W5Fd := @F138.eq_1
set_option maxRecDepth 100000
def isV (v : V) (k x : Bs) : Bool := (textAt v k).2 && (textAt v k).1 == x
theorem r_is (v : V) (k x : Bs) (hb : v.sz < big) : cR 134 [v.enc, .str k, .str x] = some (.bool (isV v k x)) := by
  have h := r_textAt v k hb
  unfold isV
  generalize textAt v k = t at h ⊢
  obtain ⟨s, b⟩ := t
  refine cR_of (F := F134) rfl ?_
  cases b with
  | false => simp only [W5Fa, EXA, Nat.reduceEqDiff, reduceIte, reduceCtorEq, Nat.reduceAdd, Nat.reduceLeDiff, Nat.reduceSub, Nat.reduceMul, Int.reduceEq, Int.reduceBEq, Int.reduceBNe, Int.reduceLT, Int.reduceLE, Nat.reduceLT, VX, readAt_some, V.eta, h]; rfl
  | true => simp only [W5Fa, EXA, Nat.reduceEqDiff, reduceIte, reduceCtorEq, Nat.reduceAdd, Nat.reduceLeDiff, Nat.reduceSub, Nat.reduceMul, Int.reduceEq, Int.reduceBEq, Int.reduceBNe, Int.reduceLT, Int.reduceLE, Nat.reduceLT, VX, readAt_some, V.eta, h, Bool.true_and]
def tabV (v : V) (k : Bs) : V × Bool := ((getV v k).1, (getV v k).2 && (getV v k).1.kind == 5)
theorem r_tabAt (v : V) (k : Bs) (hb : v.sz < big) : cR 135 [v.enc, .str k] = some (.tup [(tabV v k).1.enc, .bool (tabV v k).2]) := by
  have h := r_get v k hb
  unfold tabV
  generalize getV v k = t at h ⊢
  obtain ⟨x, b⟩ := t
  refine cR_of (F := F135) rfl ?_
  cases b with
  | false => simp only [W5Fb, EXF, EXA, Nat.reduceEqDiff, reduceIte, reduceCtorEq, Nat.reduceAdd, Nat.reduceLeDiff, Nat.reduceSub, Nat.reduceMul, Int.reduceEq, Int.reduceBEq, Int.reduceBNe, Int.reduceLT, Int.reduceLE, Nat.reduceLT, VX, readAt_some, V.eta, h]; rfl
  | true => simp only [W5Fb, EXF, EXA, Nat.reduceEqDiff, reduceIte, reduceCtorEq, Nat.reduceAdd, Nat.reduceLeDiff, Nat.reduceSub, Nat.reduceMul, Int.reduceEq, Int.reduceBEq, Int.reduceBNe, Int.reduceLT, Int.reduceLE, Nat.reduceLT, VX, readAt_some, V.eta, h, Bool.true_and]
def intV (g : V × Bool) : Int × Bool := if g.2 && g.1.kind == 2 then (g.1.n, true) else (0, false)
theorem r_intAt (v : V) (k : Bs) (hb : v.sz < big) : cR 138 [v.enc, .str k] = some (.tup [.int .i64 (intV (getV v k)).1, .bool (intV (getV v k)).2]) := by
  have h := r_get v k hb
  generalize getV v k = t at h ⊢
  obtain ⟨x, b⟩ := t
  refine cR_of (F := F138) rfl ?_
  have hb2 : (x.kind != 2) = !(x.kind == 2) := rfl
  cases b with
  | false => simp only [W5Fd, EXA, Nat.reduceEqDiff, reduceIte, reduceCtorEq, Nat.reduceAdd, Nat.reduceLeDiff, Nat.reduceSub, Nat.reduceMul, Int.reduceEq, Int.reduceBEq, Int.reduceBNe, Int.reduceLT, Int.reduceLE, Nat.reduceLT, VX, readAt_some, V.eta, h]; rfl
  | true =>
    cases h2 : x.kind == 2 with
    | false => rw [h2] at hb2; simp only [W5Fd, EXA, Nat.reduceEqDiff, reduceIte, reduceCtorEq, Nat.reduceAdd, Nat.reduceLeDiff, Nat.reduceSub, Nat.reduceMul, Int.reduceEq, Int.reduceBEq, Int.reduceBNe, Int.reduceLT, Int.reduceLE, Nat.reduceLT, VX, readAt_some, V.eta, h, hb2]; simp [intV, h2]
    | true => rw [h2] at hb2; simp only [W5Fd, EXA, Nat.reduceEqDiff, reduceIte, reduceCtorEq, Nat.reduceAdd, Nat.reduceLeDiff, Nat.reduceSub, Nat.reduceMul, Int.reduceEq, Int.reduceBEq, Int.reduceBNe, Int.reduceLT, Int.reduceLE, Nat.reduceLT, VX, readAt_some, V.eta, h, hb2]; simp [intV, h2]
abbrev kJoin4 : Bs := [106, 111, 105, 110]
def byP (v : V) (to server : Bs) : Bs × Bool := if (getV v kAuthd).2 then ((textAt v kAuthd).1, ((partsB (textAt v kAuthd).1 64).2.2 && (partsB (textAt v kAuthd).1 64).2.1 == server) && to == kJoin4) else ([], true)
theorem r_by (v : V) (to server : Bs) (hb : v.sz < big) : cR 136 [v.enc, .str to, .str server] = some (.tup [.str (byP v to server).1, .bool (byP v to server).2]) := by
  have h1 := r_get v kAuthd hb
  have h2 := r_textAt v kAuthd hb
  have hl : (textAt v kAuthd).1.length < big := by
    have := textAt_len v kAuthd
    omega
  have h3 := r_User _ hl
  unfold byP
  generalize getV v kAuthd = g at h1 ⊢
  generalize textAt v kAuthd = t at h2 h3 ⊢
  generalize partsB t.1 64 = u at h3 ⊢
  obtain ⟨x, b⟩ := g
  obtain ⟨s, c⟩ := t
  obtain ⟨u1, u2, u3⟩ := u
  simp only at h1 h2 h3 ⊢
  refine cR_of (F := F136) rfl ?_
  cases b with
  | false => simp only [W5Fc, EXA, Nat.reduceEqDiff, reduceIte, reduceCtorEq, Nat.reduceAdd, Nat.reduceLeDiff, Nat.reduceSub, Nat.reduceMul, Int.reduceEq, Int.reduceBEq, Int.reduceBNe, Int.reduceLT, Int.reduceLE, Nat.reduceLT, VX, readAt_some, V.eta, h1, h2, h3]; try rfl
  | true =>
    cases u3 with
    | false => simp only [W5Fc, EXA, Nat.reduceEqDiff, reduceIte, reduceCtorEq, Nat.reduceAdd, Nat.reduceLeDiff, Nat.reduceSub, Nat.reduceMul, Int.reduceEq, Int.reduceBEq, Int.reduceBNe, Int.reduceLT, Int.reduceLE, Nat.reduceLT, VX, readAt_some, V.eta, h1, h2, h3]; try rfl
    | true =>
      cases hu : u2 == server with
      | false => simp only [W5Fc, EXA, Nat.reduceEqDiff, reduceIte, reduceCtorEq, Nat.reduceAdd, Nat.reduceLeDiff, Nat.reduceSub, Nat.reduceMul, Int.reduceEq, Int.reduceBEq, Int.reduceBNe, Int.reduceLT, Int.reduceLE, Nat.reduceLT, VX, readAt_some, V.eta, h1, h2, h3, hu]; try rfl
      | true => simp only [W5Fc, EXA, Nat.reduceEqDiff, reduceIte, reduceCtorEq, Nat.reduceAdd, Nat.reduceLeDiff, Nat.reduceSub, Nat.reduceMul, Int.reduceEq, Int.reduceBEq, Int.reduceBNe, Int.reduceLT, Int.reduceLE, Nat.reduceLT, VX, readAt_some, V.eta, h1, h2, h3, hu]; try rfl
end Go.Ab
/- Lists of names of events, of the program and of the document. -/
namespace Go.Ab
set_option maxHeartbeats 1000000
def W6Fc := J @F137_4.eq_1 (J @F137_24.eq_1 (J @F137_25.eq_1 (J @F137_31.eq_1 (@F137.eq_1))))
set_option maxRecDepth 100000
/-- A list of one's own beside block 0. -/
structure Ids (G : List AV) (σ : Store) (v : AV) (acc : List Bs) : Prop where
  gr : Gr LStr σ v acc
  zero : look σ.m 0 = some (.own G)
  pos : 0 < σ.next
  far : ∀ o len sz c, v ≠ .sl 0 o len sz c
theorem Ids.newset {G : List AV} {σ : Store} {v : AV} {acc : List Bs} (h : Ids G σ v acc) (cs cs' : List AV) : Ids G { next := σ.next + 1, m := (σ.next, .own cs) :: (σ.next, .own cs') :: σ.m } v acc where
  gr := h.gr.newset cs cs'
  zero := by
    rw [← h.zero]
    have := h.pos
    simp only [look]; rw [if_neg (by omega), if_neg (by omega)]
  pos := by simp
  far := h.far
theorem Ids.app {G : List AV} {σ : Store} {v : AV} {acc : List Bs} (h : Ids G σ v acc) (x : Bs) : Ids G (grNext LStr σ v acc [x]) (.sl σ.next 0 (acc ++ [x]).length LStr.sz none) (acc ++ [x]) where
  gr := Gr.own (h.gr.next (by simp))
  zero := (grNext_get h.gr h.pos (fun len sz c => h.far _ len sz c)).trans h.zero
  pos := by rw [grNext_next]; omega
  far := fun o len sz c he => by simp only [AV.sl.injEq] at he; have := h.pos; omega
theorem rbE_tupB {σ : Store} {v : AV} {l : List Bs} (h : Gr LStr σ v l) (b : Bool) : rbE σ (.tup [v, .bool b]) = some (.tup [.vsl (l.map .str) none, .bool b]) := by
  have := RbL.tup (RbL.gr (d := 22) h (RbL.clo (x := .bool b) rfl (RbL.nil _ _)))
  simp only [AV.er] at this
  exact this
def okId (x : V) (acc : List Bs) : Bool := x.kind == 3 && (evId x.s && !hasS acc x.s)
def idsF : List V → List Bs → Option (List Bs)
  | [], acc => some acc
  | x :: l, acc => if okId x acc = true then idsF l (acc ++ [x.s]) else none
def eventsV (v : V) (k : Bs) (max : Int) : List Bs × Bool := match idsF (getV v k).1.l [] with
  | none => ([], false)
  | some ids => (ids, ((getV v k).1.kind == 4 && decide (1 ≤ ids.length)) && decide ((ids.length : Int) ≤ max))
def idsV (g : V × Bool) (max : Int) : List Bs × Bool := if g.2 = true ∧ g.1.kind = 4 ∧ (g.1.l.length : Int) ≤ max then (match idsF g.1.l [] with | none => ([], false) | some ids => (ids, true)) else ([], false)
theorem r_events (v : V) (k : Bs) (max : Int) (hb : v.sz < lim) : cR 137 [v.enc, .str k, .int .i64 max] = some (.tup [.vsl ((eventsV v k max).1.map .str) none, .bool (eventsV v k max).2]) := by
  unfold lim at hb
  have h1 := r_get v k (by unfold big; omega)
  have z1 := getV_sz v k
  unfold eventsV
  generalize getV v k = g at h1 z1 ⊢
  obtain ⟨g, b⟩ := g
  simp only at h1 z1 ⊢
  have zl := l_len_sz g
  have zm : ∀ x ∈ g.l, x.sz ≤ g.sz := fun x hx => by have := szL_mem hx; have := g.sz_eq; omega
  obtain ⟨r, hr⟩ : ∃ r : List Bs × Bool, r = (match idsF g.l [] with | none => (([] : List Bs), false) | some ids => (ids, (g.kind == 4 && decide (1 ≤ ids.length)) && decide ((ids.length : Int) ≤ max))) := ⟨_, rfl⟩
  rw [← hr]
  refine cR_of (F := F137) rfl ?_
  simp only [F137_4, F137_24, F137_31, F137, ex_loop, EXA, Nat.reduceEqDiff, reduceIte, reduceCtorEq, Nat.reduceAdd, Nat.reduceLeDiff, Nat.reduceSub, Nat.reduceMul, Int.reduceEq, Int.reduceBEq, Int.reduceBNe, Int.reduceLT, Int.reduceLE, Nat.reduceLT, VX, readAt_some, h1]
  refine ex_whileI (S := Nat × List Bs × AV) (fun p => [(2, .int .i64 max), (8, .ptr 0 0), (10, p.2.2), (21, .vsl (g.l.map V.enc) none), (22, .int .i64 g.l.length), (23, .int .i64 (p.1 : Int))]) (fun p => g.l.length - p.1)
    (fun p σ => Ids [.int .i64 g.kind, .int .i64 g.n, .str g.s, .vsl (g.l.map V.enc) none, .vsl (g.m.map memE) none] σ p.2.2 p.2.1 ∧ p.2.1.length ≤ p.1 ∧ idsF (g.l.drop p.1) p.2.1 = idsF g.l []) ?_ (0, [], .nils) _ ⟨⟨Gr.nil LStr _, rfl, Nat.one_pos, by intro _ _ _ _ h; cases h⟩, by simp, rfl⟩
  rintro c ⟨j, acc, u⟩ σ ⟨hg, hlen, hj⟩ ih
  simp only at hg hlen hj ih ⊢
  by_cases hlt : j < g.l.length
  · obtain ⟨x, hx⟩ := get_lt hlt
    have hxm := List.mem_of_getElem? hx
    have zx := zm x hxm
    have hidx := idx_map (f := V.enc) (sz := 5) (c := none) hx (by simp [V.enc_cells])
    have hcond := dlt hlt
    have hw := wsucc hlt (by omega)
    have hn := hg.newset
    have hev := r_event x.s (by have := x.sz_eq; unfold lim; omega)
    rw [drop_cons hx, idsF] at hj
    have hb3 : (x.kind != 3) = !(x.kind == 3) := rfl
    cases h3 : x.kind == 3 with
    | false =>
      rw [h3] at hb3
      rw [if_neg (by simp [okId, h3])] at hj
      rw [← hj] at hr
      simp only [W6Fc, EXA, Nat.reduceEqDiff, reduceIte, reduceCtorEq, Nat.reduceAdd, Nat.reduceLeDiff, Nat.reduceSub, Nat.reduceMul, Int.reduceEq, Int.reduceBEq, Int.reduceBNe, Int.reduceLT, Int.reduceLE, Nat.reduceLT, VX, readAt_some, hcond, hidx, hb3, hr]
    | true =>
      rw [h3] at hb3
      cases he : evId x.s with
      | false =>
        rw [he] at hev
        rw [if_neg (by simp [okId, he])] at hj
        rw [← hj] at hr
        simp only [W6Fc, EXA, Nat.reduceEqDiff, reduceIte, reduceCtorEq, Nat.reduceAdd, Nat.reduceLeDiff, Nat.reduceSub, Nat.reduceMul, Int.reduceEq, Int.reduceBEq, Int.reduceBNe, Int.reduceLT, Int.reduceLE, Nat.reduceLT, VX, readAt_some, hcond, hidx, hb3, hev, hr]
      | true =>
        rw [he] at hev
        have hcall : ∀ cs cs', callP ipU gU false (.fn 45 [] []) [u, .str x.s] _ = some (.bool (hasS acc x.s), _) := fun cs cs' => (hn cs cs').gr.call1 rfl (by simp only [erL, AV.er]; exact r_containsS acc _ (by unfold big; omega)) rfl
        cases hh : hasS acc x.s with
        | true =>
          rw [hh] at hcall
          rw [if_neg (by simp [okId, hh])] at hj
          rw [← hj] at hr
          simp only [W6Fc, EXA, Nat.reduceEqDiff, reduceIte, reduceCtorEq, Nat.reduceAdd, Nat.reduceLeDiff, Nat.reduceSub, Nat.reduceMul, Int.reduceEq, Int.reduceBEq, Int.reduceBNe, Int.reduceLT, Int.reduceLE, Nat.reduceLT, VX, readAt_some, hcond, hidx, hb3, hev, hcall, hr]
        | false =>
          rw [hh] at hcall
          rw [if_pos (by simp [okId, h3, he, hh])] at hj
          have happ : ∀ cs cs', appendTo _ 1 16 u [.str x.s] 1 = some _ := fun cs cs' => (hn cs cs').gr.push (a := x.s) (bytes := 16) (by omega) (by unfold maxBytes; omega)
          have hlo : lenOf (.vsl [.str x.s] (some 1)) = some 1 := rfl
          have hro : ∀ σ', rowOf σ' 1 (.vsl [.str x.s] (some 1)) = some [.str x.s] := fun _ => rfl
          simp only [W6Fc, EXA, Nat.reduceEqDiff, reduceIte, reduceCtorEq, Nat.reduceAdd, Nat.reduceLeDiff, Nat.reduceSub, Nat.reduceMul, Int.reduceEq, Int.reduceBEq, Int.reduceBNe, Int.reduceLT, Int.reduceLE, Nat.reduceLT, VX, readAt_some, hcond, hidx, hb3, hev, hcall, happ, hlo, hro, hw]
          exact ih (j + 1, acc ++ [x.s], _) _ _ (by simp; omega) ⟨(hn _ _).app x.s, by simp; omega, hj⟩ (by simp only [EXA, Nat.reduceEqDiff, reduceIte, reduceCtorEq, Nat.reduceAdd, Nat.reduceLeDiff, Nat.reduceSub, Nat.reduceMul, Int.reduceEq, Int.reduceBEq, Int.reduceBNe, Int.reduceLT, Int.reduceLE, Nat.reduceLT])
  · have hcond := dge (Nat.not_lt.1 hlt)
    rw [List.drop_eq_nil_of_le (by omega), idsF] at hj
    rw [← hj] at hr
    simp only at hr
    have hz := hg.zero
    have hll := hg.gr.lenL
    have ht := rbE_tupB hg.gr
    have hd : decide ((acc.length : Int) ≥ 1) = decide (1 ≤ acc.length) := by rw [decide_eq_decide]; omega
    simp only [F137_4, F137_24, F137_25, F137_31, F137_32, F137, EXA, Nat.reduceEqDiff, reduceIte, reduceCtorEq, Nat.reduceAdd, Nat.reduceLeDiff, Nat.reduceSub, Nat.reduceMul, Int.reduceEq, Int.reduceBEq, Int.reduceBNe, Int.reduceLT, Int.reduceLE, Nat.reduceLT, VX, readAt_some, hcond, hz, hll, hd, ht, hr]
    cases g.kind == 4 <;> cases decide (1 ≤ acc.length) <;> rfl
end Go.Ab
/- An event's parts as a value, of the program and of the document. -/
namespace Go.Ab
set_option maxHeartbeats 1000000
def U8Fa := @F130.eq_1
set_option maxRecDepth 100000
abbrev kT : Bs := [116, 121, 112, 101]
abbrev kRoom : Bs := [114, 111, 111, 109, 95, 105, 100]
abbrev kSender : Bs := [115, 101, 110, 100, 101, 114]
abbrev kTs : Bs := [111, 114, 105, 103, 105, 110, 95, 115, 101, 114, 118, 101, 114, 95, 116, 115]
abbrev kDepth : Bs := [100, 101, 112, 116, 104]
abbrev kPrev : Bs := [112, 114, 101, 118, 95, 101, 118, 101, 110, 116, 115]
abbrev kAuth : Bs := [97, 117, 116, 104, 95, 101, 118, 101, 110, 116, 115]
abbrev kContent : Bs := [99, 111, 110, 116, 101, 110, 116]
abbrev kStateKey : Bs := [115, 116, 97, 116, 101, 95, 107, 101, 121]
def make8 (e : Ev) : List Mem := [(kT, tV3 e.type), (kRoom, tV3 e.room), (kSender, tV3 e.sender), (kTs, iV2 e.ts), (kDepth, iV2 e.depth), (kPrev, lV e.prev), (kAuth, lV e.auth), (kContent, e.content)]
def makeL (e : Ev) : List Mem := if e.isState = true then make8 e ++ [(kStateKey, tV3 e.key)] else make8 e
/-- A list in a block that nobody writes into any more, as a row. -/
theorem view_row {α : Type} {L : Lay α} {σ : Store} {b : Nat} {l : List α} (h : σ.get b = some (.frz (L.cells l))) : readPtrF σ (.sl b 0 l.length L.sz none) (some 0) = some (.vsl (l.map L.f) none) := by
  have hl := L.cells_len l
  simp only [readPtrF, h, List.drop_zero]
  rw [List.take_of_length_le (by rw [hl]; exact Nat.le_refl _), if_pos ⟨by rw [hl]; omega, L.pos, one_notAgg (L.cells_one l)⟩, L.chunks]
section
variable (e : Ev)
theorem make_app : appendTo ⟨1, [(0, .own [.int .i64 0, .int .i64 0, .str [], .nils, .nils])]⟩ 6 96 (.vsl ((make8 e).map memE) (some 8)) (memE (kStateKey, tV3 e.key)).cells 1 =
    some (.sl 1 0 9 6 none, ⟨2, [(1, .own (LMem.cells (make8 e ++ [(kStateKey, tV3 e.key)]))), (0, .own [.int .i64 0, .int .i64 0, .str [], .nils, .nils])]⟩) := by
  have h := (Gr.lit LMem ⟨1, [(0, .own [.int .i64 0, .int .i64 0, .str [], .nils, .nils])]⟩ (make8 e)).push (a := (kStateKey, tV3 e.key)) (bytes := 96) (by omega) (by simp [make8, maxBytes])
  have hn : grNext LMem ⟨1, [(0, .own [.int .i64 0, .int .i64 0, .str [], .nils, .nils])]⟩ (.vsl ((make8 e).map LMem.f) (some (make8 e).length)) (make8 e) [(kStateKey, tV3 e.key)] = ⟨2, [(1, .own (LMem.cells (make8 e ++ [(kStateKey, tV3 e.key)]))), (0, .own [.int .i64 0, .int .i64 0, .str [], .nils, .nils])]⟩ := by
    unfold grNext
    rw [Lay.cells_append]; rfl
  rw [hn] at h
  exact h
theorem make_view : readPtrF ⟨2, [(1, .frz (LMem.cells (make8 e ++ [(kStateKey, tV3 e.key)]))), (1, .own (LMem.cells (make8 e ++ [(kStateKey, tV3 e.key)]))), (0, .own [.int .i64 0, .int .i64 0, .str [], .nils, .nils])]⟩ (.sl 1 0 9 6 none) (some 0) =
    some (.vsl ((make8 e ++ [(kStateKey, tV3 e.key)]).map memE) none) :=
  view_row (L := LMem) (l := make8 e ++ [(kStateKey, tV3 e.key)]) rfl
theorem r_Make (h1 : e.prev.length < lim) (h2 : e.auth.length < lim) : cR 130 [evE e] = some (mapOf (makeL e)).enc := by
  have a1 : ∀ s, cR 18 [.str s] = some (tV3 s).enc := r_Text
  have a2 : ∀ n, cR 19 [.int .i64 n] = some (iV2 n).enc := r_Int
  have a3 := r_texts e.prev h1
  have a4 := r_texts e.auth h2
  have a5 := r_Map (make8 e) (by simp [make8])
  have a6 := r_Map (make8 e ++ [(kStateKey, tV3 e.key)]) (by simp [make8])
  have happ := make_app e
  have hv := make_view e
  have hlo := memE_lo (kStateKey, tV3 e.key)
  have hro := memE_ro (kStateKey, tV3 e.key)
  obtain ⟨r, hr⟩ : ∃ r, r = (mapOf (makeL e)).enc := ⟨_, rfl⟩
  rw [← hr]
  unfold makeL at hr
  generalize LMem.cells (make8 e ++ [(kStateKey, tV3 e.key)]) = C at happ hv
  refine cR_of (F := F130) rfl ?_
  cases hs : e.isState with
  | false =>
    rw [hs] at hr
    simp only [Bool.false_eq_true, if_false] at hr
    rw [← hr] at a5
    simp only [make8, List.map_cons, List.map_nil] at a5
    simp only [U8Fa, EXA, Nat.reduceEqDiff, reduceIte, reduceCtorEq, Nat.reduceAdd, Nat.reduceLeDiff, Nat.reduceSub, Nat.reduceMul, Int.reduceEq, Int.reduceBEq, Int.reduceBNe, Int.reduceLT, Int.reduceLE, Nat.reduceLT, EXF, VX, readAt_some, a1, a2, a3, a4, hs, a5, hr]
  | true =>
    rw [hs] at hr
    simp only [if_true] at hr
    rw [← hr] at a6
    simp only [make8, List.map_cons, List.map_nil, List.cons_append, List.nil_append] at a6 happ hv
    simp only [memE_cells] at happ hro
    simp only [U8Fa, EXA, Nat.reduceEqDiff, reduceIte, reduceCtorEq, Nat.reduceAdd, Nat.reduceLeDiff, Nat.reduceSub, Nat.reduceMul, Int.reduceEq, Int.reduceBEq, Int.reduceBNe, Int.reduceLT, Int.reduceLE, Nat.reduceLT, EXF, VX, readAt_some, a1, a2, a3, a4, hs, hlo, hro, happ, hv, a6, hr]
theorem make_eq : mapOf (makeL e) = V.mk 5 0 [] [] (refMapL (makeL e)) := by
  unfold makeL
  cases e.isState
  · kernel_rfl
  · kernel_rfl
end
end Go.Ab
/- value.Set. -/
namespace Go.Ab
set_option maxHeartbeats 1000000
set_option maxRecDepth 100000
theorem ex_arity {ip : Nat → Option IFunc} {G : Nat → List AV} {m : Nat} {c : ICode} {k : List Item} {fr : Fr} {σ : Store} {Q : Fr → Store → Prop} (h : fr.length = m) : Ex ip G (.code (.arity m c) :: k) fr σ Q ↔ Ex ip G (.code c :: k) fr σ Q :=
  ex_step fun n => by simp only [run, h, if_true]
/-- slices.Insert is one operation. -/
theorem c_insert {x y : AV} {i : Int} {σ : Store} {r : AV × Store} (h : insertTo σ 6 96 x i y = some r) : callS ipU gU (.fn 153 [] []) [x, .int .i64 i, y] σ = some r := by
  obtain ⟨v, σ'⟩ := r
  refine callS_of (F := F153) rfl (first := []) (caps := []) ?_
  simp only [F153, natF, List.nil_append, List.append_nil]
  rw [ex_arity (by rfl)]
  simp only [EXA, Nat.reduceEqDiff, reduceIte, reduceCtorEq, Nat.reduceAdd, Nat.reduceLeDiff, Nat.reduceSub, Nat.reduceMul, Int.reduceEq, Int.reduceBEq, Int.reduceBNe, Int.reduceLT, Int.reduceLE, Nat.reduceLT, h]
def zK (k : Bs) : List AV := [.str k, .int .i64 0, .int .i64 0, .str [], .nils, .nils]
theorem insC_len (l : List Mem) (i : Nat) (hi : i ≤ l.length) (k : Bs) : (LMem.cells (l.take i) ++ zK k ++ LMem.cells (l.drop i)).length = (l.length + 1) * 6 := by
  rw [List.length_append, List.length_append, LMem.cells_len, LMem.cells_len, List.length_take, List.length_drop]
  show min i l.length * 6 + 6 + (l.length - i) * 6 = _
  omega
/-- What an insertion leaves. -/
theorem ins_to (l : List Mem) (b c : Nat) (σ : Store) (i : Nat) (k : Bs) (hl : l.length < lim) (hi : i ≤ l.length) (hb : σ.get b = some (.own (LMem.cells l))) (hc : σ.get c = some (.own (zK k))) (hbc : b ≠ c) (hn : 0 < l.length) :
    insertTo σ 6 96 (.sl b 0 l.length 6 none) (i : Int) (.sl c 0 1 6 (some 1)) = some (.sl σ.next 0 (l.length + 1) 6 none, (σ.set b .dead).alloc (LMem.cells (l.take i) ++ zK k ++ LMem.cells (l.drop i))) := by
  unfold lim at hl
  have hob : σ.owned b = some (LMem.cells l) := by simp [Store.owned, hb]
  have hoc : σ.owned c = some (zK k) := by simp [Store.owned, hc]
  have hro : rowOf σ 6 (.sl c 0 1 6 (some 1)) = some (zK k) := by simp [rowOf, Store.cells, hc, zK]
  have hck := LMem.cells_len l
  have hsz : LMem.sz = 6 := rfl
  rw [hsz] at hck
  have hone := LMem.cells_one l
  have hz1 : (zK k).all AV.one = true := rfl
  unfold insertTo
  simp only [lenOf, hro]
  by_cases he : (i : Int) = (l.length : Int)
  · have he' : i = l.length := by omega
    subst he'
    rw [if_pos rfl, if_pos (by omega)]
    simp only [appendTo, lenOf, hob]
    rw [if_pos ⟨by omega, by omega, by unfold maxBytes; omega, rfl, hz1⟩]
    simp only [if_true]
    rw [if_neg (by omega), if_pos (by omega)]
    simp [Lay.cells]
  · rw [if_neg he]
    simp only [hob, hoc]
    rw [if_pos ⟨hbc, by trivial, by omega, by omega, by omega, by omega, by omega, by unfold maxBytes; omega, by omega, hone, hz1⟩]
    have e1 : (LMem.cells l).take (i * 6) = LMem.cells (l.take i) := by
      have : LMem.cells l = LMem.cells (l.take i) ++ LMem.cells (l.drop i) := by rw [← Lay.cells_append, List.take_append_drop]
      rw [this, ← take_cells l hi, List.take_left]
    have e2 : (LMem.cells l).drop (i * 6) = LMem.cells (l.drop i) := by
      have : LMem.cells l = LMem.cells (l.take i) ++ LMem.cells (l.drop i) := by rw [← Lay.cells_append, List.take_append_drop]
      rw [this, ← take_cells l hi, List.drop_left]
    simp only [List.drop_zero, Int.toNat_natCast, e1, e2]
theorem ins_to0 (c : Nat) (σ : Store) (k : Bs) (hc : σ.get c = some (.own (zK k))) :
    insertTo σ 6 96 (.vsl [] (some 0)) ((0 : Nat) : Int) (.sl c 0 1 6 (some 1)) = some (.sl σ.next 0 1 6 none, σ.alloc (zK k)) := by
  have hro : rowOf σ 6 (.sl c 0 1 6 (some 1)) = some (zK k) := by simp [rowOf, Store.cells, hc, zK]
  unfold insertTo
  simp only [lenOf, hro]
  simp [appendTo, lenOf, rowOf, zK, maxBytes, AV.one]
theorem splice_mid {α : Type} (pre : List α) (a : α) (A B post : List α) (h : A.length = B.length) : (pre ++ a :: (A ++ post)).take (pre.length + 1) ++ B ++ (pre ++ a :: (A ++ post)).drop (pre.length + 1 + B.length) = pre ++ a :: (B ++ post) := by
  have e1 : pre ++ a :: (A ++ post) = (pre ++ [a]) ++ (A ++ post) := by simp
  have e2 : pre ++ a :: (A ++ post) = ((pre ++ [a]) ++ A) ++ post := by simp
  have l1 : pre.length + 1 = (pre ++ [a]).length := by simp
  have l2 : pre.length + 1 + B.length = ((pre ++ [a]) ++ A).length := by simp [h]; omega
  have t1 : (pre ++ a :: (A ++ post)).take (pre.length + 1) = pre ++ [a] := by rw [e1, l1, List.take_left]
  have t2 : (pre ++ a :: (A ++ post)).drop (pre.length + 1 + B.length) = post := by rw [e2, l2, List.drop_left]
  rw [t1, t2]; simp
theorem splice_val (pre : List AV) (k : Bs) (x : V) (post : List AV) : splice (pre ++ zK k ++ post) (pre.length + 1) x.enc.cells = pre ++ (memE (k, x)).cells ++ post := by
  rw [V.enc_cells, memE_cells]
  have := splice_mid pre (AV.str k) [.int .i64 0, .int .i64 0, .str [], .nils, .nils] [.int .i64 x.kind, .int .i64 x.n, .str x.s, .vsl (x.l.map V.enc) none, .vsl (x.m.map memE) none] post rfl
  unfold splice zK
  simpa using this
theorem splice_valM (pre : List AV) (y : Mem) (x : V) (post : List AV) : splice (pre ++ (memE y).cells ++ post) (pre.length + 1) x.enc.cells = pre ++ (memE (y.1, x)).cells ++ post := by
  rw [V.enc_cells, memE_cells, memE_cells]
  have := splice_mid pre (AV.str y.1) [.int .i64 y.2.kind, .int .i64 y.2.n, .str y.2.s, .vsl (y.2.l.map V.enc) none, .vsl (y.2.m.map memE) none] [.int .i64 x.kind, .int .i64 x.n, .str x.s, .vsl (x.l.map V.enc) none, .vsl (x.m.map memE) none] post rfl
  unfold splice
  simpa using this
end Go.Ab
/- value.Set, whole; what a member says. -/
namespace Go.Ab
set_option maxHeartbeats 1000000
def U10Fa := @F142.eq_1
set_option maxRecDepth 100000
theorem bsF_le (m : List Mem) (k : Bs) : ∀ (n i j : Nat), j - i ≤ n → i ≤ j → bsF m k i j ≤ j
  | 0, i, j, h, hij => by rw [bsF, if_neg (by omega)]; exact hij
  | n + 1, i, j, h, hij => by
    rw [bsF]
    by_cases hlt : i < j
    · rw [if_pos hlt]
      split
      · exact bsF_le m k n _ _ (by omega) (by omega)
      · exact Nat.le_trans (bsF_le m k n _ _ (by omega) (by omega)) (by omega)
    · rw [if_neg hlt]; exact hij
theorem placeV_le (v : V) (k : Bs) : (placeV v k).1 ≤ v.m.length := by
  unfold placeV
  split
  · exact bsF_le v.m k _ 0 _ (Nat.le_refl _) (by omega)
  · simp
theorem placeV_lt {v : V} {k : Bs} (h : (placeV v k).2 = true) : (placeV v k).1 < v.m.length := by
  unfold placeV at h ⊢
  split
  · rename_i h5
    rw [if_pos h5] at h
    simp at h
    exact h.1
  · rename_i h5
    rw [if_neg h5] at h
    cases h
def setM (m : List Mem) (i : Nat) (ok : Bool) (k : Bs) (x : V) : List Mem := if ok then (match m[i]? with | some y => m.set i (y.1, x) | none => m) else m.take i ++ (k, x) :: m.drop i
def setV (v : V) (k : Bs) (x : V) : V := if v.kind = 5 then V.mk v.kind v.n v.s v.l (setM v.m (placeV v k).1 (placeV v k).2 k x) else v
abbrev vCs (v : V) : List AV := [.int .i64 v.kind, .int .i64 v.n, .str v.s, .vsl (v.l.map V.enc) none, .vsl (v.m.map memE) none]
/-- A value whose members lie in a block of one's own, read out. -/
theorem rbE_own {σ : Store} (v : V) {b : Nat} {l : List Mem} (h : look σ.m b = some (.own (LMem.cells l))) : rbE σ (.agg [.int .i64 v.kind, .int .i64 v.n, .str v.s, .vsl (v.l.map V.enc) none, .sl b 0 l.length 6 none]) = some (V.mk v.kind v.n v.s v.l l).enc := by
  have hcl : (AV.vsl (v.l.map V.enc) none).closed = true := by simp only [AV.closed, closedL_mapV]
  have hce : (AV.vsl (v.l.map V.enc) none).er = .vsl (v.l.map V.enc) none := by simp only [AV.er, erL_mapV]
  have hb := RbL.agg (σ := σ) (RbL.clo (x := .int .i64 v.kind) rfl (RbL.clo (x := .int .i64 v.n) rfl (RbL.clo (x := .str v.s) rfl (RbL.clo (x := .vsl (v.l.map V.enc) none) hcl (RbL.rp (L := LMem) (l := l) (v := .sl b 0 l.length 6 none) (.inr ⟨b, [], rfl, by rw [List.append_nil]; exact h⟩) (RbL.nil σ 23))))))
  simp only [er_int, er_str, hce] at hb
  rw [V.enc_eq]
  exact hb
theorem rbE_ownN {σ : Store} (v : V) {b n : Nat} {l : List Mem} (hn : l.length = n) (h : look σ.m b = some (.own (LMem.cells l))) : rbE σ (.agg [.int .i64 v.kind, .int .i64 v.n, .str v.s, .vsl (v.l.map V.enc) none, .sl b 0 n 6 none]) = some (V.mk v.kind v.n v.s v.l l).enc := by
  subst hn; exact rbE_own v h
theorem r_Set (v : V) (k : Bs) (x : V) (hlen : v.m.length < lim) : cR 142 [v.enc, .str k, x.enc] = some (setV v k x).enc := by
  have hlen' := hlen
  unfold lim at hlen'
  have hp := r_place v k (by unfold big; omega)
  have hple := placeV_le v k
  have hplt := fun h => placeV_lt (v := v) (k := k) h
  refine cR_of (F := F142) rfl ?_
  obtain ⟨r, hr⟩ : ∃ r, r = (setV v k x).enc := ⟨_, rfl⟩
  rw [← hr]
  unfold setV at hr
  cases h5 : v.kind != 5 with
  | true =>
    have hk5 : v.kind ≠ 5 := by simpa using h5
    rw [if_neg hk5] at hr
    simp only [U10Fa, EXA, Nat.reduceEqDiff, reduceIte, reduceCtorEq, Nat.reduceAdd, Nat.reduceLeDiff, Nat.reduceSub, Nat.reduceMul, Int.reduceEq, Int.reduceBEq, Int.reduceBNe, Int.reduceLT, Int.reduceLE, Nat.reduceLT, VX, readAt_some, h5, hr]
  | false =>
    have hk5 : v.kind = 5 := by simpa using h5
    rw [if_pos hk5] at hr
    generalize placeV v k = pl at hp hple hplt hr
    obtain ⟨i, ok⟩ := pl
    simp only at hp hple hplt hr
    cases hm : v.m with
    | nil =>
      have hi : i = 0 := by rw [hm] at hple; simpa using hple
      subst hi
      have hok : ok = false := by
        cases ok with
        | false => rfl
        | true => have := hplt rfl; rw [hm] at this; simp at this
      subst hok
      have c1 : callM ipU gU .split (.fn 38 [] []) [.vsl (v.m.map memE) none] ⟨2, [(1, .own [.int .i64 0, .int .i64 0, .str [], .nils, .nils]), (0, .own (vCs v))]⟩ = some (.vsl [] (some 0), ⟨2, [(1, .own [.int .i64 0, .int .i64 0, .str [], .nils, .nils]), (0, .own (vCs v))]⟩) := by
        have := c_cloneM0 none ⟨2, [(1, .own [.int .i64 0, .int .i64 0, .str [], .nils, .nils]), (0, .own (vCs v))]⟩
        rw [hm]; exact this
      have c2 := c_insert (ins_to0 2 ⟨3, [(2, .own (zK k)), (0, .own [.int .i64 v.kind, .int .i64 v.n, .str v.s, .vsl (v.l.map V.enc) none, .vsl [] (some 0)]), (1, .own [.int .i64 0, .int .i64 0, .str [], .nils, .nils]), (0, .own (vCs v))]⟩ k rfl)
      simp only [Store.alloc, zK, vCs] at c1 c2
      have hspl := splice_val [] k x []
      have i0 := idx_sl (b := 3) (n := 1) (j := 0) (σ := .empty) (by omega)
      simp only [V.enc_cells, memE_cells, zK, splice, List.nil_append, List.append_nil, List.length_nil, List.length_cons, Nat.zero_add, Nat.reduceAdd] at hspl
      rw [hm] at hr
      simp only [setM, List.take_nil, List.drop_nil, List.nil_append, Bool.false_eq_true, if_false] at hr
      simp only [U10Fa, EXA, Nat.reduceEqDiff, reduceIte, reduceCtorEq, Nat.reduceAdd, Nat.reduceLeDiff, Nat.reduceSub, Nat.reduceMul, Int.reduceEq, Int.reduceBEq, Int.reduceBNe, Int.reduceLT, Int.reduceLE, Nat.reduceLT, VX, readAt_some, h5, hp, c1, c2, i0, hspl]
      rw [hr]
      exact rbE_own v (l := [(k, x)]) (by simp [look, Lay.cells, LMem, memE_cells])
    | cons y0 m0 =>
      have hn : 0 < v.m.length := by rw [hm]; simp
      have c1 : callM ipU gU .split (.fn 38 [] []) [.vsl (v.m.map memE) none] ⟨2, [(1, .own [.int .i64 0, .int .i64 0, .str [], .nils, .nils]), (0, .own (vCs v))]⟩ = some (.sl 2 0 v.m.length 6 none, ⟨3, [(2, .own (LMem.cells v.m)), (1, .own [.int .i64 0, .int .i64 0, .str [], .nils, .nils]), (0, .own (vCs v))]⟩) := by
        have := c_cloneM1 y0 m0 none ⟨2, [(1, .own [.int .i64 0, .int .i64 0, .str [], .nils, .nils]), (0, .own (vCs v))]⟩ (by rw [← hm]; exact hlen)
        rw [hm]; exact this
      simp only [vCs] at c1
      clear hm
      have hcl := LMem.cells_len v.m
      have hsz : LMem.sz = 6 := rfl
      rw [hsz] at hcl
      have hxl : x.enc.cells.length = 5 := by rw [V.enc_cells]; rfl
      have hxo : x.enc.cells.all AV.one = true := LV.one x
      cases ok with
      | true =>
        have hlt := hplt rfl
        obtain ⟨y, hy⟩ := get_lt hlt
        simp only [setM, hy, if_true] at hr
        have i0 := idx_sl (b := 2) (n := v.m.length) (j := i) (σ := .empty) hlt
        have hspl : splice (LMem.cells v.m) (i * 6 + 1) x.enc.cells = LMem.cells (v.m.set i (y.1, x)) := by
          have e : v.m = v.m.take i ++ y :: v.m.drop (i + 1) := by rw [← drop_cons hy, List.take_append_drop]
          have e2 : v.m.set i (y.1, x) = v.m.take i ++ (y.1, x) :: v.m.drop (i + 1) := List.set_eq_take_append_cons_drop.trans (by rw [if_pos hlt])
          have h1 := take_cells v.m (j := i) (by omega)
          have := splice_valM (LMem.cells (v.m.take i)) y x (LMem.cells (v.m.drop (i + 1)))
          rw [h1] at this
          rw [e2, Lay.cells_append, Lay.cells_cons, ← List.append_assoc]
          have e3 : LMem.cells v.m = LMem.cells (v.m.take i) ++ (memE y).cells ++ LMem.cells (v.m.drop (i + 1)) := by
            rw [List.append_assoc]
            have : LMem.cells v.m = LMem.cells (v.m.take i ++ y :: v.m.drop (i + 1)) := by rw [← e]
            rw [this, Lay.cells_append, Lay.cells_cons]; rfl
          rw [e3]; exact this
        have hle : i * 6 + 1 + 5 ≤ (LMem.cells v.m).length := by rw [hcl]; omega
        generalize LMem.cells v.m = C at c1 hspl hle
        simp only [V.enc_cells, splice, List.length_nil, List.length_cons, Nat.zero_add, Nat.reduceAdd] at hspl hxo
        simp only [U10Fa, EXA, Nat.reduceEqDiff, reduceIte, reduceCtorEq, Nat.reduceAdd, Nat.reduceLeDiff, Nat.reduceSub, Nat.reduceMul, Int.reduceEq, Int.reduceBEq, Int.reduceBNe, Int.reduceLT, Int.reduceLE, Nat.reduceLT, VX, readAt_some, h5, hp, c1, i0, hspl, hle, hxo]
        rw [hr]
        exact rbE_ownN v List.length_set rfl
      | false =>
        simp only [setM, Bool.false_eq_true, if_false] at hr
        have c2 := c_insert (ins_to v.m 2 3 ⟨4, [(3, .own (zK k)), (0, .own [.int .i64 v.kind, .int .i64 v.n, .str v.s, .vsl (v.l.map V.enc) none, .sl 2 0 v.m.length 6 none]), (2, .own (LMem.cells v.m)), (1, .own [.int .i64 0, .int .i64 0, .str [], .nils, .nils]), (0, .own (vCs v))]⟩ i k hlen hple rfl rfl (by omega) hn)
        have i0 := idx_sl (b := 4) (n := v.m.length + 1) (j := i) (σ := .empty) (by omega)
        have hspl : splice (LMem.cells (v.m.take i) ++ zK k ++ LMem.cells (v.m.drop i)) (i * 6 + 1) x.enc.cells = LMem.cells (v.m.take i ++ (k, x) :: v.m.drop i) := by
          have := splice_val (LMem.cells (v.m.take i)) k x (LMem.cells (v.m.drop i))
          rw [take_cells v.m hple] at this
          rw [Lay.cells_append, Lay.cells_cons, ← List.append_assoc]
          exact this
        have hle : i * 6 + 1 + 5 ≤ (LMem.cells (v.m.take i) ++ zK k ++ LMem.cells (v.m.drop i)).length := by rw [insC_len v.m i hple k]; omega
        generalize LMem.cells (v.m.take i) ++ zK k ++ LMem.cells (v.m.drop i) = D at c2 hspl hle
        generalize LMem.cells v.m = C at c1 c2
        simp only [V.enc_cells, splice, List.length_nil, List.length_cons, Nat.zero_add, Nat.reduceAdd] at hspl hxo
        simp only [Store.alloc, Store.set, zK, vCs] at c2
        simp only [U10Fa, EXA, Nat.reduceEqDiff, reduceIte, reduceCtorEq, Nat.reduceAdd, Nat.reduceLeDiff, Nat.reduceSub, Nat.reduceMul, Int.reduceEq, Int.reduceBEq, Int.reduceBNe, Int.reduceLT, Int.reduceLE, Nat.reduceLT, VX, readAt_some, h5, hp, c1, c2, i0, hspl, hle, hxo]
        rw [hr]
        exact rbE_ownN v (by simp; omega) rfl
end Go.Ab
/- The document's: the slots that an event needs. -/
namespace Go.Ab
set_option maxHeartbeats 1000000
set_option maxRecDepth 100000
/-- A part of such a slice that is a struct, by its number. -/
theorem Gr.idxA {α : Type} {L : Lay α} {σ : Store} {v : AV} {l : List α} (h : Gr L σ v l) (hs : L.sz ≠ 1) {j : Nat} {a : α} (hj : l[j]? = some a) : ∃ p, idxOf L.sz none v (.int .i64 (j : Int)) = some p ∧ readPtr σ p (some L.sz) = some (L.f a) := by
  have hlt := lt_of_get hj
  have hag := L.agg a
  rw [if_neg hs] at hag
  obtain ⟨cs, hcs⟩ := hag
  have hl := L.len a
  rw [hcs] at hl
  simp only [AV.cells] at hl
  rcases h with ⟨rfl, rfl⟩ | ⟨b, rfl, h⟩ | rfl
  · simp at hj
  · refine ⟨.ptr b (j * L.sz), ?_, ?_⟩
    · have h2 : ((j : Int) < (l.length : Int)) := by omega
      simp [Go.Ab.idxOf, h2]
    · have h1 := h.1
      have e : ∀ (l : List α) (j : Nat), l[j]? = some a → (L.cells l).drop (j * L.sz) = cs ++ L.cells (l.drop (j + 1)) := by
        intro l
        induction l with
        | nil => intro j hj; simp at hj
        | cons x l ih =>
          intro j hj
          have hx := L.len x
          have e1 : L.cells (x :: l) = (L.f x).cells ++ L.cells l := by simp [Lay.cells]
          cases j with
          | zero =>
            simp only [List.getElem?_cons_zero, Option.some.injEq] at hj
            subst hj
            rw [e1, hcs, Nat.zero_mul]; rfl
          | succ j =>
            simp only [List.getElem?_cons_succ] at hj
            rw [e1, List.drop_append, hx]
            have e2 : (j + 1) * L.sz - L.sz = j * L.sz := by rw [Nat.add_mul]; omega
            have e3 : (L.f x).cells.drop ((j + 1) * L.sz) = [] := List.drop_eq_nil_of_le (by rw [hx, Nat.add_mul]; omega)
            rw [e2, e3, ih j hj]
            simp
      have h3 := e l j hj
      have h4 := L.cells_len l
      have h5 : j * L.sz + L.sz ≤ (L.cells l).length := by
        rw [h4]
        calc j * L.sz + L.sz = (j + 1) * L.sz := by rw [Nat.add_mul]; omega
          _ ≤ l.length * L.sz := Nat.mul_le_mul_right _ hlt
      simp only [readPtr, Store.cells, h1, readAt]
      rw [if_pos h5, h3, List.take_append_of_le_length (by omega), List.take_of_length_le (by omega), hcs]
  · refine ⟨.vptr (L.f a).cells 0, idx_map (f := L.f) hj (L.len a), ?_⟩
    simp only [readPtr, hcs, AV.cells, readAt]
    rw [if_pos (by omega), List.drop_zero, List.take_of_length_le (by omega)]
end Go.Ab
/- The document's: the slots that an event needs, as the program's. -/
namespace Go.Ab
set_option maxHeartbeats 1000000
set_option maxRecDepth 100000
end Go.Ab
/- The document's: what is picked of a state. -/
namespace Go.Ab
set_option maxHeartbeats 1000000
set_option maxRecDepth 100000
end Go.Ab
/- PickSays: true of any state and any event. -/
namespace Go.Ab
set_option maxHeartbeats 1000000
set_option maxRecDepth 100000
theorem evE_eta0 (e : Ev) : evE ⟨e.v, e.id, e.room, e.type, e.sender, e.key, e.isState, e.ts, e.depth, e.prev, e.auth, e.content⟩ = evE e := rfl
end Go.Ab
/- Drafts of members, of the program and of the document. -/
namespace Go.Ab
set_option maxHeartbeats 1000000
def U11Fc := @F126.eq_1
set_option maxRecDepth 100000
def contentP (to by_ : Bs) : V := if by_ = [] then mapOf [(kMembership, tV3 to)] else setV (mapOf [(kMembership, tV3 to)]) kAuthd (tV3 by_)
def contentL (to by_ : Bs) : List Mem := if by_ = [] then [(kMembership, tV3 to)] else [(kMembership, tV3 to), (kAuthd, tV3 by_)]
theorem map_one1 (k : Bs) (x : V) : mapOf [(k, x)] = V.mk 5 0 [] [] [(k, x)] := rfl
theorem place_mem (to : Bs) : placeV (V.mk 5 0 [] [] [(kMembership, tV3 to)]) kAuthd = (0, false) := by
  have hb : bsF [(kMembership, tV3 to)] kAuthd 0 1 = 0 := by
    rw [bsF, if_pos (by omega)]
    have : bytesLess (keyAt [(kMembership, tV3 to)] ((0 + 1) / 2)) kAuthd = false := by
      show bytesLess kMembership kAuthd = false
      decide
    rw [if_neg (by simp [this]), bsF, if_neg (by simp)]
  have hne : (kMembership == kAuthd) = false := by decide
  show (bsF [(kMembership, tV3 to)] kAuthd 0 1, decide (bsF [(kMembership, tV3 to)] kAuthd 0 1 < 1) && (keyAt [(kMembership, tV3 to)] (bsF [(kMembership, tV3 to)] kAuthd 0 1) == kAuthd)) = _
  rw [hb]
  show (0, true && (kMembership == kAuthd)) = _
  rw [hne]; rfl
theorem content_eq (to by_ : Bs) : contentP to by_ = V.mk 5 0 [] [] (refMapL (contentL to by_)) := by
  unfold contentP contentL
  by_cases h : by_ = []
  · rw [if_pos h, if_pos h]; rfl
  · rw [if_neg h, if_neg h, map_one1]
    unfold setV
    rw [if_pos (show (V.mk 5 0 [] [] [(kMembership, tV3 to)]).kind = 5 from rfl)]
    simp only [place_mem]
    have h1 : bytesLess kMembership kAuthd = false := by decide
    have h2 : (kMembership == kAuthd) = false := by decide
    show V.mk 5 0 [] [] (setM [(kMembership, tV3 to)] 0 false kAuthd (tV3 by_)) = V.mk 5 0 [] [] (insM (insM [] (kMembership, tV3 to)) (kAuthd, tV3 by_))
    have e1 : insM [] (kMembership, tV3 to) = [(kMembership, tV3 to)] := rfl
    rw [e1]
    have hp : posM [(kMembership, tV3 to)] kAuthd = 0 := by
      unfold posM
      rw [List.takeWhile_cons]
      simp [h1]
    have hh : hitM [(kMembership, tV3 to)] kAuthd = false := by
      unfold hitM
      rw [hp]
      exact h2
    unfold insM
    simp only [hp, hh]
    rfl
theorem r_content (to by_ : Bs) : cR 126 [.str to, .str by_] = some (contentP to by_).enc := by
  have h18 : ∀ s, cR 18 [.str s] = some (tV3 s).enc := r_Text
  have h20 := r_Map [(kMembership, tV3 to)] (by simp)
  have h142 := r_Set (mapOf [(kMembership, tV3 to)]) kAuthd (tV3 by_) (by rw [map_one1]; simp [V.m_mk, lim])
  obtain ⟨r, hr⟩ : ∃ r, r = (contentP to by_).enc := ⟨_, rfl⟩
  rw [← hr]
  unfold contentP at hr
  simp only [List.map_cons, List.map_nil] at h20
  generalize mapOf [(kMembership, tV3 to)] = M at h20 h142 hr
  refine cR_of (F := F126) rfl ?_
  cases hb : by_ == [] with
  | true =>
    have hb' : by_ = [] := by simpa using hb
    rw [if_pos hb'] at hr
    simp only [U11Fc, EXA, Nat.reduceEqDiff, reduceIte, reduceCtorEq, Nat.reduceAdd, Nat.reduceLeDiff, Nat.reduceSub, Nat.reduceMul, Int.reduceEq, Int.reduceBEq, Int.reduceBNe, Int.reduceLT, Int.reduceLE, Nat.reduceLT, VX, readAt_some, h18, h20, hb, hr]
  | false =>
    have hb' : by_ ≠ [] := by simpa using hb
    rw [if_neg hb'] at hr
    simp only [U11Fc, EXA, Nat.reduceEqDiff, reduceIte, reduceCtorEq, Nat.reduceAdd, Nat.reduceLeDiff, Nat.reduceSub, Nat.reduceMul, Int.reduceEq, Int.reduceBEq, Int.reduceBNe, Int.reduceLT, Int.reduceLE, Nat.reduceLT, VX, readAt_some, h18, h20, h142, hb, hr]
theorem contentP_sz (to by_ : Bs) : (contentP to by_).sz ≤ to.length + by_.length + 1000 := by
  rw [content_eq]
  unfold contentL
  by_cases h : by_ = []
  · rw [if_pos h]
    show (V.mk 5 0 [] [] [(kMembership, tV3 to)]).sz ≤ _
    simp only [V.sz, szL, szM, tV3, List.length_nil, List.length_cons]
    omega
  · rw [if_neg h]
    have h1 : bytesLess kMembership kAuthd = false := by decide
    have h2 : (kMembership == kAuthd) = false := by decide
    have hp : posM [(kMembership, tV3 to)] kAuthd = 0 := by
      unfold posM
      rw [List.takeWhile_cons]
      simp [h1]
    have hh : hitM [(kMembership, tV3 to)] kAuthd = false := by
      unfold hitM
      rw [hp]
      exact h2
    have e : refMapL [(kMembership, tV3 to), (kAuthd, tV3 by_)] = [(kAuthd, tV3 by_), (kMembership, tV3 to)] := by
      show insM (insM [] (kMembership, tV3 to)) (kAuthd, tV3 by_) = _
      have e1 : insM [] (kMembership, tV3 to) = [(kMembership, tV3 to)] := rfl
      rw [e1]
      unfold insM
      simp only [hp, hh]
      rfl
    rw [e]
    simp only [V.sz, szL, szM, tV3, List.length_nil, List.length_cons]
    omega
def draft0 (l : List Ev) (last : List Bs) (room sender key to by_ : Bs) : Ev := ⟨V.zero, [], room, kMember, sender, key, true, 0, deeper l, last, [], contentP to by_⟩
def draftE (l : List Ev) (last : List Bs) (room sender key to by_ : Bs) : Ev := { draft0 l last room sender key to by_ with auth := pickF l (needs (draft0 l last room sender key to by_)) }
theorem r_Draft (l : List Ev) (last : List Bs) (room sender key to by_ : Bs) (hl : l.length < big) (hla : last.length < lim) (hs : ∀ x ∈ l, x.prev.length < lim ∧ x.auth.length < lim) (ht : to.length < lim) (hb : by_.length < lim) :
    cR 116 [.vsl (l.map evE) none, .vsl (last.map .str) none, .str room, .str sender, .str key, .str to, .str by_] = some (evE (draftE l last room sender key to by_)) := by
  have h125 := r_deeper l hl
  have h66 := c_cloneS last
  have h126 := r_content to by_
  have hsz := contentP_sz to by_
  have h8 := r_pick l (draft0 l last room sender key to by_) (by show (contentP to by_).sz < big; unfold lim at ht hb; unfold big; omega) hl hs
  unfold draftE
  generalize hps : pickF l (needs (draft0 l last room sender key to by_)) = ps at h8 ⊢
  have h8' : cR 8 [.vsl (l.map evE) none, .agg [.int .i64 0, .int .i64 0, .str [], .vsl [] none, .vsl [] none, .str [], .str room, .str [109, 46, 114, 111, 111, 109, 46, 109, 101, 109, 98, 101, 114], .str sender, .str key, .bool true, .int .i64 0, .int .i64 (deeper l),
      .vsl (last.map .str) none, .vsl [] none, .int .i64 (contentP to by_).kind, .int .i64 (contentP to by_).n, .str (contentP to by_).s, .vsl ((contentP to by_).l.map V.enc) none, .vsl ((contentP to by_).m.map memE) none]] = some (.vsl (ps.map .str) none) := h8
  obtain ⟨r, hr⟩ : ∃ r, r = evE { draft0 l last room sender key to by_ with auth := ps } := ⟨_, rfl⟩
  rw [← hr]
  clear h8 hps
  unfold draft0 at hr
  generalize contentP to by_ = C at h126 h8' hr
  refine cR_of (F := F116) rfl ?_
  simp only [F116, EXA, Nat.reduceEqDiff, reduceIte, reduceCtorEq, Nat.reduceAdd, Nat.reduceLeDiff, Nat.reduceSub, Nat.reduceMul, Int.reduceEq, Int.reduceBEq, Int.reduceBNe, Int.reduceLT, Int.reduceLE, Nat.reduceLT, VX, readAt_some, h125, h66 _ hla, h126, h8']
  rw [hr]
  rfl
end Go.Ab
