/- What functions of the program, and of the library, answer. Conditions: none. -/
import Derived.Test.YtgckcnggblomgaaGreatDoorLaw2
set_option linter.unusedVariables false
set_option linter.unusedSimpArgs false
set_option linter.defProp false
/- Texts: the document's reader of a code point. -/
namespace Go.Ab
set_option maxHeartbeats 1000000
def T4Fa := @F111.eq_1
theorem r_Good (s : Bs) : cR 88 [.str s] = some (.bool (vu s)) := by
  refine cR_of (F := F88) rfl ?_
  simp only [F88, EXA, Nat.reduceEqDiff, reduceIte, reduceCtorEq, Nat.reduceAdd, Nat.reduceLeDiff, Nat.reduceSub, Nat.reduceMul, Int.reduceEq, Int.reduceBEq, Int.reduceBNe, Int.reduceLT, Int.reduceLE, Nat.reduceLT, r_valid]
def runeN : Bs → Nat
  | [] => 0
  | a :: r =>
    if szN a = 1 then 1
    else if szN a = 2 then (match r with | b :: _ => if in2 a b = true then 2 else 0 | [] => 0)
    else if szN a = 3 then (match r with | b :: c :: _ => if in2 a b = true ∧ ct c = true then 3 else 0 | _ => 0)
    else if szN a = 4 then (match r with | b :: c :: d :: _ => if in2 a b = true ∧ ct c = true ∧ ct d = true then 4 else 0 | _ => 0)
    else 0
theorem vu_rune {a : UInt8} {r : Bs} : vu (a :: r) = (decide (runeN (a :: r) ≠ 0) && vu ((a :: r).drop (runeN (a :: r)))) := by
  rw [vu_cons]
  simp only [runeN]
  by_cases h1 : szN a = 1
  · simp [h1]
  by_cases h2 : szN a = 2
  · cases r with
    | nil => simp [h2]
    | cons b r => cases hb : in2 a b <;> simp [h2, hb]
  by_cases h3 : szN a = 3
  · match r with
    | [] => simp [h3]
    | [b] => simp [h3]
    | b :: c :: r => cases hb : in2 a b <;> cases hc : ct c <;> simp [h3, hb, hc]
  by_cases h4 : szN a = 4
  · match r with
    | [] => simp [h4]
    | [b] => simp [h4]
    | [b, c] => simp [h4]
    | b :: c :: d :: r => cases hb : in2 a b <;> cases hc : ct c <;> cases hd : ct d <;> simp [h4, hb, hc, hd]
  simp [h1, h2, h3, h4]
theorem shl6 {x : Nat} (h : x < 1099511627776) : shiftInt .shl .i64 (x : Int) 6 = some (.int .i64 ((x * 64 : Nat) : Int)) := by
  simp [shiftInt, IntKind.wrap, IntKind.bits, IntKind.signed]
  omega
theorem or64 {x y : Nat} (h : x < 1099511627776) (hy : y < 64) : IntKind.wrap .i64 ((BitVec.ofInt IntKind.i64.bits ((x * 64 : Nat) : Int) ||| BitVec.ofInt IntKind.i64.bits ((y : Nat) : Int)).toNat : Int) = ((x * 64 + y : Nat) : Int) := by
  have e : (BitVec.ofInt 64 ((x * 64 : Nat) : Int) ||| BitVec.ofInt 64 (y : Int)).toNat = x * 64 + y := by
    rw [BitVec.toNat_or, BitVec.ofInt_natCast, BitVec.ofInt_natCast, BitVec.toNat_ofNat, BitVec.toNat_ofNat, Nat.mod_eq_of_lt (by omega), Nat.mod_eq_of_lt (by omega)]
    have := Nat.shiftLeft_add_eq_or_of_lt (i := 6) (b := y) (by omega) x
    rw [Nat.shiftLeft_eq, show 2 ^ 6 = 64 from rfl] at this
    omega
  show IntKind.wrap .i64 ((BitVec.ofInt 64 ((x * 64 : Nat) : Int) ||| BitVec.ofInt 64 (y : Int)).toNat : Int) = _
  rw [e]
  simp [IntKind.wrap, IntKind.bits, IntKind.signed]
  omega
def m63 (b : UInt8) : Nat := (b &&& 63).toNat
theorem m63_eq (b : UInt8) : IntKind.wrap .u8 ((BitVec.ofInt IntKind.u8.bits (b.toNat : Int) &&& BitVec.ofInt IntKind.u8.bits 63).toNat : Int) = (m63 b : Int) :=
  u8_all (P := fun b => IntKind.wrap .u8 ((BitVec.ofInt IntKind.u8.bits (b.toNat : Int) &&& BitVec.ofInt IntKind.u8.bits 63).toNat : Int) = (m63 b : Int)) (by decide +kernel) b
theorem m63_lt (b : UInt8) : m63 b < 64 := u8_all (P := fun b => m63 b < 64) (by decide +kernel) b
theorem m63_ct (b : UInt8) : ct b = true → m63 b + 128 = b.toNat ∧ 128 ≤ b.toNat ∧ b.toNat < 192 := u8_all (P := fun b => ct b = true → m63 b + 128 = b.toNat ∧ 128 ≤ b.toNat ∧ b.toNat < 192) (by decide +kernel) b
theorem m192 (b : UInt8) : (IntKind.wrap .u8 ((BitVec.ofInt IntKind.u8.bits (b.toNat : Int) &&& BitVec.ofInt IntKind.u8.bits 192).toNat : Int) != 128) = !ct b :=
  u8_all (P := fun b => (IntKind.wrap .u8 ((BitVec.ofInt IntKind.u8.bits (b.toNat : Int) &&& BitVec.ofInt IntKind.u8.bits 192).toNat : Int) != 128) = !ct b) (by decide +kernel) b
theorem wi64 (a : UInt8) : IntKind.wrap .i64 (a.toNat : Int) = (a.toNat : Int) := by
  have := a.toNat_lt
  simp [IntKind.wrap, IntKind.bits, IntKind.signed]; omega
theorem wm63 (b : UInt8) : IntKind.wrap .i64 (m63 b : Int) = (m63 b : Int) := by
  have := m63_lt b
  simp [IntKind.wrap, IntKind.bits, IntKind.signed]; omega
theorem and31 (a : UInt8) : szN a = 2 → IntKind.wrap .i64 ((BitVec.ofInt IntKind.i64.bits (a.toNat : Int) &&& BitVec.ofInt IntKind.i64.bits 31).toNat : Int) = ((a.toNat - 192 : Nat) : Int) :=
  u8_all (P := fun a => szN a = 2 → IntKind.wrap .i64 ((BitVec.ofInt IntKind.i64.bits (a.toNat : Int) &&& BitVec.ofInt IntKind.i64.bits 31).toNat : Int) = ((a.toNat - 192 : Nat) : Int)) (by decide +kernel) a
theorem and15 (a : UInt8) : szN a = 3 → IntKind.wrap .i64 ((BitVec.ofInt IntKind.i64.bits (a.toNat : Int) &&& BitVec.ofInt IntKind.i64.bits 15).toNat : Int) = ((a.toNat - 224 : Nat) : Int) :=
  u8_all (P := fun a => szN a = 3 → IntKind.wrap .i64 ((BitVec.ofInt IntKind.i64.bits (a.toNat : Int) &&& BitVec.ofInt IntKind.i64.bits 15).toNat : Int) = ((a.toNat - 224 : Nat) : Int)) (by decide +kernel) a
theorem and7 (a : UInt8) : szN a = 4 → IntKind.wrap .i64 ((BitVec.ofInt IntKind.i64.bits (a.toNat : Int) &&& BitVec.ofInt IntKind.i64.bits 7).toNat : Int) = ((a.toNat - 240 : Nat) : Int) :=
  u8_all (P := fun a => szN a = 4 → IntKind.wrap .i64 ((BitVec.ofInt IntKind.i64.bits (a.toNat : Int) &&& BitVec.ofInt IntKind.i64.bits 7).toNat : Int) = ((a.toNat - 240 : Nat) : Int)) (by decide +kernel) a
/-- What the lead byte says, in numbers. -/
theorem lead (a : UInt8) : (szN a = 1 ↔ a.toNat < 128) ∧ (szN a = 2 ↔ 194 ≤ a.toNat ∧ a.toNat < 224) ∧ (szN a = 3 ↔ 224 ≤ a.toNat ∧ a.toNat < 240) ∧ (szN a = 4 ↔ 240 ≤ a.toNat ∧ a.toNat < 245) :=
  u8_all (P := fun a => (szN a = 1 ↔ a.toNat < 128) ∧ (szN a = 2 ↔ 194 ≤ a.toNat ∧ a.toNat < 224) ∧ (szN a = 3 ↔ 224 ≤ a.toNat ∧ a.toNat < 240) ∧ (szN a = 4 ↔ 240 ≤ a.toNat ∧ a.toNat < 245)) (by decide +kernel) a
theorem lohi (a : UInt8) : ((loN a).toNat = if a.toNat = 224 then 160 else if a.toNat = 240 then 144 else 128) ∧ ((hiN a).toNat = if a.toNat = 237 then 159 else if a.toNat = 244 then 143 else 191) :=
  u8_all (P := fun a => ((loN a).toNat = if a.toNat = 224 then 160 else if a.toNat = 240 then 144 else 128) ∧ ((hiN a).toNat = if a.toNat = 237 then 159 else if a.toNat = 244 then 143 else 191)) (by decide +kernel) a
theorem in2_iff (a b : UInt8) : in2 a b = true ↔ (loN a).toNat ≤ b.toNat ∧ b.toNat ≤ (hiN a).toNat := by
  unfold in2
  simp [UInt8.le_iff_toNat_le]
theorem ct_iff (b : UInt8) : ct b = true ↔ 128 ≤ b.toNat ∧ b.toNat ≤ 191 := by
  unfold ct
  simp [UInt8.le_iff_toNat_le]
theorem in2_ct {a b : UInt8} (h : in2 a b = true) : ct b = true := by
  rw [in2_iff] at h
  rw [ct_iff]
  obtain ⟨h1, h2⟩ := lohi a
  rw [h1, h2] at h
  split at h <;> split at h <;> (try split at h) <;> (try split at h) <;> omega
theorem w11 : IntKind.wrap .i64 (1 + 1) = 2 := by decide
theorem w21 : IntKind.wrap .i64 (2 + 1) = 3 := by decide
theorem w31 : IntKind.wrap .i64 (3 + 1) = 4 := by decide
theorem runeN_cons (a : UInt8) (r : Bs) : runeN (a :: r) =
    if szN a = 1 then 1
    else if szN a = 2 then (match r with | b :: _ => if in2 a b = true then 2 else 0 | [] => 0)
    else if szN a = 3 then (match r with | b :: c :: _ => if in2 a b = true ∧ ct c = true then 3 else 0 | _ => 0)
    else if szN a = 4 then (match r with | b :: c :: d :: _ => if in2 a b = true ∧ ct c = true ∧ ct d = true then 4 else 0 | _ => 0)
    else 0 := by rw [runeN.eq_def]; rfl
set_option maxHeartbeats 4000000 in
theorem r_rune2 (a : UInt8) (r : Bs) (c2 : szN a = 2) : ∃ c : Int, cR 111 [.str (a :: r)] = some (.tup [.int .i64 c, .int .i64 (runeN (a :: r) : Nat)]) := by
      have hl : (((r.length + 1 : Nat) : Int) == 0) = false := by
        rw [beq_eq_false_iff_ne]; omega
      have ha : byteAt (.str (a :: r)) (.int .i64 0) = some (.int .u8 a.toNat) := rfl
      obtain ⟨z1, z2, z3, z4⟩ := lead a
      have hlt := a.toNat_lt
      have hz := z2.1 c2
      have k1 : decide ((a.toNat : Int) < 128) = false := by simp; omega
      have p2 : decide ((a.toNat : Int) ≥ 194) = true := by simp; omega
      have q2 : decide ((a.toNat : Int) < 224) = true := by simp; omega
      by_cases hn : r.length < 1
      · have dn : decide (((r.length + 1 : Nat) : Int) < 2) = true := by simp; omega
        have e : runeN (a :: r) = 0 := by
          rw [runeN_cons]
          rw [if_neg (by rw [c2]; decide)]
          rw [if_pos c2]
          split
          · exact absurd hn (by simp)
          · rfl
        refine ⟨0, cR_of (F := F111) rfl ?_⟩
        simp only [T4Fa, ex_loop, ex_inLoop, EXA, Nat.reduceEqDiff, reduceIte, reduceCtorEq, Nat.reduceAdd, Nat.reduceLeDiff, Nat.reduceSub, Nat.reduceMul, Int.reduceEq, Int.reduceBEq, Int.reduceBNe, Int.reduceLT, Int.reduceLE, Nat.reduceLT, hl, ha, wi64, k1, p2, q2, and31 a c2, dn, e]
        rfl
      obtain ⟨b1, rr, hr⟩ : ∃ b1 rr, r = b1 :: rr := by
        match r, hn with
        | b1 :: rr, _ => exact ⟨b1, rr, rfl⟩
        | [], hn => exact absurd (by simp) hn
      have dn : decide (((r.length + 1 : Nat) : Int) < 2) = false := by simp; omega
      have er : runeN (a :: r) = (if in2 a b1 = true then 2 else 0) := by
        rw [hr, runeN_cons]
        rw [if_neg (by rw [c2]; decide)]
        rw [if_pos c2]
      have y1 : byteAt (.str (a :: r)) (.int .i64 1) = some (.int .u8 b1.toNat) := by rw [hr]; rfl
      have hm1 := m63_lt b1
      have hx1 := or64 (x := (a.toNat - 192)) (y := m63 b1) (by omega) hm1
      have hs1 := shl6 (x := (a.toNat - 192)) (by omega)
      obtain ⟨X1, hX1⟩ : ∃ X : Nat, X = (a.toNat - 192) * 64 + m63 b1 := ⟨_, rfl⟩
      rw [← hX1] at hx1
      by_cases hc1 : ct b1 = true
      case neg =>
        have hn1 : (!ct b1) = true := by simp [hc1]
        have e : runeN (a :: r) = 0 := by
          rw [er, if_neg]; intro h; exact hc1 (in2_ct h)
        refine ⟨0, cR_of (F := F111) rfl ?_⟩
        simp only [T4Fa, ex_loop, ex_inLoop, EXA, Nat.reduceEqDiff, reduceIte, reduceCtorEq, Nat.reduceAdd, Nat.reduceLeDiff, Nat.reduceSub, Nat.reduceMul, Int.reduceEq, Int.reduceBEq, Int.reduceBNe, Int.reduceLT, Int.reduceLE, Nat.reduceLT, hl, ha, wi64, k1, p2, q2, and31 a c2, dn, m192, m63_eq, wm63, w11, w21, w31, y1, hn1, e]
        rfl
      have hn1 : (!ct b1) = false := by simp [hc1]
      obtain ⟨g1a, g1b, g1c⟩ := m63_ct b1 hc1
      obtain ⟨hlo, hhi⟩ := lohi a
      have hin := in2_iff a b1
      by_cases hi2 : in2 a b1 = true
      · have e : runeN (a :: r) = 2 := by rw [er, if_pos]; exact hi2
        rw [hi2] at hin
        have hin2 := hin.1 rfl
        rw [hlo, hhi] at hin2
        have hin3 : (a.toNat = 224 → 160 ≤ b1.toNat) ∧ (a.toNat = 237 → b1.toNat ≤ 159) ∧ (a.toNat = 240 → 144 ≤ b1.toNat) ∧ (a.toNat = 244 → b1.toNat ≤ 143) := by
          refine ⟨fun h => ?_, fun h => ?_, fun h => ?_, fun h => ?_⟩ <;> simp only [h] at hin2 <;> simp at hin2 <;> omega
        clear hin2
        have t1 : decide (((X1 : Nat) : Int) < 128) = false := by simp; omega
        have t2 : decide (1114111 < ((X1 : Nat) : Int)) = false := by simp; omega
        have t3 : decide (((X1 : Nat) : Int) ≥ 55296) = false := by simp; omega
        refine ⟨((X1 : Nat) : Int), cR_of (F := F111) rfl ?_⟩
        simp only [T4Fa, ex_loop, ex_inLoop, EXA, Nat.reduceEqDiff, reduceIte, reduceCtorEq, Nat.reduceAdd, Nat.reduceLeDiff, Nat.reduceSub, Nat.reduceMul, Int.reduceEq, Int.reduceBEq, Int.reduceBNe, Int.reduceLT, Int.reduceLE, Nat.reduceLT, hl, ha, wi64, k1, p2, q2, and31 a c2, dn, m192, m63_eq, wm63, w11, w21, w31, y1, hn1, hs1, hx1, e, t1, t2, t3]
        rfl
      · have e : runeN (a :: r) = 0 := by rw [er, if_neg]; intro h; exact hi2 h
        have hout : ¬ ((loN a).toNat ≤ b1.toNat ∧ b1.toNat ≤ (hiN a).toNat) := fun h => hi2 (hin.2 h)
        rw [hlo, hhi] at hout
        have hout3 : (a.toNat = 224 ∧ b1.toNat < 160) ∨ (a.toNat = 237 ∧ 159 < b1.toNat) ∨ (a.toNat = 240 ∧ b1.toNat < 144) ∨ (a.toNat = 244 ∧ 143 < b1.toNat) := by
          split at hout <;> (try split at hout) <;> (try split at hout) <;> (try split at hout) <;> omega
        clear hout
        omega
set_option maxHeartbeats 4000000 in
theorem r_rune3 (a : UInt8) (r : Bs) (c3 : szN a = 3) : ∃ c : Int, cR 111 [.str (a :: r)] = some (.tup [.int .i64 c, .int .i64 (runeN (a :: r) : Nat)]) := by
      have hl : (((r.length + 1 : Nat) : Int) == 0) = false := by
        rw [beq_eq_false_iff_ne]; omega
      have ha : byteAt (.str (a :: r)) (.int .i64 0) = some (.int .u8 a.toNat) := rfl
      obtain ⟨z1, z2, z3, z4⟩ := lead a
      have hlt := a.toNat_lt
      have hz := z3.1 c3
      have k1 : decide ((a.toNat : Int) < 128) = false := by simp; omega
      have p2 : decide ((a.toNat : Int) ≥ 194) = true := by simp; omega
      have q2 : decide ((a.toNat : Int) < 224) = false := by simp; omega
      have p3 : decide ((a.toNat : Int) ≥ 224) = true := by simp; omega
      have q3 : decide ((a.toNat : Int) < 240) = true := by simp; omega
      by_cases hn : r.length < 2
      · have dn : decide (((r.length + 1 : Nat) : Int) < 3) = true := by simp; omega
        have e : runeN (a :: r) = 0 := by
          rw [runeN_cons]
          rw [if_neg (by rw [c3]; decide)]
          rw [if_neg (by rw [c3]; decide)]
          rw [if_pos c3]
          split
          · exact absurd hn (by simp)
          · rfl
        refine ⟨0, cR_of (F := F111) rfl ?_⟩
        simp only [T4Fa, ex_loop, ex_inLoop, EXA, Nat.reduceEqDiff, reduceIte, reduceCtorEq, Nat.reduceAdd, Nat.reduceLeDiff, Nat.reduceSub, Nat.reduceMul, Int.reduceEq, Int.reduceBEq, Int.reduceBNe, Int.reduceLT, Int.reduceLE, Nat.reduceLT, hl, ha, wi64, k1, p2, q2, p3, q3, and15 a c3, dn, e]
        rfl
      obtain ⟨b1, b2, rr, hr⟩ : ∃ b1 b2 rr, r = b1 :: b2 :: rr := by
        match r, hn with
        | b1 :: b2 :: rr, _ => exact ⟨b1, b2, rr, rfl⟩
        | [b1], hn => exact absurd (by simp) hn
        | [], hn => exact absurd (by simp) hn
      have dn : decide (((r.length + 1 : Nat) : Int) < 3) = false := by simp; omega
      have er : runeN (a :: r) = (if in2 a b1 = true ∧ ct b2 = true then 3 else 0) := by
        rw [hr, runeN_cons]
        rw [if_neg (by rw [c3]; decide)]
        rw [if_neg (by rw [c3]; decide)]
        rw [if_pos c3]
      have y1 : byteAt (.str (a :: r)) (.int .i64 1) = some (.int .u8 b1.toNat) := by rw [hr]; rfl
      have hm1 := m63_lt b1
      have hx1 := or64 (x := (a.toNat - 224)) (y := m63 b1) (by omega) hm1
      have hs1 := shl6 (x := (a.toNat - 224)) (by omega)
      obtain ⟨X1, hX1⟩ : ∃ X : Nat, X = (a.toNat - 224) * 64 + m63 b1 := ⟨_, rfl⟩
      rw [← hX1] at hx1
      have y2 : byteAt (.str (a :: r)) (.int .i64 2) = some (.int .u8 b2.toNat) := by rw [hr]; rfl
      have hm2 := m63_lt b2
      have hx2 := or64 (x := X1) (y := m63 b2) (by omega) hm2
      have hs2 := shl6 (x := X1) (by omega)
      obtain ⟨X2, hX2⟩ : ∃ X : Nat, X = X1 * 64 + m63 b2 := ⟨_, rfl⟩
      rw [← hX2] at hx2
      by_cases hc1 : ct b1 = true
      case neg =>
        have hn1 : (!ct b1) = true := by simp [hc1]
        have e : runeN (a :: r) = 0 := by
          rw [er, if_neg]; intro h; exact hc1 (in2_ct h.1)
        refine ⟨0, cR_of (F := F111) rfl ?_⟩
        simp only [T4Fa, ex_loop, ex_inLoop, EXA, Nat.reduceEqDiff, reduceIte, reduceCtorEq, Nat.reduceAdd, Nat.reduceLeDiff, Nat.reduceSub, Nat.reduceMul, Int.reduceEq, Int.reduceBEq, Int.reduceBNe, Int.reduceLT, Int.reduceLE, Nat.reduceLT, hl, ha, wi64, k1, p2, q2, p3, q3, and15 a c3, dn, m192, m63_eq, wm63, w11, w21, w31, y1, hn1, e]
        rfl
      have hn1 : (!ct b1) = false := by simp [hc1]
      obtain ⟨g1a, g1b, g1c⟩ := m63_ct b1 hc1
      by_cases hc2 : ct b2 = true
      case neg =>
        have hn2 : (!ct b2) = true := by simp [hc2]
        have e : runeN (a :: r) = 0 := by
          rw [er, if_neg]; intro h; exact hc2 h.2
        refine ⟨0, cR_of (F := F111) rfl ?_⟩
        simp only [T4Fa, ex_loop, ex_inLoop, EXA, Nat.reduceEqDiff, reduceIte, reduceCtorEq, Nat.reduceAdd, Nat.reduceLeDiff, Nat.reduceSub, Nat.reduceMul, Int.reduceEq, Int.reduceBEq, Int.reduceBNe, Int.reduceLT, Int.reduceLE, Nat.reduceLT, hl, ha, wi64, k1, p2, q2, p3, q3, and15 a c3, dn, m192, m63_eq, wm63, w11, w21, w31, y1, hn1, hs1, hx1, y2, hn2, e]
        rfl
      have hn2 : (!ct b2) = false := by simp [hc2]
      obtain ⟨g2a, g2b, g2c⟩ := m63_ct b2 hc2
      obtain ⟨hlo, hhi⟩ := lohi a
      have hin := in2_iff a b1
      by_cases hi2 : in2 a b1 = true
      · have e : runeN (a :: r) = 3 := by rw [er, if_pos]; exact ⟨hi2, hc2⟩
        rw [hi2] at hin
        have hin2 := hin.1 rfl
        rw [hlo, hhi] at hin2
        have hin3 : (a.toNat = 224 → 160 ≤ b1.toNat) ∧ (a.toNat = 237 → b1.toNat ≤ 159) ∧ (a.toNat = 240 → 144 ≤ b1.toNat) ∧ (a.toNat = 244 → b1.toNat ≤ 143) := by
          refine ⟨fun h => ?_, fun h => ?_, fun h => ?_, fun h => ?_⟩ <;> simp only [h] at hin2 <;> simp at hin2 <;> omega
        clear hin2
        by_cases h5 : X2 < 55296
        · skip
          have t1 : decide (((X2 : Nat) : Int) < 2048) = false := by simp; omega
          have t2 : decide (1114111 < ((X2 : Nat) : Int)) = false := by simp; omega
          have t3 : decide (((X2 : Nat) : Int) ≥ 55296) = false := by simp; omega
          refine ⟨((X2 : Nat) : Int), cR_of (F := F111) rfl ?_⟩
          simp only [T4Fa, ex_loop, ex_inLoop, EXA, Nat.reduceEqDiff, reduceIte, reduceCtorEq, Nat.reduceAdd, Nat.reduceLeDiff, Nat.reduceSub, Nat.reduceMul, Int.reduceEq, Int.reduceBEq, Int.reduceBNe, Int.reduceLT, Int.reduceLE, Nat.reduceLT, hl, ha, wi64, k1, p2, q2, p3, q3, and15 a c3, dn, m192, m63_eq, wm63, w11, w21, w31, y1, hn1, hs1, hx1, y2, hn2, hs2, hx2, e, t1, t2, t3]
          rfl
        · skip
          have t1 : decide (((X2 : Nat) : Int) < 2048) = false := by simp; omega
          have t2 : decide (1114111 < ((X2 : Nat) : Int)) = false := by simp; omega
          have t3 : decide (((X2 : Nat) : Int) ≥ 55296) = true := by simp; omega
          have t4 : decide (((X2 : Nat) : Int) < 57344) = false := by simp; omega
          refine ⟨((X2 : Nat) : Int), cR_of (F := F111) rfl ?_⟩
          simp only [T4Fa, ex_loop, ex_inLoop, EXA, Nat.reduceEqDiff, reduceIte, reduceCtorEq, Nat.reduceAdd, Nat.reduceLeDiff, Nat.reduceSub, Nat.reduceMul, Int.reduceEq, Int.reduceBEq, Int.reduceBNe, Int.reduceLT, Int.reduceLE, Nat.reduceLT, hl, ha, wi64, k1, p2, q2, p3, q3, and15 a c3, dn, m192, m63_eq, wm63, w11, w21, w31, y1, hn1, hs1, hx1, y2, hn2, hs2, hx2, e, t1, t2, t3, t4]
          rfl
      · have e : runeN (a :: r) = 0 := by rw [er, if_neg]; intro h; exact hi2 h.1
        have hout : ¬ ((loN a).toNat ≤ b1.toNat ∧ b1.toNat ≤ (hiN a).toNat) := fun h => hi2 (hin.2 h)
        rw [hlo, hhi] at hout
        have hout3 : (a.toNat = 224 ∧ b1.toNat < 160) ∨ (a.toNat = 237 ∧ 159 < b1.toNat) ∨ (a.toNat = 240 ∧ b1.toNat < 144) ∨ (a.toNat = 244 ∧ 143 < b1.toNat) := by
          split at hout <;> (try split at hout) <;> (try split at hout) <;> (try split at hout) <;> omega
        clear hout
        by_cases h5 : a.toNat = 224
        · skip
          have t1 : decide (((X2 : Nat) : Int) < 2048) = true := by simp; omega
          refine ⟨0, cR_of (F := F111) rfl ?_⟩
          simp only [T4Fa, ex_loop, ex_inLoop, EXA, Nat.reduceEqDiff, reduceIte, reduceCtorEq, Nat.reduceAdd, Nat.reduceLeDiff, Nat.reduceSub, Nat.reduceMul, Int.reduceEq, Int.reduceBEq, Int.reduceBNe, Int.reduceLT, Int.reduceLE, Nat.reduceLT, hl, ha, wi64, k1, p2, q2, p3, q3, and15 a c3, dn, m192, m63_eq, wm63, w11, w21, w31, y1, hn1, hs1, hx1, y2, hn2, hs2, hx2, e, t1]
          rfl
        · skip
          have t1 : decide (((X2 : Nat) : Int) < 2048) = false := by simp; omega
          have t2 : decide (1114111 < ((X2 : Nat) : Int)) = false := by simp; omega
          have t3 : decide (((X2 : Nat) : Int) ≥ 55296) = true := by simp; omega
          have t4 : decide (((X2 : Nat) : Int) < 57344) = true := by simp; omega
          refine ⟨0, cR_of (F := F111) rfl ?_⟩
          simp only [T4Fa, ex_loop, ex_inLoop, EXA, Nat.reduceEqDiff, reduceIte, reduceCtorEq, Nat.reduceAdd, Nat.reduceLeDiff, Nat.reduceSub, Nat.reduceMul, Int.reduceEq, Int.reduceBEq, Int.reduceBNe, Int.reduceLT, Int.reduceLE, Nat.reduceLT, hl, ha, wi64, k1, p2, q2, p3, q3, and15 a c3, dn, m192, m63_eq, wm63, w11, w21, w31, y1, hn1, hs1, hx1, y2, hn2, hs2, hx2, e, t1, t2, t3, t4]
          rfl
set_option maxHeartbeats 4000000 in
theorem r_rune4 (a : UInt8) (r : Bs) (c4 : szN a = 4) : ∃ c : Int, cR 111 [.str (a :: r)] = some (.tup [.int .i64 c, .int .i64 (runeN (a :: r) : Nat)]) := by
      have hl : (((r.length + 1 : Nat) : Int) == 0) = false := by
        rw [beq_eq_false_iff_ne]; omega
      have ha : byteAt (.str (a :: r)) (.int .i64 0) = some (.int .u8 a.toNat) := rfl
      obtain ⟨z1, z2, z3, z4⟩ := lead a
      have hlt := a.toNat_lt
      have hz := z4.1 c4
      have k1 : decide ((a.toNat : Int) < 128) = false := by simp; omega
      have p2 : decide ((a.toNat : Int) ≥ 194) = true := by simp; omega
      have q2 : decide ((a.toNat : Int) < 224) = false := by simp; omega
      have p3 : decide ((a.toNat : Int) ≥ 224) = true := by simp; omega
      have q3 : decide ((a.toNat : Int) < 240) = false := by simp; omega
      have p4 : decide ((a.toNat : Int) ≥ 240) = true := by simp; omega
      have q4 : decide ((a.toNat : Int) < 245) = true := by simp; omega
      by_cases hn : r.length < 3
      · have dn : decide (((r.length + 1 : Nat) : Int) < 4) = true := by simp; omega
        have e : runeN (a :: r) = 0 := by
          rw [runeN_cons]
          rw [if_neg (by rw [c4]; decide)]
          rw [if_neg (by rw [c4]; decide)]
          rw [if_neg (by rw [c4]; decide)]
          rw [if_pos c4]
          split
          · exact absurd hn (by simp)
          · rfl
        refine ⟨0, cR_of (F := F111) rfl ?_⟩
        simp only [T4Fa, ex_loop, ex_inLoop, EXA, Nat.reduceEqDiff, reduceIte, reduceCtorEq, Nat.reduceAdd, Nat.reduceLeDiff, Nat.reduceSub, Nat.reduceMul, Int.reduceEq, Int.reduceBEq, Int.reduceBNe, Int.reduceLT, Int.reduceLE, Nat.reduceLT, hl, ha, wi64, k1, p2, q2, p3, q3, p4, q4, and7 a c4, dn, e]
        rfl
      obtain ⟨b1, b2, b3, rr, hr⟩ : ∃ b1 b2 b3 rr, r = b1 :: b2 :: b3 :: rr := by
        match r, hn with
        | b1 :: b2 :: b3 :: rr, _ => exact ⟨b1, b2, b3, rr, rfl⟩
        | [b1], hn => exact absurd (by simp) hn
        | [b1, b2], hn => exact absurd (by simp) hn
        | [], hn => exact absurd (by simp) hn
      have dn : decide (((r.length + 1 : Nat) : Int) < 4) = false := by simp; omega
      have er : runeN (a :: r) = (if in2 a b1 = true ∧ ct b2 = true ∧ ct b3 = true then 4 else 0) := by
        rw [hr, runeN_cons]
        rw [if_neg (by rw [c4]; decide)]
        rw [if_neg (by rw [c4]; decide)]
        rw [if_neg (by rw [c4]; decide)]
        rw [if_pos c4]
      have y1 : byteAt (.str (a :: r)) (.int .i64 1) = some (.int .u8 b1.toNat) := by rw [hr]; rfl
      have hm1 := m63_lt b1
      have hx1 := or64 (x := (a.toNat - 240)) (y := m63 b1) (by omega) hm1
      have hs1 := shl6 (x := (a.toNat - 240)) (by omega)
      obtain ⟨X1, hX1⟩ : ∃ X : Nat, X = (a.toNat - 240) * 64 + m63 b1 := ⟨_, rfl⟩
      rw [← hX1] at hx1
      have y2 : byteAt (.str (a :: r)) (.int .i64 2) = some (.int .u8 b2.toNat) := by rw [hr]; rfl
      have hm2 := m63_lt b2
      have hx2 := or64 (x := X1) (y := m63 b2) (by omega) hm2
      have hs2 := shl6 (x := X1) (by omega)
      obtain ⟨X2, hX2⟩ : ∃ X : Nat, X = X1 * 64 + m63 b2 := ⟨_, rfl⟩
      rw [← hX2] at hx2
      have y3 : byteAt (.str (a :: r)) (.int .i64 3) = some (.int .u8 b3.toNat) := by rw [hr]; rfl
      have hm3 := m63_lt b3
      have hx3 := or64 (x := X2) (y := m63 b3) (by omega) hm3
      have hs3 := shl6 (x := X2) (by omega)
      obtain ⟨X3, hX3⟩ : ∃ X : Nat, X = X2 * 64 + m63 b3 := ⟨_, rfl⟩
      rw [← hX3] at hx3
      by_cases hc1 : ct b1 = true
      case neg =>
        have hn1 : (!ct b1) = true := by simp [hc1]
        have e : runeN (a :: r) = 0 := by
          rw [er, if_neg]; intro h; exact hc1 (in2_ct h.1)
        refine ⟨0, cR_of (F := F111) rfl ?_⟩
        simp only [T4Fa, ex_loop, ex_inLoop, EXA, Nat.reduceEqDiff, reduceIte, reduceCtorEq, Nat.reduceAdd, Nat.reduceLeDiff, Nat.reduceSub, Nat.reduceMul, Int.reduceEq, Int.reduceBEq, Int.reduceBNe, Int.reduceLT, Int.reduceLE, Nat.reduceLT, hl, ha, wi64, k1, p2, q2, p3, q3, p4, q4, and7 a c4, dn, m192, m63_eq, wm63, w11, w21, w31, y1, hn1, e]
        rfl
      have hn1 : (!ct b1) = false := by simp [hc1]
      obtain ⟨g1a, g1b, g1c⟩ := m63_ct b1 hc1
      by_cases hc2 : ct b2 = true
      case neg =>
        have hn2 : (!ct b2) = true := by simp [hc2]
        have e : runeN (a :: r) = 0 := by
          rw [er, if_neg]; intro h; exact hc2 h.2.1
        refine ⟨0, cR_of (F := F111) rfl ?_⟩
        simp only [T4Fa, ex_loop, ex_inLoop, EXA, Nat.reduceEqDiff, reduceIte, reduceCtorEq, Nat.reduceAdd, Nat.reduceLeDiff, Nat.reduceSub, Nat.reduceMul, Int.reduceEq, Int.reduceBEq, Int.reduceBNe, Int.reduceLT, Int.reduceLE, Nat.reduceLT, hl, ha, wi64, k1, p2, q2, p3, q3, p4, q4, and7 a c4, dn, m192, m63_eq, wm63, w11, w21, w31, y1, hn1, hs1, hx1, y2, hn2, e]
        rfl
      have hn2 : (!ct b2) = false := by simp [hc2]
      obtain ⟨g2a, g2b, g2c⟩ := m63_ct b2 hc2
      by_cases hc3 : ct b3 = true
      case neg =>
        have hn3 : (!ct b3) = true := by simp [hc3]
        have e : runeN (a :: r) = 0 := by
          rw [er, if_neg]; intro h; exact hc3 h.2.2
        refine ⟨0, cR_of (F := F111) rfl ?_⟩
        simp only [T4Fa, ex_loop, ex_inLoop, EXA, Nat.reduceEqDiff, reduceIte, reduceCtorEq, Nat.reduceAdd, Nat.reduceLeDiff, Nat.reduceSub, Nat.reduceMul, Int.reduceEq, Int.reduceBEq, Int.reduceBNe, Int.reduceLT, Int.reduceLE, Nat.reduceLT, hl, ha, wi64, k1, p2, q2, p3, q3, p4, q4, and7 a c4, dn, m192, m63_eq, wm63, w11, w21, w31, y1, hn1, hs1, hx1, y2, hn2, hs2, hx2, y3, hn3, e]
        rfl
      have hn3 : (!ct b3) = false := by simp [hc3]
      obtain ⟨g3a, g3b, g3c⟩ := m63_ct b3 hc3
      obtain ⟨hlo, hhi⟩ := lohi a
      have hin := in2_iff a b1
      by_cases hi2 : in2 a b1 = true
      · have e : runeN (a :: r) = 4 := by rw [er, if_pos]; exact ⟨hi2, hc2, hc3⟩
        rw [hi2] at hin
        have hin2 := hin.1 rfl
        rw [hlo, hhi] at hin2
        have hin3 : (a.toNat = 224 → 160 ≤ b1.toNat) ∧ (a.toNat = 237 → b1.toNat ≤ 159) ∧ (a.toNat = 240 → 144 ≤ b1.toNat) ∧ (a.toNat = 244 → b1.toNat ≤ 143) := by
          refine ⟨fun h => ?_, fun h => ?_, fun h => ?_, fun h => ?_⟩ <;> simp only [h] at hin2 <;> simp at hin2 <;> omega
        clear hin2
        have t1 : decide (((X3 : Nat) : Int) < 65536) = false := by simp; omega
        have t2 : decide (1114111 < ((X3 : Nat) : Int)) = false := by simp; omega
        have t3 : decide (((X3 : Nat) : Int) ≥ 55296) = true := by simp; omega
        have t4 : decide (((X3 : Nat) : Int) < 57344) = false := by simp; omega
        refine ⟨((X3 : Nat) : Int), cR_of (F := F111) rfl ?_⟩
        simp only [T4Fa, ex_loop, ex_inLoop, EXA, Nat.reduceEqDiff, reduceIte, reduceCtorEq, Nat.reduceAdd, Nat.reduceLeDiff, Nat.reduceSub, Nat.reduceMul, Int.reduceEq, Int.reduceBEq, Int.reduceBNe, Int.reduceLT, Int.reduceLE, Nat.reduceLT, hl, ha, wi64, k1, p2, q2, p3, q3, p4, q4, and7 a c4, dn, m192, m63_eq, wm63, w11, w21, w31, y1, hn1, hs1, hx1, y2, hn2, hs2, hx2, y3, hn3, hs3, hx3, e, t1, t2, t3, t4]
        rfl
      · have e : runeN (a :: r) = 0 := by rw [er, if_neg]; intro h; exact hi2 h.1
        have hout : ¬ ((loN a).toNat ≤ b1.toNat ∧ b1.toNat ≤ (hiN a).toNat) := fun h => hi2 (hin.2 h)
        rw [hlo, hhi] at hout
        have hout3 : (a.toNat = 224 ∧ b1.toNat < 160) ∨ (a.toNat = 237 ∧ 159 < b1.toNat) ∨ (a.toNat = 240 ∧ b1.toNat < 144) ∨ (a.toNat = 244 ∧ 143 < b1.toNat) := by
          split at hout <;> (try split at hout) <;> (try split at hout) <;> (try split at hout) <;> omega
        clear hout
        by_cases h5 : a.toNat = 240
        · skip
          have t1 : decide (((X3 : Nat) : Int) < 65536) = true := by simp; omega
          refine ⟨0, cR_of (F := F111) rfl ?_⟩
          simp only [T4Fa, ex_loop, ex_inLoop, EXA, Nat.reduceEqDiff, reduceIte, reduceCtorEq, Nat.reduceAdd, Nat.reduceLeDiff, Nat.reduceSub, Nat.reduceMul, Int.reduceEq, Int.reduceBEq, Int.reduceBNe, Int.reduceLT, Int.reduceLE, Nat.reduceLT, hl, ha, wi64, k1, p2, q2, p3, q3, p4, q4, and7 a c4, dn, m192, m63_eq, wm63, w11, w21, w31, y1, hn1, hs1, hx1, y2, hn2, hs2, hx2, y3, hn3, hs3, hx3, e, t1]
          rfl
        · skip
          have t1 : decide (((X3 : Nat) : Int) < 65536) = false := by simp; omega
          have t2 : decide (1114111 < ((X3 : Nat) : Int)) = true := by simp; omega
          refine ⟨0, cR_of (F := F111) rfl ?_⟩
          simp only [T4Fa, ex_loop, ex_inLoop, EXA, Nat.reduceEqDiff, reduceIte, reduceCtorEq, Nat.reduceAdd, Nat.reduceLeDiff, Nat.reduceSub, Nat.reduceMul, Int.reduceEq, Int.reduceBEq, Int.reduceBNe, Int.reduceLT, Int.reduceLE, Nat.reduceLT, hl, ha, wi64, k1, p2, q2, p3, q3, p4, q4, and7 a c4, dn, m192, m63_eq, wm63, w11, w21, w31, y1, hn1, hs1, hx1, y2, hn2, hs2, hx2, y3, hn3, hs3, hx3, e, t1, t2]
          rfl
theorem r_rune (s : Bs) : ∃ c : Int, cR 111 [.str s] = some (.tup [.int .i64 c, .int .i64 (runeN s : Nat)]) := by
  cases s with
  | nil =>
    refine ⟨0, cR_of (F := F111) rfl ?_⟩
    simp only [T4Fa, EXA, Nat.reduceEqDiff, reduceIte, reduceCtorEq, Nat.reduceAdd, Nat.reduceLeDiff, Nat.reduceSub, Nat.reduceMul, Int.reduceEq, Int.reduceBEq, Int.reduceBNe, Int.reduceLT, Int.reduceLE, Nat.reduceLT]
    rfl
  | cons a r =>
    have hl : (((r.length + 1 : Nat) : Int) == 0) = false := by
      rw [beq_eq_false_iff_ne]; omega
    have ha : byteAt (.str (a :: r)) (.int .i64 0) = some (.int .u8 a.toNat) := rfl
    obtain ⟨z1, z2, z3, z4⟩ := lead a
    have hlt := a.toNat_lt
    by_cases c1 : szN a = 1
    · have k1 : decide ((a.toNat : Int) < 128) = true := by simp; have := z1.1 c1; omega
      refine ⟨a.toNat, cR_of (F := F111) rfl ?_⟩
      have e : runeN (a :: r) = 1 := by rw [runeN_cons, if_pos c1]
      simp only [T4Fa, EXA, Nat.reduceEqDiff, reduceIte, reduceCtorEq, Nat.reduceAdd, Nat.reduceLeDiff, Nat.reduceSub, Nat.reduceMul, Int.reduceEq, Int.reduceBEq, Int.reduceBNe, Int.reduceLT, Int.reduceLE, Nat.reduceLT, hl, ha, wi64, k1, e]
      rfl
    have k1 : decide ((a.toNat : Int) < 128) = false := by simp; have := mt z1.2 c1; omega
    by_cases c2 : szN a = 2
    · exact r_rune2 a r c2
    by_cases c3 : szN a = 3
    · exact r_rune3 a r c3
    by_cases c4 : szN a = 4
    · exact r_rune4 a r c4
    have e : runeN (a :: r) = 0 := by rw [runeN_cons, if_neg c1, if_neg c2, if_neg c3, if_neg c4]
    by_cases h1 : a.toNat < 194
    · have p2 : decide ((a.toNat : Int) ≥ 194) = false := by simp; omega
      have p3 : decide ((a.toNat : Int) ≥ 224) = false := by simp; omega
      have p4 : decide ((a.toNat : Int) ≥ 240) = false := by simp; omega
      refine ⟨0, cR_of (F := F111) rfl ?_⟩
      simp only [T4Fa, EXA, Nat.reduceEqDiff, reduceIte, reduceCtorEq, Nat.reduceAdd, Nat.reduceLeDiff, Nat.reduceSub, Nat.reduceMul, Int.reduceEq, Int.reduceBEq, Int.reduceBNe, Int.reduceLT, Int.reduceLE, Nat.reduceLT, hl, ha, wi64, k1, p2, p3, p4, e]
      rfl
    · have p2 : decide ((a.toNat : Int) ≥ 194) = true := by simp; omega
      have q2 : decide ((a.toNat : Int) < 224) = false := by simp; omega
      have p3 : decide ((a.toNat : Int) ≥ 224) = true := by simp; omega
      have q3 : decide ((a.toNat : Int) < 240) = false := by simp; omega
      have p4 : decide ((a.toNat : Int) ≥ 240) = true := by simp; omega
      have q4 : decide ((a.toNat : Int) < 245) = false := by simp; omega
      refine ⟨0, cR_of (F := F111) rfl ?_⟩
      simp only [T4Fa, EXA, Nat.reduceEqDiff, reduceIte, reduceCtorEq, Nat.reduceAdd, Nat.reduceLeDiff, Nat.reduceSub, Nat.reduceMul, Int.reduceEq, Int.reduceBEq, Int.reduceBNe, Int.reduceLT, Int.reduceLE, Nat.reduceLT, hl, ha, wi64, k1, p2, p3, p4, q2, q3, q4, e]
      rfl
end Go.Ab
