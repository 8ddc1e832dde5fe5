/- What functions of the program, and of the library, answer. Conditions: none. -/
import Derived.Test.YtgckcnggblomgaaDoorLaw3
import Derived.SizedLaws
import Derived.Test.YtgckcnggblomgaaDoorDraw
import Derived.Carry
import Derived.ChangeSame
import Derived.ChangeSlices
import Derived.WideKeyArgs
import Derived.Below
import Derived.OpenShut
import Derived.RowKit
import Derived.Lib.LaidU8
import Derived.Test.YtgckcnggblomgaaDoorCards
import Derived.Test.YtgckcnggblomgaaDoorTie
import Derived.WalkKit
import Derived.ProofKit
import Derived.Deep.DeepHandedRow
import Derived.Lib.LaidTab
import Derived.Shelf.Vars
import Derived.Test.YtgckcnggblomgaaDoorEx
set_option linter.unusedVariables false
set_option linter.unusedSimpArgs false
set_option linter.defProp false
/- Texts: the document's Runes, Good. -/
namespace Go.Ab
set_option linter.unusedSimpArgs false
set_option maxHeartbeats 1000000
theorem wadd {a b : Nat} (h : a + b < 9223372036854775808) : IntKind.wrap .i64 ((a : Int) + (b : Int)) = ((a + b : Nat) : Int) := by
  simp [IntKind.wrap, IntKind.bits, IntKind.signed]
  omega
theorem runeN_le (s : Bs) : runeN s ≤ s.length := by
  match s with
  | [] => simp [runeN]
  | [a] | [a, b] | [a, b, c] | a :: b :: c :: d :: r =>
    simp only [runeN_cons, List.length_cons, List.length_nil]
    repeat' split
    all_goals omega

theorem r_Runes (s : Bs) (hb : s.length < 4611686018427387904) : ∃ n : Int, cR 103 [.str s] = some (.int .i64 n) ∧ decide (n ≥ 0) = vu s := by
  have main : Ex ipU gU [.code F103.body] (initFr [.str s]) .empty fun fr' σ1 => ∃ n : Int, (resAll fr' σ1 F103.res).bind (rbE σ1) = some (.int .i64 n) ∧ decide (n ≥ 0) = vu s := by
    simp only [F103_0, F103_1, F103_2, F103_3, F103_4, F103_5, F103_6, F103_7, F103_8, F103_9, F103_10, F103_11, F103_12, F103_13, F103_14, F103_15, F103_16, F103_17, F103_18, F103_19, F103_20, F103_21, F103_22, F103_23, F103_25, F103_26, F103_27, F103_28, F103_29, F103_30, F103_31, F103_32, F103_33, F103_34, F103_35, F103_36, F103, ex_loop, EX0, EX1, EX2, EX3, EX4, EX5, if_true, if_false, implies_true, forall_const, ne_eq, Nat.reduceEqDiff, reduceIte, reduceCtorEq, Nat.reduceAdd, Nat.reduceLeDiff, Nat.reduceSub, Nat.reduceMul, Int.reduceEq, Int.reduceBEq, Int.reduceBNe, Int.reduceLT, Int.reduceLE, Nat.reduceLT]
    refine ex_whileI (S := Nat × Nat) (fun p => [(0, .str s), (3, .int .i64 (p.2 : Int)), (4, .int .i64 (p.1 : Int))]) (fun p => s.length - p.1) (fun p _ => vu (s.drop p.1) = vu s ∧ p.2 ≤ p.1 ∧ p.1 ≤ s.length) ?_ (0, 0) _ ⟨rfl, by simp, by simp⟩
    rintro b ⟨i, k⟩ σ ⟨h1, h2, h3⟩ ih
    simp only at h1 h2 h3 ⊢
    by_cases hlt : i < s.length
    · have d1 := dlt hlt
      have g1 : sliceSOf (.str s) (some (some (i : Int))) (some none) = some (.str (s.drop i)) := by
        have := sliceS_lo (s := s) (i := (i : Int)) (by omega) (by omega)
        simpa using this
      obtain ⟨c, hc⟩ := r_rune (s.drop i)
      cases hd : s.drop i with
      | nil => have := congrArg List.length hd; simp at this; omega
      | cons a r =>
        have hv := vu_rune (a := a) (r := r)
        rw [← hd] at hv
        rw [h1] at hv
        have hle := runeN_le (s.drop i)
        by_cases h0 : runeN (s.drop i) = 0
        · have hf : vu s = false := by rw [hv]; simp [h0]
          have hz : (((runeN (s.drop i) : Nat) : Int) == 0) = true := by simp [h0]
          simp only [F103_0, F103_1, F103_2, F103_3, F103_4, F103_5, F103_6, F103_7, F103_8, F103_9, F103_10, F103_11, F103_12, F103_13, F103_14, F103_15, F103_16, F103_17, F103_18, F103_19, F103_20, F103_21, F103_22, F103_23, F103_24, F103_25, F103_26, F103_27, F103_28, F103_29, F103_30, F103_31, F103_32, F103_33, F103_34, F103_35, F103_36, F103, EX0, EX1, EX2, EX3, EX4, EX5, if_true, if_false, implies_true, forall_const, ne_eq, Nat.reduceEqDiff, reduceIte, reduceCtorEq, Nat.reduceAdd, Nat.reduceLeDiff, Nat.reduceSub, Nat.reduceMul, Int.reduceEq, Int.reduceBEq, Int.reduceBNe, Int.reduceLT, Int.reduceLE, Nat.reduceLT, d1, g1, hc, hz, hf]
          exact ⟨-1, rfl, rfl⟩
        · have hz : (((runeN (s.drop i) : Nat) : Int) == 0) = false := by rw [beq_eq_false_iff_ne]; omega
          have hw := wadd (a := i) (b := runeN (s.drop i)) (by simp at hle; omega)
          have hw2 := wsucc (j := k) (n := s.length) (by omega) (by omega)
          simp only [F103_0, F103_1, F103_2, F103_3, F103_4, F103_5, F103_6, F103_7, F103_8, F103_9, F103_10, F103_11, F103_12, F103_13, F103_14, F103_15, F103_16, F103_17, F103_18, F103_19, F103_20, F103_21, F103_22, F103_23, F103_24, F103_25, F103_26, F103_27, F103_28, F103_29, F103_30, F103_31, F103_32, F103_33, F103_34, F103_35, F103_36, F103, EX0, EX1, EX2, EX3, EX4, EX5, if_true, if_false, implies_true, forall_const, ne_eq, Nat.reduceEqDiff, reduceIte, reduceCtorEq, Nat.reduceAdd, Nat.reduceLeDiff, Nat.reduceSub, Nat.reduceMul, Int.reduceEq, Int.reduceBEq, Int.reduceBNe, Int.reduceLT, Int.reduceLE, Nat.reduceLT, d1, g1, hc, hz, hw, hw2]
          refine ih (i + runeN (s.drop i), k + 1) _ _ (by simp; omega) ⟨?_, by simp; omega, by simp at hle ⊢; omega⟩ (by simp only [EX0, EX1, EX2, EX3, EX4, EX5, if_true, if_false, implies_true, forall_const, ne_eq, Nat.reduceEqDiff, reduceIte, reduceCtorEq, Nat.reduceAdd, Nat.reduceLeDiff, Nat.reduceSub, Nat.reduceMul, Int.reduceEq, Int.reduceBEq, Int.reduceBNe, Int.reduceLT, Int.reduceLE, Nat.reduceLT])
          rw [hv, List.drop_drop]
          simp [h0]
    · have d1 := dge (Nat.not_lt.1 hlt)
      have : i = s.length := by omega
      subst this
      simp only [F103_0, F103_1, F103_2, F103_3, F103_4, F103_5, F103_6, F103_7, F103_8, F103_9, F103_10, F103_11, F103_12, F103_13, F103_14, F103_15, F103_16, F103_17, F103_18, F103_19, F103_20, F103_21, F103_22, F103_23, F103_24, F103_25, F103_26, F103_27, F103_28, F103_29, F103_30, F103_31, F103_32, F103_33, F103_34, F103_35, F103_36, F103, EX0, EX1, EX2, EX3, EX4, EX5, if_true, if_false, implies_true, forall_const, ne_eq, Nat.reduceEqDiff, reduceIte, reduceCtorEq, Nat.reduceAdd, Nat.reduceLeDiff, Nat.reduceSub, Nat.reduceMul, Int.reduceEq, Int.reduceBEq, Int.reduceBNe, Int.reduceLT, Int.reduceLE, Nat.reduceLT, d1]
      refine ⟨_, rfl, ?_⟩
      rw [← h1]
      simp [vu]
  obtain ⟨n, fr', σ1, h1, n', h2, h3⟩ := main
  exact ⟨n', cR_of (F := F103) rfl ⟨n, fr', σ1, h1, h2⟩, h3⟩
theorem r_Good1 (s : Bs) (hb : s.length < 4611686018427387904) : cR 96 [.str s] = some (.bool (vu s)) := by
  obtain ⟨n, h1, h2⟩ := r_Runes s hb
  refine cR_of (F := F96) rfl ?_
  simp only [F96_0, F96_1, F96_2, F96_3, F96_4, F96, EX0, EX1, EX2, EX3, EX4, EX5, if_true, if_false, implies_true, forall_const, ne_eq, Nat.reduceEqDiff, reduceIte, reduceCtorEq, Nat.reduceAdd, Nat.reduceLeDiff, Nat.reduceSub, Nat.reduceMul, Int.reduceEq, Int.reduceBEq, Int.reduceBNe, Int.reduceLT, Int.reduceLE, Nat.reduceLT, h1, h2]
end Go.Ab
/- Values: which are good. -/
namespace Go.Ab
set_option linter.unusedSimpArgs false
set_option maxHeartbeats 1000000
set_option maxRecDepth 100000
/-- The first number from j on of one of which p holds; else -1. -/
def firstFrom {α : Type} (p : α → Bool) (els : List α) (j : Nat) : Int := match (els.drop j).findIdx? p with
  | some i => ((i + j : Nat) : Int)
  | none => -1
theorem firstFrom_hit {α : Type} {p : α → Bool} {els : List α} {j : Nat} {e : α} (h : els[j]? = some e) (hp : p e = true) : firstFrom p els j = (j : Int) := by
  unfold firstFrom
  rw [drop_cons h]
  simp [List.findIdx?_cons, hp]
theorem firstFrom_miss {α : Type} {p : α → Bool} {els : List α} {j : Nat} {e : α} (h : els[j]? = some e) (hp : p e = false) : firstFrom p els j = firstFrom p els (j + 1) := by
  unfold firstFrom
  rw [drop_cons h]
  simp only [List.findIdx?_cons, hp]
  cases (els.drop (j + 1)).findIdx? p <;> simp <;> omega
theorem firstFrom_end {α : Type} {p : α → Bool} {els : List α} {j : Nat} (h : els.length ≤ j) : firstFrom p els j = -1 := by
  unfold firstFrom
  rw [List.drop_eq_nil_of_le h]
  rfl
theorem firstFrom_ge {α : Type} (p : α → Bool) (l : List α) : decide (firstFrom p l 0 ≥ 0) = l.any p := by
  unfold firstFrom
  rw [List.drop_zero]
  cases h : l.findIdx? p with
  | none =>
    have := List.findIdx?_eq_none_iff.1 h
    have h2 : l.any p = false := by
      rw [List.any_eq_false]
      intro x hx
      simp [this x hx]
    rw [h2]
    simp
  | some i =>
    obtain ⟨h1, h2, _⟩ := List.findIdx?_eq_some_iff_getElem.1 h
    have h3 : l.any p = true := List.any_eq_true.2 ⟨_, List.getElem_mem h1, h2⟩
    rw [h3]
    simp
/-- Lists as long as any machine's. -/
def big : Nat := 4611686018427387904
/-- slices.IndexFunc over values. -/
theorem r_indexV (l : List V) (f : AV) (p : V → Bool) (hf : f.closed = true) (hfe : f.er = f) (hlen : l.length < big) (hp : ∀ v ∈ l, callR ipU gU f [v.enc] = some (.bool (p v))) :
    cR 100 [.vsl (l.map V.enc) none, f] = some (.int .i64 (firstFrom p l 0)) := by
  unfold big at hlen
  refine cR_of (F := F100) rfl ?_
  simp only [F100_0, F100_1, F100_2, F100_3, F100_4, F100_5, F100_6, F100_7, F100_8, F100_9, F100_10, F100_11, F100_12, F100_13, F100_14, F100_15, F100_16, F100_17, F100_18, F100_19, F100_21, F100_22, F100_23, F100_24, F100_25, F100_26, F100_27, F100_28, F100_29, F100_30, F100, ex_loop, EX0, EX1, EX2, EX3, EX4, EX5, if_true, if_false, implies_true, forall_const, ne_eq, Nat.reduceEqDiff, reduceIte, reduceCtorEq, Nat.reduceAdd, Nat.reduceLeDiff, Nat.reduceSub, Nat.reduceMul, Int.reduceEq, Int.reduceBEq, Int.reduceBNe, Int.reduceLT, Int.reduceLE, Nat.reduceLT, VX]
  refine ex_while (S := Nat) (fun j => [(0, .vsl (l.map V.enc) none), (1, f), (7, .int .i64 l.length), (8, .int .i64 (j : Int))]) (fun _ => .empty) (fun j => l.length - j) (fun j => firstFrom p l j = firstFrom p l 0) ?_ 0 rfl
  intro b j hj ih
  by_cases hlt : j < l.length
  · obtain ⟨v, hv⟩ := get_lt hlt
    have hidx := idx_map (f := V.enc) (sz := 5) (c := none) hv (by simp [V.enc_cells])
    have hcall := hp v (List.mem_of_getElem? hv)
    have hcond := dlt hlt
    simp only [F100_0, F100_1, F100_2, F100_3, F100_4, F100_5, F100_6, F100_7, F100_8, F100_9, F100_10, F100_11, F100_12, F100_13, F100_14, F100_15, F100_16, F100_17, F100_18, F100_19, F100_20, F100_21, F100_22, F100_23, F100_24, F100_25, F100_26, F100_27, F100_28, F100_29, F100_30, F100, EX0, EX1, EX2, EX3, EX4, EX5, if_true, if_false, implies_true, forall_const, ne_eq, Nat.reduceEqDiff, reduceIte, reduceCtorEq, Nat.reduceAdd, Nat.reduceLeDiff, Nat.reduceSub, Nat.reduceMul, Int.reduceEq, Int.reduceBEq, Int.reduceBNe, Int.reduceLT, Int.reduceLE, Nat.reduceLT, VX, readAt_some, hcond, hidx, hf, hfe, hcall]
    split
    · rename_i hpe
      rw [← hj, firstFrom_hit hv hpe]
    · rename_i hpe
      refine ih (j + 1) _ _ (by omega) ?_ ?_ rfl
      · rw [← firstFrom_miss hv (by simpa using hpe)]; exact hj
      · rw [wsucc hlt (by omega)]
        simp only [EX0, EX1, EX2, EX3, EX4, EX5, if_true, if_false, implies_true, forall_const, ne_eq, Nat.reduceEqDiff, reduceIte, reduceCtorEq, Nat.reduceAdd, Nat.reduceLeDiff, Nat.reduceSub, Nat.reduceMul, Int.reduceEq, Int.reduceBEq, Int.reduceBNe, Int.reduceLT, Int.reduceLE, Nat.reduceLT]
  · have hcond := dge (Nat.not_lt.1 hlt)
    simp only [F100_0, F100_1, F100_2, F100_3, F100_4, F100_5, F100_6, F100_7, F100_8, F100_9, F100_10, F100_11, F100_12, F100_13, F100_14, F100_15, F100_16, F100_17, F100_18, F100_19, F100_20, F100_21, F100_22, F100_23, F100_24, F100_25, F100_26, F100_27, F100_28, F100_29, F100_30, F100, EX0, EX1, EX2, EX3, EX4, EX5, if_true, if_false, implies_true, forall_const, ne_eq, Nat.reduceEqDiff, reduceIte, reduceCtorEq, Nat.reduceAdd, Nat.reduceLeDiff, Nat.reduceSub, Nat.reduceMul, Int.reduceEq, Int.reduceBEq, Int.reduceBNe, Int.reduceLT, Int.reduceLE, Nat.reduceLT, VX, hcond]
    rw [← hj, firstFrom_end (by omega)]
theorem r_containsV (l : List V) (f : AV) (p : V → Bool) (hf : f.closed = true) (hfe : f.er = f) (hlen : l.length < big) (hp : ∀ v ∈ l, callR ipU gU f [v.enc] = some (.bool (p v))) :
    cR 90 [.vsl (l.map V.enc) none, f] = some (.bool (l.any p)) := by
  refine cR_of (F := F90) rfl ?_
  simp only [F90_0, F90_1, F90_2, F90_3, F90_4, F90, EX0, EX1, EX2, EX3, EX4, EX5, if_true, if_false, implies_true, forall_const, ne_eq, Nat.reduceEqDiff, reduceIte, reduceCtorEq, Nat.reduceAdd, Nat.reduceLeDiff, Nat.reduceSub, Nat.reduceMul, Int.reduceEq, Int.reduceBEq, Int.reduceBNe, Int.reduceLT, Int.reduceLE, Nat.reduceLT, VX, hf, hfe, r_indexV l f p hf hfe hlen hp, firstFrom_ge]

mutual
def V.fine : V → Bool
  | .mk k n s l m =>
    if k = 0 then (V.mk k n s l m).bare
    else if k = 1 then (V.mk k 0 s l m).bare && (n == 0 || n == 1)
    else if k = 2 then (V.mk k 0 s l m).bare && numOk n
    else if k = 3 then (V.mk k n [] l m).bare && vu s
    else if k = 4 then (V.mk k n s [] m).bare && fineL l
    else if k = 5 then (V.mk k n s l []).bare && fineM none m
    else false
def fineL : List V → Bool
  | [] => true
  | v :: r => v.fine && fineL r
def fineM : Option Bs → List (Bs × V) → Bool
  | _, [] => true
  | p, (k, v) :: r => vu k && ((match p with | none => true | some q => bytesLess q k) && (v.fine && fineM (some k) r))
end
def okP (p : Option Bs) (k : Bs) : Bool := match p with | none => true | some q => bytesLess q k
theorem fineM_cons (p : Option Bs) (k : Bs) (v : V) (r : List Mem) : fineM p ((k, v) :: r) = (vu k && (okP p k && (v.fine && fineM (some k) r))) := by
  cases p <;> rw [fineM.eq_def] <;> rfl
theorem fineL_all : ∀ l : List V, fineL l = !(l.any fun v => !v.fine)
  | [] => by simp [fineL]
  | v :: r => by simp [fineL, fineL_all r]
theorem V.fine_eq (v : V) : v.fine = if v.kind = 0 then v.bare
    else if v.kind = 1 then (V.mk v.kind 0 v.s v.l v.m).bare && (v.n == 0 || v.n == 1)
    else if v.kind = 2 then (V.mk v.kind 0 v.s v.l v.m).bare && numOk v.n
    else if v.kind = 3 then (V.mk v.kind v.n [] v.l v.m).bare && vu v.s
    else if v.kind = 4 then (V.mk v.kind v.n v.s [] v.m).bare && fineL v.l
    else if v.kind = 5 then (V.mk v.kind v.n v.s v.l []).bare && fineM none v.m
    else false := by
  cases v; rw [V.fine]; rfl
/-- What stands ahead of place j. -/
def prevK (m : List Mem) (j : Nat) : Option Bs := if j = 0 then none else (m[j - 1]?).map (·.1)
theorem prevK_succ {m : List Mem} {j : Nat} {x : Mem} (h : m[j]? = some x) : prevK m (j + 1) = some x.1 := by
  simp [prevK, h]

theorem r_ask (k : Nat) (h : k < 6) : cR 65 [.int .i64 (k : Int)] = some (.tup [.fn (match k with | 0 => 84 | 1 => 85 | 2 => 86 | 3 => 87 | 4 => 89 | _ => 92) [] [], .bool true]) := by
  match k, h with
  | 0, _ | 1, _ | 2, _ | 3, _ | 4, _ | 5, _ => exact cR_closed 1000 (by kernel_rfl)
theorem r_askNo (k : Int) (h : k < 0 ∨ 6 ≤ k) : cR 65 [.int .i64 k] = some (.tup [.lit .nilFunc, .bool false]) := by
  refine cR_of (F := F65) rfl ?_
  rcases h with h | h
  · have h1 : decide (k < 0) = true := by simp; omega
    simp only [F65_0, F65_1, F65_2, F65_3, F65_4, F65_5, F65_6, F65_7, F65_8, F65_9, F65_10, F65_11, F65_12, F65_13, F65_14, F65_15, F65, EX0, EX1, EX2, EX3, EX4, EX5, if_true, if_false, implies_true, forall_const, ne_eq, Nat.reduceEqDiff, reduceIte, reduceCtorEq, Nat.reduceAdd, Nat.reduceLeDiff, Nat.reduceSub, Nat.reduceMul, Int.reduceEq, Int.reduceBEq, Int.reduceBNe, Int.reduceLT, Int.reduceLE, Nat.reduceLT, h1]
  · have h1 : decide (k < 0) = false := by simp; omega
    have h2 : decide (k ≥ 6) = true := by simp; omega
    simp only [F65_0, F65_1, F65_2, F65_3, F65_4, F65_5, F65_6, F65_7, F65_8, F65_9, F65_10, F65_11, F65_12, F65_13, F65_14, F65_15, F65, EX0, EX1, EX2, EX3, EX4, EX5, if_true, if_false, implies_true, forall_const, ne_eq, Nat.reduceEqDiff, reduceIte, reduceCtorEq, Nat.reduceAdd, Nat.reduceLeDiff, Nat.reduceSub, Nat.reduceMul, Int.reduceEq, Int.reduceBEq, Int.reduceBNe, Int.reduceLT, Int.reduceLE, Nat.reduceLT, h1, h2]

theorem r_oneText (v : V) : cR 87 [v.enc] = some (.bool ((V.mk v.kind v.n [] v.l v.m).bare && vu v.s)) := by
  refine cR_of (F := F87) rfl ?_
  simp only [F87_0, F87_1, F87_2, F87_3, F87_4, F87_5, F87_6, F87_7, F87_8, F87_9, F87_10, F87, EX0, EX1, EX2, EX3, EX4, EX5, if_true, if_false, implies_true, forall_const, ne_eq, Nat.reduceEqDiff, reduceIte, reduceCtorEq, Nat.reduceAdd, Nat.reduceLeDiff, Nat.reduceSub, Nat.reduceMul, Int.reduceEq, Int.reduceBEq, Int.reduceBNe, Int.reduceLT, Int.reduceLE, Nat.reduceLT, readAt_some, VX, r_bare, r_Good]
  repeat' split
  all_goals simp_all

theorem r_notFine (v : V) (h : cR 48 [v.enc] = some (.bool v.fine)) : cR 91 [v.enc] = some (.bool (!v.fine)) := by
  refine cR_of (F := F91) rfl ?_
  simp only [F91_0, F91_1, F91_2, F91_3, F91_4, F91, EX0, EX1, EX2, EX3, EX4, EX5, if_true, if_false, implies_true, forall_const, ne_eq, Nat.reduceEqDiff, reduceIte, reduceCtorEq, Nat.reduceAdd, Nat.reduceLeDiff, Nat.reduceSub, Nat.reduceMul, Int.reduceEq, Int.reduceBEq, Int.reduceBNe, Int.reduceLT, Int.reduceLE, Nat.reduceLT, readAt_some, VX, h]

theorem r_oneList (v : V) (hb : v.l.length < big) (h : ∀ x ∈ v.l, cR 48 [x.enc] = some (.bool x.fine)) : cR 89 [v.enc] = some (.bool ((V.mk v.kind v.n v.s [] v.m).bare && fineL v.l)) := by
  have hc := r_containsV v.l (.fn 91 [] []) (fun x => !x.fine) rfl (by simp only [AV.er, erL]) hb (fun x hx => r_notFine x (h x hx))
  refine cR_of (F := F89) rfl ?_
  simp only [F89_0, F89_1, F89_2, F89_3, F89_4, F89_5, F89_6, F89_7, F89_8, F89_9, F89_10, F89, EX0, EX1, EX2, EX3, EX4, EX5, if_true, if_false, implies_true, forall_const, ne_eq, Nat.reduceEqDiff, reduceIte, reduceCtorEq, Nat.reduceAdd, Nat.reduceLeDiff, Nat.reduceSub, Nat.reduceMul, Int.reduceEq, Int.reduceBEq, Int.reduceBNe, Int.reduceLT, Int.reduceLE, Nat.reduceLT, readAt_some, VX, r_bare, hc, fineL_all]
  repeat' split
  all_goals simp_all

theorem wpred {j : Nat} (h : 0 < j) (hn : j < 9223372036854775808) : IntKind.wrap .i64 ((j : Int) - 1) = ((j - 1 : Nat) : Int) := by
  simp [IntKind.wrap, IntKind.bits, IntKind.signed]
  omega
theorem r_table (v : V) (hb : v.m.length < big) (h : ∀ x ∈ v.m, cR 48 [x.2.enc] = some (.bool x.2.fine)) : cR 92 [v.enc] = some (.bool ((V.mk v.kind v.n v.s v.l []).bare && fineM none v.m)) := by
  unfold big at hb
  refine cR_of (F := F92) rfl ?_
  cases hbare : (V.mk v.kind v.n v.s v.l []).bare with
  | false => simp only [F92_0, F92_1, F92_2, F92_3, F92_4, F92_5, F92_6, F92_7, F92_8, F92_9, F92_10, F92_11, F92_12, F92_13, F92_14, F92_15, F92_16, F92_17, F92_18, F92_19, F92_20, F92_21, F92_22, F92_23, F92_24, F92_25, F92_26, F92_27, F92_29, F92_30, F92_31, F92_32, F92_33, F92_34, F92_35, F92_36, F92_37, F92_38, F92_39, F92_40, F92_41, F92_42, F92_43, F92_44, F92, EX0, EX1, EX2, EX3, EX4, EX5, if_true, if_false, implies_true, forall_const, ne_eq, Nat.reduceEqDiff, reduceIte, reduceCtorEq, Nat.reduceAdd, Nat.reduceLeDiff, Nat.reduceSub, Nat.reduceMul, Int.reduceEq, Int.reduceBEq, Int.reduceBNe, Int.reduceLT, Int.reduceLE, Nat.reduceLT, readAt_some, VX, r_bare, hbare, Bool.false_and]
  | true =>
  simp only [F92_0, F92_1, F92_2, F92_3, F92_4, F92_5, F92_6, F92_7, F92_8, F92_9, F92_10, F92_11, F92_12, F92_13, F92_14, F92_15, F92_16, F92_17, F92_18, F92_19, F92_20, F92_21, F92_22, F92_23, F92_24, F92_25, F92_26, F92_27, F92_29, F92_30, F92_31, F92_32, F92_33, F92_34, F92_35, F92_36, F92_37, F92_38, F92_39, F92_40, F92_41, F92_42, F92_43, F92_44, F92, ex_loop, EX0, EX1, EX2, EX3, EX4, EX5, if_true, if_false, implies_true, forall_const, ne_eq, Nat.reduceEqDiff, reduceIte, reduceCtorEq, Nat.reduceAdd, Nat.reduceLeDiff, Nat.reduceSub, Nat.reduceMul, Int.reduceEq, Int.reduceBEq, Int.reduceBNe, Int.reduceLT, Int.reduceLE, Nat.reduceLT, readAt_some, VX, r_bare, hbare]
  refine ex_whileI (S := Nat) (fun j => [(3, .vsl (v.m.map memE) none), (12, .vsl (v.m.map memE) none), (13, .int .i64 v.m.length), (14, .int .i64 (j : Int))]) (fun j => v.m.length - j) (fun j _ => fineM (prevK v.m j) (v.m.drop j) = fineM none v.m) ?_ 0 _ rfl
  intro b j σ hj ih
  by_cases hlt : j < v.m.length
  · obtain ⟨⟨key, x⟩, hx⟩ := get_lt hlt
    have hidx := idx_map (f := memE) (sz := 6) (c := none) hx (by simp [memE_cells])
    have hcond := dlt hlt
    have hfx := h _ (List.mem_of_getElem? hx)
    simp only at hfx
    rw [drop_cons hx, fineM_cons] at hj
    have hstep : ∀ (fr' : Fr) (σ' : Store), vu key = true → okP (prevK v.m j) key = true → x.fine = true → keep [3, 12, 13, 14] fr' = _ → _ := fun fr' σ' a1 a2 a3 hk => ih (j + 1) fr' σ' (by omega) (by
      rw [prevK_succ hx, ← hj, a1, a2, a3]; rfl) hk
    by_cases h0 : j = 0
    · subst h0
      have d0' : decide (0 < ((0 : Nat) : Int)) = false := rfl
      simp only [F92_0, F92_1, F92_2, F92_3, F92_4, F92_5, F92_6, F92_7, F92_8, F92_9, F92_10, F92_11, F92_12, F92_13, F92_14, F92_15, F92_16, F92_17, F92_18, F92_19, F92_20, F92_21, F92_22, F92_23, F92_24, F92_25, F92_26, F92_27, F92_28, F92_29, F92_30, F92_31, F92_32, F92_33, F92_34, F92_35, F92_36, F92_37, F92_38, F92_39, F92_40, F92_41, F92_42, F92_43, F92_44, F92, EX0, EX1, EX2, EX3, EX4, EX5, if_true, if_false, implies_true, forall_const, ne_eq, Nat.reduceEqDiff, reduceIte, reduceCtorEq, Nat.reduceAdd, Nat.reduceLeDiff, Nat.reduceSub, Nat.reduceMul, Int.reduceEq, Int.reduceBEq, Int.reduceBNe, Int.reduceLT, Int.reduceLE, Nat.reduceLT, readAt_some, VX, hcond, hidx, r_Good, r_Less, hfx, d0']
      split
      · rename_i q1
        rw [← hj]; simp_all
      split
      · rename_i q1 q2
        rw [← hj]; simp_all
      rename_i q1 q2
      exact hstep _ _ (by simpa using q1) rfl (by simpa using q2) (by rw [wsucc hlt (by omega)]; simp only [EX0, EX1, EX2, EX3, EX4, EX5, if_true, if_false, implies_true, forall_const, ne_eq, Nat.reduceEqDiff, reduceIte, reduceCtorEq, Nat.reduceAdd, Nat.reduceLeDiff, Nat.reduceSub, Nat.reduceMul, Int.reduceEq, Int.reduceBEq, Int.reduceBNe, Int.reduceLT, Int.reduceLE, Nat.reduceLT])
    · obtain ⟨⟨pk, px⟩, hpx⟩ := get_lt (l := v.m) (j := j - 1) (by omega)
      have hidx2 := idx_map (f := memE) (sz := 6) (c := none) hpx (by simp [memE_cells])
      have d0' : decide (0 < (j : Int)) = true := by simp; omega
      have hw := wpred (j := j) (by omega) (by omega)
      have hp : okP (prevK v.m j) key = bytesLess pk key := by simp [prevK, h0, hpx, okP]
      rw [hp] at hj hstep
      simp only [F92_0, F92_1, F92_2, F92_3, F92_4, F92_5, F92_6, F92_7, F92_8, F92_9, F92_10, F92_11, F92_12, F92_13, F92_14, F92_15, F92_16, F92_17, F92_18, F92_19, F92_20, F92_21, F92_22, F92_23, F92_24, F92_25, F92_26, F92_27, F92_28, F92_29, F92_30, F92_31, F92_32, F92_33, F92_34, F92_35, F92_36, F92_37, F92_38, F92_39, F92_40, F92_41, F92_42, F92_43, F92_44, F92, EX0, EX1, EX2, EX3, EX4, EX5, if_true, if_false, implies_true, forall_const, ne_eq, Nat.reduceEqDiff, reduceIte, reduceCtorEq, Nat.reduceAdd, Nat.reduceLeDiff, Nat.reduceSub, Nat.reduceMul, Int.reduceEq, Int.reduceBEq, Int.reduceBNe, Int.reduceLT, Int.reduceLE, Nat.reduceLT, readAt_some, VX, hcond, hidx, r_Good, r_Less, hfx, d0', hw, hidx2]
      split
      · rename_i q1
        rw [← hj]; simp_all
      split
      · rename_i q1 q2
        rw [← hj]; simp_all
      split
      · rename_i q1 q2 q3
        rw [← hj]; simp_all
      rename_i q1 q2 q3
      exact hstep _ _ (by simpa using q1) (by simpa using q2) (by simpa using q3) (by rw [wsucc hlt (by omega)]; simp only [EX0, EX1, EX2, EX3, EX4, EX5, if_true, if_false, implies_true, forall_const, ne_eq, Nat.reduceEqDiff, reduceIte, reduceCtorEq, Nat.reduceAdd, Nat.reduceLeDiff, Nat.reduceSub, Nat.reduceMul, Int.reduceEq, Int.reduceBEq, Int.reduceBNe, Int.reduceLT, Int.reduceLE, Nat.reduceLT])
  · have hcond := dge (Nat.not_lt.1 hlt)
    simp only [F92_0, F92_1, F92_2, F92_3, F92_4, F92_5, F92_6, F92_7, F92_8, F92_9, F92_10, F92_11, F92_12, F92_13, F92_14, F92_15, F92_16, F92_17, F92_18, F92_19, F92_20, F92_21, F92_22, F92_23, F92_24, F92_25, F92_26, F92_27, F92_28, F92_29, F92_30, F92_31, F92_32, F92_33, F92_34, F92_35, F92_36, F92_37, F92_38, F92_39, F92_40, F92_41, F92_42, F92_43, F92_44, F92, EX0, EX1, EX2, EX3, EX4, EX5, if_true, if_false, implies_true, forall_const, ne_eq, Nat.reduceEqDiff, reduceIte, reduceCtorEq, Nat.reduceAdd, Nat.reduceLeDiff, Nat.reduceSub, Nat.reduceMul, Int.reduceEq, Int.reduceBEq, Int.reduceBNe, Int.reduceLT, Int.reduceLE, Nat.reduceLT, VX, hcond]
    rw [← hj, List.drop_eq_nil_of_le (by omega), fineM]

theorem r_fineN : ∀ (n : Nat) (v : V), v.sz < n → v.sz < big → cR 48 [v.enc] = some (.bool v.fine) := by
  intro n
  induction n with
  | zero => intro v h; omega
  | succ n ih =>
    intro v h hb
    have hsz := v.sz_eq
    have hl := szL_len v.l
    have hm := szM_len v.m
    have ihL : ∀ x ∈ v.l, cR 48 [x.enc] = some (.bool x.fine) := fun x hx => by
      have := szL_mem hx
      exact ih x (by omega) (by omega)
    have ihM : ∀ x ∈ v.m, cR 48 [x.2.enc] = some (.bool x.2.fine) := fun x hx => by
      have := szM_mem hx
      exact ih x.2 (by omega) (by omega)
    have t1 := r_oneList v (by omega) ihL
    have t2 := r_table v (by omega) ihM
    refine cR_of (F := F48) rfl ?_
    rw [V.fine_eq]
    by_cases hk : v.kind < 0 ∨ 6 ≤ v.kind
    · have e0 : v.kind ≠ 0 := by omega
      have e1 : v.kind ≠ 1 := by omega
      have e2 : v.kind ≠ 2 := by omega
      have e3 : v.kind ≠ 3 := by omega
      have e4 : v.kind ≠ 4 := by omega
      have e5 : v.kind ≠ 5 := by omega
      simp only [F48_0, F48_1, F48_2, F48_3, F48_4, F48_5, F48_6, F48_7, F48, EX0, EX1, EX2, EX3, EX4, EX5, if_true, if_false, implies_true, forall_const, ne_eq, Nat.reduceEqDiff, reduceIte, reduceCtorEq, Nat.reduceAdd, Nat.reduceLeDiff, Nat.reduceSub, Nat.reduceMul, Int.reduceEq, Int.reduceBEq, Int.reduceBNe, Int.reduceLT, Int.reduceLE, Nat.reduceLT, readAt_some, VX, r_askNo v.kind hk, e0, e1, e2, e3, e4, e5]
    · obtain ⟨k, nn, s, l, m⟩ := v
      simp only [V.kind_mk, V.n_mk, V.s_mk, V.l_mk, V.m_mk] at hk t1 t2 ⊢
      have hcases : k = 0 ∨ k = 1 ∨ k = 2 ∨ k = 3 ∨ k = 4 ∨ k = 5 := by omega
      have a0 : cR 65 [.int .i64 0] = some (.tup [.fn 84 [] [], .bool true]) := r_ask 0 (by omega)
      have a1 : cR 65 [.int .i64 1] = some (.tup [.fn 85 [] [], .bool true]) := r_ask 1 (by omega)
      have a2 : cR 65 [.int .i64 2] = some (.tup [.fn 86 [] [], .bool true]) := r_ask 2 (by omega)
      have a3 : cR 65 [.int .i64 3] = some (.tup [.fn 87 [] [], .bool true]) := r_ask 3 (by omega)
      have a4 : cR 65 [.int .i64 4] = some (.tup [.fn 89 [] [], .bool true]) := r_ask 4 (by omega)
      have a5 : cR 65 [.int .i64 5] = some (.tup [.fn 92 [] [], .bool true]) := r_ask 5 (by omega)
      rcases hcases with rfl | rfl | rfl | rfl | rfl | rfl
      all_goals simp only [F48_0, F48_1, F48_2, F48_3, F48_4, F48_5, F48_6, F48_7, F48, EX0, EX1, EX2, EX3, EX4, EX5, if_true, if_false, implies_true, forall_const, ne_eq, Nat.reduceEqDiff, reduceIte, reduceCtorEq, Nat.reduceAdd, Nat.reduceLeDiff, Nat.reduceSub, Nat.reduceMul, Int.reduceEq, Int.reduceBEq, Int.reduceBNe, Int.reduceLT, Int.reduceLE, Nat.reduceLT, readAt_some, VX, a0, a1, a2, a3, a4, a5, r_bare, r_bit, r_number, r_oneText, t1, t2, Int.reduceEq]
theorem r_fine (v : V) (hb : v.sz < big) : cR 48 [v.enc] = some (.bool v.fine) := r_fineN (v.sz + 1) v (Nat.lt_succ_self _) hb
end Go.Ab
/- From a call of the machine's to a row: what is of no one seat. -/
namespace Go.Ab
open Go.RowKit Go.ChangeShapes Go.WideShapes

theorem rb_bool {σ : Store} {n : Nat} {x : AV} {b : Bool} (h : rb σ (n + 1) x = some (.bool b)) : x = .bool b := by
  cases x <;> simp only [rb] at h <;> (repeat' (split at h)) <;> simp_all

theorem er_boolE {x : AV} {b : Bool} (h : x.er = .bool b) : x = .bool b := by
  cases x <;> simp only [AV.er] at h <;> simp_all

theorem acall_of_cR {id : Nat} {args : List AV} {b : Bool} (h : cR id args = some (.bool b)) : ∃ n σ1, acall ipU gU n id args = some (.bool b, σ1) := by
  unfold cR callR at h
  rw [Option.bind_eq_some_iff] at h
  obtain ⟨⟨r, σ1⟩, h1, h2⟩ := h
  obtain ⟨n, hn⟩ := callS_some.1 h1
  refine ⟨n, σ1, ?_⟩
  unfold rbE at h2
  rw [Option.map_eq_some_iff] at h2
  obtain ⟨y, h3, h4⟩ := h2
  obtain rfl := er_boolE h4
  obtain rfl := rb_bool (n := 23) h3
  exact hn

section
variable {P : Program} {fm gm : Nat → Option Nat}

theorem cR_glob (g : Nat) : closedL (gU g) = true := by
  unfold gU
  split
  · kernel_rfl
  · split
    · kernel_rfl
    · rfl

/-- The arguments, one by one. -/
def RVs (fm : Nat → Option Nat) (w : World) (l : List AV) (vs : List Value) : Prop := l.length = vs.length ∧ ∀ j, RV fm w (fun _ => False) Mu.none (l.getD j .undef) (vs.getD j Go.undef)
theorem RVs.nil {w : World} : RVs fm w [] [] := ⟨rfl, fun j => by simpa using RV.undef _⟩
theorem RVs.cons {w : World} {x : AV} {v : Value} {l : List AV} {vs : List Value} (h : RV fm w (fun _ => False) Mu.none x v) (hs : RVs fm w l vs) : RVs fm w (x :: l) (v :: vs) := by
  refine ⟨by simp [hs.1], fun j => ?_⟩
  cases j with
  | zero => simpa using h
  | succ j => simpa using hs.2 j

variable {H : Type} {enc : TypeId × Value → H}

/-- A slice of integers. -/
theorem rv_ints {w : World} {base : Nat} {sp : Nat → Bool} {held : Bool} {fuel : Nat} {t e : TypeId} {k : IntKind} {v : Value} {x : DataW H × List MemPlace}
    (ht : P.underlying t = some (.slice e)) (he : P.underlying e = some (.int k)) (hc : P.cellsOf e = 1) (h : DataW.trod enc P w base sp held fuel t [v] = some x) :
    ∃ zs : List Int, (zs = [] ∨ ∃ el sp, x.1 = .slice el sp ∧ zs.length ≤ el.length) ∧ RV fm w (fun _ => False) Mu.none (.vsl (zs.map (AV.int k)) none) v := by
  rcases open_ints ht he hc h with ⟨h1, _⟩ | ⟨a, len, cap, zs, h1, _, hlc, hcm, hz, hx, hcell, _⟩
  · simp only [List.cons.injEq, and_true] at h1
    subst h1
    exact ⟨[], .inl rfl, .vslNil _ (.inl rfl)⟩
  · simp only [List.cons.injEq, and_true] at h1
    subst h1
    by_cases h0 : len = 0
    · subst h0
      exact ⟨[], .inl rfl, .vslEmpty _ _ _ (.inl rfl)⟩
    have hlz : len ≤ zs.length := by rw [hz]; split <;> omega
    obtain ⟨b, off, rfl, hc'⟩ := ints_at hcell (by omega)
    have hlen : (zs.take len).length = len := by simp; omega
    refine ⟨zs.take len, .inr ⟨_, _, by rw [hx], by simp [lits]⟩, ?_⟩
    have hb : b < w.heap.size := by
      have := hc' 0 (by omega)
      unfold World.cell? at this
      have h' : w.heap[b]? ≠ none := fun e => by simp [e] at this
      rcases Nat.lt_or_ge b w.heap.size with h | h
      · exact h
      · exact absurd (by simpa using h) h'
    have := RV.vsl (fm := fm) (w := w) (X := fun _ => False) (μ := Mu.none) ((zs.take len).map (AV.int k)) none b off 1 cap (fun j => if j < len then .int k (zs.getD j 0) else Go.undef)
      (by rintro (h | ⟨_, _, h⟩) <;> simp [Mu.none] at h) hb (by intro x hx; obtain ⟨n, _, rfl⟩ := List.mem_map.1 hx; rfl) (by simp; omega) (.inl rfl)
      (fun j hj => by
        have hj' : j < len := by simpa [hlz] using hj
        simp only [hj', if_true]
        exact hc' j (by omega))
      (fun j => by
        have e1 : ((zs.take len).map (AV.int k)).flatMap AV.cells = (zs.take len).map (AV.int k) := by
          rw [List.flatMap_map]
          show ((zs.take len).flatMap fun n => [AV.int k n]) = _
          rw [← List.map_eq_flatMap]
        rw [e1]
        by_cases hj : j < len
        · have : ((zs.take len).map (AV.int k)).getD j .undef = .int k (zs.getD j 0) := by
            have h1 : j < zs.length := by omega
            simp [List.getD, hj, h1]
          rw [this]; simp only [hj, if_true]; exact .int _ _
        · have : ((zs.take len).map (AV.int k)).getD j .undef = .undef := by
            have h1 : ((zs.take len).map (AV.int k)).length ≤ j := by rw [List.length_map, hlen]; omega
            rw [List.getD, List.getElem?_eq_none h1]; rfl
          rw [this]; exact .undef _)
    rw [List.length_map, hlen] at this
    exact this

theorem sized_ints {ts : List TypeId} {ds : List (DataW H)} {zs : List Int} {d : DataW H} {j : Nat} {t e : TypeId} (h : (DataW.weightsEach P ts ds).all (· ≤ reachBytes) = true) (ht : ts[j]? = some t) (hd : ds[j]? = some d)
    (hu : P.underlying t = some (.slice e)) (hb : 1 ≤ P.bytesOf e) (hz : zs = [] ∨ ∃ el sp, d = .slice el sp ∧ zs.length ≤ el.length) : zs.length < big := by
  rcases hz with rfl | ⟨el, sp, rfl, hl⟩
  · decide
  · have h1 := sized_slice h ht hd hu
    have h2 : el.length + sp.length ≤ (el.length + sp.length) * P.bytesOf e := Nat.le_mul_of_pos_right _ hb
    have h3 := reachBytes_lt
    unfold big
    omega

/-- A variable whose cells are listed. -/
theorem rv_glob {w : World} {g' : Nat} {cells : List AV} {vs : List Value} (hlt : g' < w.heap.size) (hl : cells.length = vs.length) (hv : ∀ j, j < vs.length → w.cell? ⟨g', j, none⟩ = some (vs.getD j Go.undef))
    (hr : ∀ j, RV fm w (fun _ => False) Mu.none (cells.getD j .undef) (vs.getD j Go.undef)) : RV fm w (fun _ => False) Mu.none (.vptr cells 0) (.pointer (some ⟨g', 0, none⟩)) :=
  .vptr cells 0 g' 0 (fun j => vs.getD j Go.undef) (by rintro (h | ⟨_, _, h⟩) <;> simp [Mu.none] at h) hlt (fun j hj => by simpa using hv j (by omega)) hr

theorem rv_globInts {w : World} {g' : Nat} {k : IntKind} {zs : List Int} (hlt : g' < w.heap.size) (hv : ∀ j, j < zs.length → w.cell? ⟨g', j, none⟩ = some (.int k (zs.getD j 0))) :
    RV fm w (fun _ => False) Mu.none (.vptr (zs.map (AV.int k)) 0) (.pointer (some ⟨g', 0, none⟩)) := by
  refine rv_glob (vs := zs.map (Value.int k)) hlt (by simp) (fun j hj => ?_) (fun j => ?_)
  · have hj' : j < zs.length := by simpa using hj
    rw [hv j hj']; simp [List.getD, hj']
  · by_cases hj : j < zs.length
    · have e1 : (zs.map (AV.int k)).getD j .undef = .int k zs[j] := by simp [List.getD, hj]
      have e2 : (zs.map (Value.int k)).getD j Go.undef = .int k zs[j] := by simp [List.getD, hj]
      rw [e1, e2]; exact .int _ _
    · have e1 : (zs.map (AV.int k)).getD j .undef = .undef := by simp [List.getD, hj]
      rw [e1]; exact .undef _

/-- The arguments read behind a call that turned nothing old as they did before. -/
theorem trodAll_stays (hl : laidOutB P = true) {W W' : World} {sp' : Nat → Bool} : ∀ {ts : List TypeId} {vs : List Value} {ds : List (DataW H)} {ps : List MemPlace},
    (∀ t ∈ ts, P.readableRec t = true ∧ t < P.types.size) → DataW.TrodAll enc P W 0 (fun _ => true) true ts vs ds ps → (∀ p ∈ ps, W.sameAt W' p) → (∀ p ∈ ps, sp' p.block = true) → DataW.TrodAll enc P W' 0 sp' true ts vs ds ps
  | [], [], [], _, _, h, _, _ => h
  | t :: ts, v :: vs, d :: ds, ps, hr, ⟨p, q, h, hs, e⟩, hsame, hsp => by
    subst e
    refine ⟨p, q, WideElems.Trod_stays hl (hr t (by simp)).1 (hr t (by simp)).2 h (fun x hx => hsame x (by simp [hx])) (fun x hx => hsp x (by simp [hx])), ?_, rfl⟩
    exact trodAll_stays hl (fun t ht => hr t (by simp [ht])) hs (fun x hx => hsame x (by simp [hx])) (fun x hx => hsp x (by simp [hx]))
  | [], _ :: _, _, _, _, h, _, _ => h.elim
  | [], [], _ :: _, _, _, h, _, _ => h.elim
  | _ :: _, [], _, _, _, h, _, _ => h.elim
  | _ :: _, _ :: _, [], _, _, h, _, _ => h.elim

/-- What is asked of a law's call: true, and all as it was. -/
theorem law_post {f : Func} {s : ChangeSpec} {W W' : World} {args : Array Value} {ds gs : List (DataW H)} {before : List MemPlace} {tb : TypeId}
    (hv : s.vars = []) (hs : s.fn H ds = { results := [.lit (.bool true)], args := ds }) (hres : f.resultTypes = #[tb]) (ht : P.underlying tb = some .bool)
    (hl : laidOutB P = true) (hr : ∀ t ∈ f.params.toList, P.readableRec t = true ∧ t < P.types.size)
    (hW : DataW.Whole enc P f.params.toList s.vars false W args.toList ds gs before) (hb : Below W.heap.size W W') :
    s.post enc P f false true false false W args (.bool true) W' := by
  have hlt : ∀ p ∈ before, p.block < W.heap.size := fun p hp => hW.lt p hp
  have hW' := hW
  obtain ⟨p, q, hA, hV, rfl, _, _⟩ := hW'
  rw [hv] at hV
  obtain ⟨rfl, rfl⟩ := trodVars_none hV
  refine ⟨ds, [], p ++ [], [], p, [], hW, ?_, ?_, ?_, World.keptBut_mono (fun x hx => ⟨hx, .inr (.inl (by simpa using hx))⟩) (hb.frame (· ∈ p ++ [])), fun h => Bool.noConfusion h⟩
  · rw [List.append_nil, hs, hres]
    exact trodAll_cons_mk (shut_bool ht true) trodAll_mk0
  · rw [List.append_nil, hs]
    exact trodAll_stays hl hr hA (fun x hx => hb.same (hlt x (by simpa using hx))) (fun x hx => by simpa using hlt x (by simpa using hx))
  · rw [hv, List.append_nil, hs]
    exact rfl

/-- A LAW's CONTRACT, from the machine's call. -/
theorem law_contract {f : Func} {s : ChangeSpec} {W : World} {args : Array Value} {ds gs : List (DataW H)} {before : List MemPlace} {tb : TypeId} {id : Nat} {f' : FuncId} {avs : List AV}
    (hm : P.follows .mixedOrders = true) (hP : ProgOk P fm gm ipU drawOk) (hf : fm id = some f') (hgl : GlobOK fm gm gU W (fun _ => False) Mu.none)
    (hcall : cR id avs = some (.bool true)) (hrv : RVs fm W avs args.toList)
    (hv : s.vars = []) (hs : s.fn H ds = { results := [.lit (.bool true)], args := ds }) (hres : f.resultTypes = #[tb]) (ht : P.underlying tb = some .bool)
    (hl : laidOutB P = true) (hr : ∀ t ∈ f.params.toList, P.readableRec t = true ∧ t < P.types.size)
    (hW : DataW.Whole enc P f.params.toList s.vars false W args.toList ds gs before) :
    Calls P f' args W fun e W' => ∃ v, e = .returned v ∧ s.post enc P f false true false false W args v W' := by
  obtain ⟨n, σ1, hn⟩ := acall_of_cR hcall
  refine (acall_sound cR_glob (drawn_ok hm cR_glob) hP hn hf hgl (by simpa using hrv.1) (fun j => ?_)).mono ?_
  · have := hrv.2 j
    simpa using this
  · rintro e W' ⟨cv, μ', rfl, h2, h3⟩
    cases h2
    exact ⟨_, rfl, law_post hv hs hres ht hl hr hW h3⟩
end
end Go.Ab
/- What is of this seat: the texts are those of the program; the listed variables. -/
namespace Go.Ab
open Go.Lib Go.Proofs Go.Proofs.YtgckcnggblomgaaDoor Go.RowKit Go.ChangeShapes Go.WideShapes

theorem look_mem {α : Type} : ∀ {l : List (Nat × α)} {i : Nat} {x : α}, look l i = some x → (i, x) ∈ l
  | [], _, _, h => by simp [look] at h
  | (j, y) :: l, i, x, h => by
    simp only [look] at h
    split at h
    · rename_i e
      subst e
      simp only [Option.some.injEq] at h
      subst h
      simp
    · exact List.mem_cons_of_mem _ (look_mem h)

def gmD : Nat → Option Nat := fun i => look IrDGm i
def chkAll (P : Program) (l : List (Nat × Nat)) : Bool := l.all fun p => match ipU p.1 with | some F => funcChk P (fun i => look l i) gmD drawOk F p.2 | none => true
theorem progOk_of_all {P : Program} {l : List (Nat × Nat)} (h : chkAll P l = true) : ProgOk P (fun i => look l i) gmD ipU drawOk := by
  intro id F f' hF hf
  have := List.all_eq_true.1 h _ (look_mem hf)
  simp only [hF] at this
  exact this

set_option maxRecDepth 100000
theorem dOwn : ownKnob Tryd.prog.godebug = none := by kernel_rfl
theorem dMixed : Tryd.prog.follows .mixedOrders = true := by kernel_rfl
theorem dLaidOut : laidOutB Tryd.prog = true := by kernel_rfl
theorem dG0 : Tryd.prog.globalNamed "unicode/utf8.first" = some 0 := by kernel_rfl
theorem dG1 : Tryd.prog.globalNamed "unicode/utf8.acceptRanges" = some 1 := by kernel_rfl
theorem dY0 : (Tryd.prog.globals[0]?).map (·.type) = some 123 := by kernel_rfl
theorem dY1 : (Tryd.prog.globals[1]?).map (·.type) = some 126 := by kernel_rfl
theorem dFirst : Pinned.utf8First = tabData .u8 xL := by kernel_rfl
def accD : List Int := [0x80, 0xBF, 0xA0, 0xBF, 0x80, 0x9F, 0x90, 0xBF, 0x80, 0x8F] ++ List.replicate 22 0
theorem dAcc : (Rows.laid_unicode_utf8_acceptRanges : DataW Unit) = .agg ((List.range 16).map fun i => .agg ([accD.getD (2 * i) 0, accD.getD (2 * i + 1) 0].map fun z => .lit (.int .u8 z))) := by kernel_rfl
theorem gAcc_eqD : gAcc = accD.map (AV.int .u8) := by kernel_rfl

/-- A row of cells turned. -/
def putRow (cs : Array Value) : Obj → Obj
  | .cells _ t frozen => .cells cs t frozen
  | o => o
/-- A world for a witness: the settled one, the tables holding what is listed. -/
noncomputable def laidWorld (os : Os) : World :=
  { World.holding Tryd.prog os ⟨#[], #[], []⟩ with
    heap := ((World.holding Tryd.prog os ⟨#[], #[], []⟩).heap.modify 0 (putRow (xL.map (Value.int .u8)).toArray)).modify 1 (putRow (accD.map (Value.int .u8)).toArray) }

theorem dFirst_cells {W : World} (h : VarReads Tryd.prog W "unicode/utf8.first" Pinned.utf8First) : ∀ j, j < xL.length → W.cell? ⟨0, j, none⟩ = some (.int .u8 (xL.getD j 0)) := by
  intro j hj
  obtain ⟨g, t, cs, fuel, p, hg, hty, hvar, hd⟩ := h
  obtain rfl := Option.some.inj (dG0.symm.trans hg)
  obtain rfl := Option.some.inj (dY0.symm.trans hty)
  rw [dFirst] at hd
  have hcs := cells_of_tab (n := 256) (e := 5) Tryd.underlying123 Tryd.underlying5 (by kernel_rfl) (by kernel_rfl) hd
  have := World.var?_cell hg hvar j
  rw [this, ← Array.getElem?_toList, hcs]
  simp [List.getD, hj]

theorem dAcc_cells {W : World} (h : VarReads Tryd.prog W "unicode/utf8.acceptRanges" Rows.laid_unicode_utf8_acceptRanges) : ∀ j, j < accD.length → W.cell? ⟨1, j, none⟩ = some (.int .u8 (accD.getD j 0)) := by
  intro j hj
  obtain ⟨g, t, cs, fuel, p, hg, hty, hvar, hd⟩ := h
  obtain rfl := Option.some.inj (dG1.symm.trans hg)
  obtain rfl := Option.some.inj (dY1.symm.trans hty)
  rw [dAcc] at hd
  have hi : j / 2 < 16 := by have : j < 32 := hj; omega
  obtain ⟨fuel', d, q, hdi, he⟩ := array_elem (n := 16) (e := 125) Tryd.underlying126 hd (j / 2) hi
  simp only [List.getElem?_map, List.getElem?_range hi, Option.map_some, Option.some.injEq] at hdi
  subst hdi
  rw [show Tryd.prog.cellsOf 125 = 2 by kernel_rfl] at he
  have hcs := ints_of_struct Tryd.underlying125 (fun i f hf => by
    match i, hf with
    | 0, hf => simp at hf; subst hf; exact ⟨Tryd.underlying5, rfl, by kernel_rfl⟩
    | 1, hf => simp at hf; subst hf; exact ⟨Tryd.underlying5, rfl, by kernel_rfl⟩
    | i + 2, hf => simp at hf) (by kernel_rfl) he
  have e0 := congrArg (·[j % 2]?) hcs
  simp only [List.getElem?_take, List.getElem?_drop] at e0
  rw [World.var?_cell hg hvar j, ← Array.getElem?_toList]
  have hj2 : j / 2 * 2 + j % 2 = j := by omega
  rw [hj2] at e0
  rw [if_pos (by omega)] at e0
  rw [e0]
  rcases (by omega : j % 2 = 0 ∨ j % 2 = 1) with h | h
  · rw [h]; simp; congr 2; omega
  · rw [h]; simp; congr 2; omega

theorem globOK {W : World} {fm : Nat → Option Nat} (h : laidMetH Tryd.prog Rows.rulesAllowsRow.laid W) (hs : W.ShapedOpen Tryd.prog) : GlobOK fm gmD gU W (fun _ => False) Mu.none := by
  have hl : laidMet Tryd.prog Rows.rulesAllowsRow.laid W := h
  have h0 := dFirst_cells (Lib.laidMet.reads hl (n := "unicode/utf8.first") (d := Pinned.utf8First) (List.mem_cons_of_mem _ List.mem_cons_self))
  have h1 := dAcc_cells (Lib.laidMet.reads hl (n := "unicode/utf8.acceptRanges") (d := Rows.laid_unicode_utf8_acceptRanges) List.mem_cons_self)
  obtain ⟨m, h2⟩ := cell_of_shapedOpen_int (g := 2) (t := 3) (zero := #[.int .i64 0]) (k := .i64) hs (of_decide_eq_true (by kernel_rfl)) (by kernel_rfl) rfl (by kernel_rfl) (by kernel_rfl) Tryd.underlying3
  have hlt : ∀ g off v, W.cell? ⟨g, off, none⟩ = some v → g < W.heap.size := fun g off v h => by
    unfold World.cell? at h
    rcases Nat.lt_or_ge g W.heap.size with h' | h'
    · exact h'
    · have : W.heap[g]? = none := by simpa using h'
      simp [this] at h
  intro g g' hg
  have hcase : (g = 0 ∧ g' = 0) ∨ (g = 1 ∧ g' = 1) ∨ (g = 2 ∧ g' = 2) := by
    have := look_mem hg
    simpa [IrDGm] using this
  rcases hcase with ⟨rfl, rfl⟩ | ⟨rfl, rfl⟩ | ⟨rfl, rfl⟩
  · exact rv_globInts (zs := xL) (hlt _ _ _ (h0 0 (of_decide_eq_true (by kernel_rfl)))) h0
  · show RV fm W _ _ (.vptr gAcc 0) _
    rw [gAcc_eqD]
    exact rv_globInts (hlt _ _ _ (h1 0 (of_decide_eq_true (by kernel_rfl)))) h1
  · exact rv_glob (vs := []) (hlt _ _ _ h2) rfl (fun j hj => absurd hj (Nat.not_lt_zero _)) (fun j => by rw [show gU 2 = [] from rfl]; simpa using RV.undef _)
end Go.Ab
/- Values: depth, good, members. -/
namespace Go.Ab
set_option linter.unusedSimpArgs false
set_option maxHeartbeats 1000000
set_option maxRecDepth 100000
mutual
def V.dep : V → Nat
  | .mk k _ _ l m => if k = 4 then depL l + 1 else if k = 5 then depM m + 1 else 0
def depL : List V → Nat
  | [] => 0
  | v :: r => max v.dep (depL r)
def depM : List (Bs × V) → Nat
  | [] => 0
  | (_, v) :: r => max v.dep (depM r)
end
theorem V.dep_eq (v : V) : v.dep = if v.kind = 4 then depL v.l + 1 else if v.kind = 5 then depM v.m + 1 else 0 := by cases v; rw [V.dep]; rfl
theorem depM_cons (x : Mem) (r : List Mem) : depM (x :: r) = max x.2.dep (depM r) := by
  obtain ⟨k, v⟩ := x; rw [depM]
mutual
theorem V.dep_le : ∀ v : V, v.dep ≤ v.sz
  | .mk k n s l m => by
    have h1 := depL_le l
    have h2 := depM_le m
    simp only [V.dep, V.sz]
    split
    · omega
    · split <;> omega
theorem depL_le : ∀ l : List V, depL l ≤ szL l
  | [] => by simp [depL]
  | v :: r => by have := V.dep_le v; have := depL_le r; simp only [depL, szL]; omega
theorem depM_le : ∀ l : List (Bs × V), depM l ≤ szM l
  | [] => by simp [depM]
  | (k, v) :: r => by have := V.dep_le v; have := depM_le r; simp only [depM, szM]; omega
end
theorem max2N (a b : Nat) : (if (b : Int) > (a : Int) then (b : Int) else (a : Int)) = ((max a b : Nat) : Int) := by
  split <;> omega
theorem max2N' (a b : Nat) : (if (a : Int) < (b : Int) then (b : Int) else (a : Int)) = ((max a b : Nat) : Int) := by
  split <;> omega

theorem r_depN : ∀ (n : Nat) (v : V), v.sz < n → v.sz < big → cR 49 [v.enc] = some (.int .i64 (v.dep : Nat)) := by
  intro n
  induction n with
  | zero => intro v h; omega
  | succ n ih =>
    intro v h hb
    have hsz := v.sz_eq
    have hl := szL_len v.l
    have hm := szM_len v.m
    have hdl := depL_le v.l
    have hdm := depM_le v.m
    unfold big at hb
    have ihL : ∀ x ∈ v.l, cR 49 [x.enc] = some (.int .i64 (x.dep : Nat)) := fun x hx => by
      have := szL_mem hx
      exact ih x (by omega) (by unfold big; omega)
    have ihM : ∀ x ∈ v.m, cR 49 [x.2.enc] = some (.int .i64 (x.2.dep : Nat)) := fun x hx => by
      have := szM_mem hx
      exact ih x.2 (by omega) (by unfold big; omega)
    refine cR_of (F := F49) rfl ?_
    rw [V.dep_eq]
    by_cases h4 : v.kind = 4
    · have q4 : (v.kind == 4) = true := by simp [h4]
      simp only [F49_0, F49_1, F49_2, F49_3, F49_4, F49_5, F49_6, F49_7, F49_8, F49_9, F49_10, F49_11, F49_12, F49_13, F49_14, F49_15, F49_16, F49_17, F49_19, F49_20, F49_21, F49_22, F49_23, F49_24, F49_25, F49_26, F49_27, F49_28, F49_29, F49_30, F49_31, F49_32, F49_33, F49_34, F49_35, F49_36, F49_37, F49_39, F49_40, F49_41, F49_42, F49_43, F49_44, F49_45, F49_46, F49_47, F49_48, F49_49, F49_50, F49_51, F49_52, F49_53, F49_54, F49_55, F49_56, F49_57, F49_58, F49_59, F49_60, F49_61, F49, ex_loop, EX0, EX1, EX2, EX3, EX4, EX5, if_true, if_false, implies_true, forall_const, ne_eq, Nat.reduceEqDiff, reduceIte, reduceCtorEq, Nat.reduceAdd, Nat.reduceLeDiff, Nat.reduceSub, Nat.reduceMul, Int.reduceEq, Int.reduceBEq, Int.reduceBNe, Int.reduceLT, Int.reduceLE, Nat.reduceLT, VX, readAt_some, q4, h4]
      refine ex_whileI (S := Nat × Nat) (fun p => [(3, .int .i64 (p.2 : Int)), (13, .vsl (v.l.map V.enc) none), (14, .int .i64 v.l.length), (15, .int .i64 (p.1 : Int))]) (fun p => v.l.length - p.1) (fun p _ => max p.2 (depL (v.l.drop p.1)) = depL v.l) ?_ (0, 0) _ (by simp)
      rintro b ⟨j, a⟩ σ hj ih2
      simp only at hj ih2 ⊢
      by_cases hlt : j < v.l.length
      · obtain ⟨x, hx⟩ := get_lt hlt
        have hidx := idx_map (f := V.enc) (sz := 5) (c := none) hx (by simp [V.enc_cells])
        have hcond := dlt hlt
        have hcall := ihL x (List.mem_of_getElem? hx)
        rw [drop_cons hx, depL] at hj
        simp only [F49_0, F49_1, F49_2, F49_3, F49_4, F49_5, F49_6, F49_7, F49_8, F49_9, F49_10, F49_11, F49_12, F49_13, F49_14, F49_15, F49_16, F49_17, F49_18, F49_19, F49_20, F49_21, F49_22, F49_23, F49_24, F49_25, F49_26, F49_27, F49_28, F49_29, F49_30, F49_31, F49_32, F49_33, F49_34, F49_35, F49_36, F49_37, F49_38, F49_39, F49_40, F49_41, F49_42, F49_43, F49_44, F49_45, F49_46, F49_47, F49_48, F49_49, F49_50, F49_51, F49_52, F49_53, F49_54, F49_55, F49_56, F49_57, F49_58, F49_59, F49_60, F49_61, F49, EX0, EX1, EX2, EX3, EX4, EX5, if_true, if_false, implies_true, forall_const, ne_eq, Nat.reduceEqDiff, reduceIte, reduceCtorEq, Nat.reduceAdd, Nat.reduceLeDiff, Nat.reduceSub, Nat.reduceMul, Int.reduceEq, Int.reduceBEq, Int.reduceBNe, Int.reduceLT, Int.reduceLE, Nat.reduceLT, VX, readAt_some, hcond, hidx, hcall, max2N']
        exact ih2 (j + 1, max a x.dep) _ _ (by simp; omega) (by simp only; omega) (by rw [wsucc hlt (by omega)]; simp only [EX0, EX1, EX2, EX3, EX4, EX5, if_true, if_false, implies_true, forall_const, ne_eq, Nat.reduceEqDiff, reduceIte, reduceCtorEq, Nat.reduceAdd, Nat.reduceLeDiff, Nat.reduceSub, Nat.reduceMul, Int.reduceEq, Int.reduceBEq, Int.reduceBNe, Int.reduceLT, Int.reduceLE, Nat.reduceLT])
      · have hcond := dge (Nat.not_lt.1 hlt)
        rw [List.drop_eq_nil_of_le (by omega), depL] at hj
        have hw := wsucc (j := a) (n := szL v.l + 1) (by omega) (by omega)
        simp only [F49_0, F49_1, F49_2, F49_3, F49_4, F49_5, F49_6, F49_7, F49_8, F49_9, F49_10, F49_11, F49_12, F49_13, F49_14, F49_15, F49_16, F49_17, F49_18, F49_19, F49_20, F49_21, F49_22, F49_23, F49_24, F49_25, F49_26, F49_27, F49_28, F49_29, F49_30, F49_31, F49_32, F49_33, F49_34, F49_35, F49_36, F49_37, F49_38, F49_39, F49_40, F49_41, F49_42, F49_43, F49_44, F49_45, F49_46, F49_47, F49_48, F49_49, F49_50, F49_51, F49_52, F49_53, F49_54, F49_55, F49_56, F49_57, F49_58, F49_59, F49_60, F49_61, F49, EX0, EX1, EX2, EX3, EX4, EX5, if_true, if_false, implies_true, forall_const, ne_eq, Nat.reduceEqDiff, reduceIte, reduceCtorEq, Nat.reduceAdd, Nat.reduceLeDiff, Nat.reduceSub, Nat.reduceMul, Int.reduceEq, Int.reduceBEq, Int.reduceBNe, Int.reduceLT, Int.reduceLE, Nat.reduceLT, VX, hcond, hw]
        rw [show a = depL v.l by omega]
    · have q4 : (v.kind == 4) = false := by simp [h4]
      by_cases h5 : v.kind = 5
      · have q5 : (v.kind == 5) = true := by simp [h5]
        simp only [F49_0, F49_1, F49_2, F49_3, F49_4, F49_5, F49_6, F49_7, F49_8, F49_9, F49_10, F49_11, F49_12, F49_13, F49_14, F49_15, F49_16, F49_17, F49_19, F49_20, F49_21, F49_22, F49_23, F49_24, F49_25, F49_26, F49_27, F49_28, F49_29, F49_30, F49_31, F49_32, F49_33, F49_34, F49_35, F49_36, F49_37, F49_39, F49_40, F49_41, F49_42, F49_43, F49_44, F49_45, F49_46, F49_47, F49_48, F49_49, F49_50, F49_51, F49_52, F49_53, F49_54, F49_55, F49_56, F49_57, F49_58, F49_59, F49_60, F49_61, F49, ex_loop, EX0, EX1, EX2, EX3, EX4, EX5, if_true, if_false, implies_true, forall_const, ne_eq, Nat.reduceEqDiff, reduceIte, reduceCtorEq, Nat.reduceAdd, Nat.reduceLeDiff, Nat.reduceSub, Nat.reduceMul, Int.reduceEq, Int.reduceBEq, Int.reduceBNe, Int.reduceLT, Int.reduceLE, Nat.reduceLT, VX, readAt_some, q4, q5, h4, h5]
        refine ex_whileI (S := Nat × Nat) (fun p => [(3, .int .i64 (p.2 : Int)), (27, .vsl (v.m.map memE) none), (28, .int .i64 v.m.length), (29, .int .i64 (p.1 : Int))]) (fun p => v.m.length - p.1) (fun p _ => max p.2 (depM (v.m.drop p.1)) = depM v.m) ?_ (0, 0) _ (by simp)
        rintro b ⟨j, a⟩ σ hj ih2
        simp only at hj ih2 ⊢
        by_cases hlt : j < v.m.length
        · obtain ⟨x, hx⟩ := get_lt hlt
          have hidx := idx_map (f := memE) (sz := 6) (c := none) hx (by simp [memE_cells])
          have hcond := dlt hlt
          have hcall := ihM x (List.mem_of_getElem? hx)
          rw [drop_cons hx, depM_cons] at hj
          simp only [F49_0, F49_1, F49_2, F49_3, F49_4, F49_5, F49_6, F49_7, F49_8, F49_9, F49_10, F49_11, F49_12, F49_13, F49_14, F49_15, F49_16, F49_17, F49_18, F49_19, F49_20, F49_21, F49_22, F49_23, F49_24, F49_25, F49_26, F49_27, F49_28, F49_29, F49_30, F49_31, F49_32, F49_33, F49_34, F49_35, F49_36, F49_37, F49_38, F49_39, F49_40, F49_41, F49_42, F49_43, F49_44, F49_45, F49_46, F49_47, F49_48, F49_49, F49_50, F49_51, F49_52, F49_53, F49_54, F49_55, F49_56, F49_57, F49_58, F49_59, F49_60, F49_61, F49, EX0, EX1, EX2, EX3, EX4, EX5, if_true, if_false, implies_true, forall_const, ne_eq, Nat.reduceEqDiff, reduceIte, reduceCtorEq, Nat.reduceAdd, Nat.reduceLeDiff, Nat.reduceSub, Nat.reduceMul, Int.reduceEq, Int.reduceBEq, Int.reduceBNe, Int.reduceLT, Int.reduceLE, Nat.reduceLT, VX, readAt_some, hcond, hidx, hcall, max2N']
          exact ih2 (j + 1, max a x.2.dep) _ _ (by simp; omega) (by simp only; omega) (by rw [wsucc hlt (by omega)]; simp only [EX0, EX1, EX2, EX3, EX4, EX5, if_true, if_false, implies_true, forall_const, ne_eq, Nat.reduceEqDiff, reduceIte, reduceCtorEq, Nat.reduceAdd, Nat.reduceLeDiff, Nat.reduceSub, Nat.reduceMul, Int.reduceEq, Int.reduceBEq, Int.reduceBNe, Int.reduceLT, Int.reduceLE, Nat.reduceLT])
        · have hcond := dge (Nat.not_lt.1 hlt)
          rw [List.drop_eq_nil_of_le (by omega), depM] at hj
          have hw := wsucc (j := a) (n := szM v.m + 1) (by omega) (by omega)
          simp only [F49_0, F49_1, F49_2, F49_3, F49_4, F49_5, F49_6, F49_7, F49_8, F49_9, F49_10, F49_11, F49_12, F49_13, F49_14, F49_15, F49_16, F49_17, F49_18, F49_19, F49_20, F49_21, F49_22, F49_23, F49_24, F49_25, F49_26, F49_27, F49_28, F49_29, F49_30, F49_31, F49_32, F49_33, F49_34, F49_35, F49_36, F49_37, F49_38, F49_39, F49_40, F49_41, F49_42, F49_43, F49_44, F49_45, F49_46, F49_47, F49_48, F49_49, F49_50, F49_51, F49_52, F49_53, F49_54, F49_55, F49_56, F49_57, F49_58, F49_59, F49_60, F49_61, F49, EX0, EX1, EX2, EX3, EX4, EX5, if_true, if_false, implies_true, forall_const, ne_eq, Nat.reduceEqDiff, reduceIte, reduceCtorEq, Nat.reduceAdd, Nat.reduceLeDiff, Nat.reduceSub, Nat.reduceMul, Int.reduceEq, Int.reduceBEq, Int.reduceBNe, Int.reduceLT, Int.reduceLE, Nat.reduceLT, VX, hcond, hw]
          rw [show a = depM v.m by omega]
      · have q5 : (v.kind == 5) = false := by simp [h5]
        simp only [F49_0, F49_1, F49_2, F49_3, F49_4, F49_5, F49_6, F49_7, F49_8, F49_9, F49_10, F49_11, F49_12, F49_13, F49_14, F49_15, F49_16, F49_17, F49_19, F49_20, F49_21, F49_22, F49_23, F49_24, F49_25, F49_26, F49_27, F49_28, F49_29, F49_30, F49_31, F49_32, F49_33, F49_34, F49_35, F49_36, F49_37, F49_39, F49_40, F49_41, F49_42, F49_43, F49_44, F49_45, F49_46, F49_47, F49_48, F49_49, F49_50, F49_51, F49_52, F49_53, F49_54, F49_55, F49_56, F49_57, F49_58, F49_59, F49_60, F49_61, F49, EX0, EX1, EX2, EX3, EX4, EX5, if_true, if_false, implies_true, forall_const, ne_eq, Nat.reduceEqDiff, reduceIte, reduceCtorEq, Nat.reduceAdd, Nat.reduceLeDiff, Nat.reduceSub, Nat.reduceMul, Int.reduceEq, Int.reduceBEq, Int.reduceBNe, Int.reduceLT, Int.reduceLE, Nat.reduceLT, VX, readAt_some, q4, q5, h4, h5]
        rfl
theorem r_dep (v : V) (hb : v.sz < big) : cR 49 [v.enc] = some (.int .i64 (v.dep : Nat)) := r_depN (v.sz + 1) v (Nat.lt_succ_self _) hb
def V.good (v : V) : Bool := v.fine && decide (v.dep ≤ 50)
theorem r_good (v : V) (hb : v.sz < big) : cR 25 [v.enc] = some (.bool v.good) := by
  have h1 : decide ((v.dep : Int) ≤ 50) = decide (v.dep ≤ 50) := by rw [decide_eq_decide]; omega
  refine cR_of (F := F25) rfl ?_
  simp only [F25_0, F25_1, F25_2, F25_3, F25_4, F25, EX0, EX1, EX2, EX3, EX4, EX5, if_true, if_false, implies_true, forall_const, ne_eq, Nat.reduceEqDiff, reduceIte, reduceCtorEq, Nat.reduceAdd, Nat.reduceLeDiff, Nat.reduceSub, Nat.reduceMul, Int.reduceEq, Int.reduceBEq, Int.reduceBNe, Int.reduceLT, Int.reduceLE, Nat.reduceLT, VX, readAt_some, r_fine v hb, r_dep v hb, h1, V.good]
  repeat' split
  all_goals simp_all
def V.zero : V := V.mk 0 0 [] [] []
def said (v : V) : V := if v.good && v.kind == 5 then v else V.zero
theorem r_said (v : V) (hb : v.sz < big) : cR 43 [v.enc] = some (said v).enc := by
  refine cR_of (F := F43) rfl ?_
  cases hg : v.good
  · simp only [F43_0, F43_1, F43_2, F43_3, F43_4, F43_5, F43_6, F43_7, F43_8, F43_9, F43_10, F43_11, F43_12, F43, EX0, EX1, EX2, EX3, EX4, EX5, if_true, if_false, implies_true, forall_const, ne_eq, Nat.reduceEqDiff, reduceIte, reduceCtorEq, Nat.reduceAdd, Nat.reduceLeDiff, Nat.reduceSub, Nat.reduceMul, Int.reduceEq, Int.reduceBEq, Int.reduceBNe, Int.reduceLT, Int.reduceLE, Nat.reduceLT, VX, readAt_some, r_good v hb, hg, said, V.zero, Bool.false_and]
  · by_cases h5 : v.kind = 5
    · have q : (v.kind != 5) = false := by simp [h5]
      have q2 : (v.kind == 5) = true := by simp [h5]
      simp only [F43_0, F43_1, F43_2, F43_3, F43_4, F43_5, F43_6, F43_7, F43_8, F43_9, F43_10, F43_11, F43_12, F43, EX0, EX1, EX2, EX3, EX4, EX5, if_true, if_false, implies_true, forall_const, ne_eq, Nat.reduceEqDiff, reduceIte, reduceCtorEq, Nat.reduceAdd, Nat.reduceLeDiff, Nat.reduceSub, Nat.reduceMul, Int.reduceEq, Int.reduceBEq, Int.reduceBNe, Int.reduceLT, Int.reduceLE, Nat.reduceLT, VX, readAt_some, r_good v hb, hg, said, V.zero, q, q2]
    · have q : (v.kind != 5) = true := by simp [h5]
      have q2 : (v.kind == 5) = false := by simp [h5]
      simp only [F43_0, F43_1, F43_2, F43_3, F43_4, F43_5, F43_6, F43_7, F43_8, F43_9, F43_10, F43_11, F43_12, F43, EX0, EX1, EX2, EX3, EX4, EX5, if_true, if_false, implies_true, forall_const, ne_eq, Nat.reduceEqDiff, reduceIte, reduceCtorEq, Nat.reduceAdd, Nat.reduceLeDiff, Nat.reduceSub, Nat.reduceMul, Int.reduceEq, Int.reduceBEq, Int.reduceBNe, Int.reduceLT, Int.reduceLE, Nat.reduceLT, VX, readAt_some, r_good v hb, hg, said, V.zero, q, q2]
end Go.Ab
/- Values: members looked up. -/
namespace Go.Ab
set_option linter.unusedSimpArgs false
set_option maxHeartbeats 1000000
set_option maxRecDepth 100000
theorem bl_irrefl : ∀ a : Bs, bytesLess a a = false
  | [] => rfl
  | x :: r => by simp [bytesLess, bl_irrefl r]
theorem bl_asymm : ∀ {a b : Bs}, bytesLess a b = true → bytesLess b a = false
  | [], [], h => by simp [bytesLess] at h
  | [], _ :: _, _ => rfl
  | _ :: _, [], h => by simp [bytesLess] at h
  | x :: r, y :: s, h => by
    simp only [bytesLess, Bool.or_eq_true, decide_eq_true_eq, Bool.and_eq_true, beq_iff_eq] at h
    rw [← Bool.not_eq_true]
    simp only [bytesLess, Bool.or_eq_true, decide_eq_true_eq, Bool.and_eq_true, beq_iff_eq]
    rintro (h2 | ⟨rfl, h2⟩)
    · rcases h with h | ⟨rfl, h⟩
      · exact absurd h2 (UInt8.lt_asymm h)
      · exact UInt8.lt_irrefl _ h2
    · rcases h with h | ⟨_, h⟩
      · exact UInt8.lt_irrefl _ h
      · rw [bl_asymm h] at h2; simp at h2
theorem bl_total : ∀ {a b : Bs}, bytesLess a b = false → bytesLess b a = false → a = b
  | [], [], _, _ => rfl
  | [], _ :: _, h, _ => by simp [bytesLess] at h
  | _ :: _, [], _, h => by simp [bytesLess] at h
  | x :: r, y :: s, h, h2 => by
    simp only [bytesLess, Bool.or_eq_false_iff, decide_eq_false_iff_not, Bool.and_eq_false_iff, beq_eq_false_iff_ne] at h h2
    have hxy : x = y := UInt8.le_antisymm (UInt8.not_lt.1 h2.1) (UInt8.not_lt.1 h.1)
    subst hxy
    have h3 : bytesLess r s = false := by rcases h.2 with h | h; exact absurd rfl h; exact h
    have h4 : bytesLess s r = false := by rcases h2.2 with h | h; exact absurd rfl h; exact h
    rw [bl_total h3 h4]
theorem bl_trans : ∀ {a b c : Bs}, bytesLess a b = true → bytesLess b c = true → bytesLess a c = true
  | _, [], _, h, _ => by cases ‹Bs› <;> simp [bytesLess] at h
  | _, _ :: _, [], _, h => by simp [bytesLess] at h
  | [], _ :: _, _ :: _, _, _ => rfl
  | x :: r, y :: s, z :: t, h, h2 => by
    simp only [bytesLess, Bool.or_eq_true, decide_eq_true_eq, Bool.and_eq_true, beq_iff_eq] at h h2 ⊢
    rcases h with h | ⟨rfl, h⟩
    · rcases h2 with h2 | ⟨rfl, h2⟩
      · exact .inl (UInt8.lt_trans h h2)
      · exact .inl h
    · rcases h2 with h2 | ⟨rfl, h2⟩
      · exact .inl h2
      · exact .inr ⟨rfl, bl_trans h h2⟩
theorem keyC_lt (a b : Bs) : decide (keyC a b < 0) = bytesLess a b := by
  unfold keyC
  cases h : bytesLess a b <;> cases h2 : bytesLess b a <;> simp
theorem keyC_eq (a b : Bs) : (keyC a b == 0) = (a == b) := by
  unfold keyC
  cases h : bytesLess a b
  · cases h2 : bytesLess b a
    · rw [bl_total h h2]; simp
    · have : a ≠ b := by rintro rfl; rw [bl_irrefl] at h2; simp at h2
      simp [this]
  · have : a ≠ b := by rintro rfl; rw [bl_irrefl] at h; simp at h
    simp [this]

def keyAt (m : List Mem) (i : Nat) : Bs := match m[i]? with
  | some x => x.1
  | none => []
def bsF (m : List Mem) (k : Bs) (i j : Nat) : Nat :=
  if i < j then (if bytesLess (keyAt m ((i + j) / 2)) k = true then bsF m k ((i + j) / 2 + 1) j else bsF m k i ((i + j) / 2)) else i
termination_by j - i
decreasing_by all_goals omega
theorem u64n {n : Nat} (h : n < 9223372036854775808) : IntKind.wrap .u64 (n : Int) = (n : Int) := by
  simp [IntKind.wrap, IntKind.bits, IntKind.signed]; omega
theorem i64n {n : Nat} (h : n < 9223372036854775808) : IntKind.wrap .i64 (n : Int) = (n : Int) := by
  simp [IntKind.wrap, IntKind.bits, IntKind.signed]; omega
theorem shr1 (n : Nat) : shiftInt .shr .u64 (n : Int) 1 = some (.int .u64 ((n / 2 : Nat) : Int)) := by
  have : Int.fdiv (n : Int) 2 = ((n / 2 : Nat) : Int) := by
    rw [Int.fdiv_eq_ediv_of_nonneg _ (by omega)]; omega
  simp [shiftInt, IntKind.bits, this]
theorem r_bsearch (m : List Mem) (k : Bs) (x : V) (hb : m.length < big) :
    cR 83 [.vsl (m.map memE) none, memE (k, x), .fn 40 [] []] = some (.tup [.int .i64 (bsF m k 0 m.length : Nat), .bool (decide (bsF m k 0 m.length < m.length) && (keyAt m (bsF m k 0 m.length) == k))]) := by
  unfold big at hb
  refine cR_of (F := F83) rfl ?_
  simp only [F83_0, F83_1, F83_2, F83_3, F83_4, F83_5, F83_6, F83_7, F83_8, F83_9, F83_10, F83_11, F83_12, F83_13, F83_14, F83_15, F83_16, F83_17, F83_19, F83_20, F83_21, F83_22, F83_23, F83_24, F83_25, F83_26, F83_27, F83_28, F83_29, F83_30, F83, ex_loop, EX0, EX1, EX2, EX3, EX4, EX5, if_true, if_false, implies_true, forall_const, ne_eq, Nat.reduceEqDiff, reduceIte, reduceCtorEq, Nat.reduceAdd, Nat.reduceLeDiff, Nat.reduceSub, Nat.reduceMul, Int.reduceEq, Int.reduceBEq, Int.reduceBNe, Int.reduceLT, Int.reduceLE, Nat.reduceLT, VX, readAt_some]
  have hQ : ∀ (i j : Nat) (σ : Store), i ≤ j → j ≤ m.length → bsF m k i j = bsF m k 0 m.length → True := fun _ _ _ _ _ _ => trivial
  refine ex_while (S := Nat × Nat) (fun p => [(0, .vsl (m.map memE) none), (2, .fn 40 [] []), (4, .vptr [.str k, .int .i64 x.kind, .int .i64 x.n, .str x.s, .vsl (x.l.map V.enc) none, .vsl (x.m.map memE) none] 0), (8, .int .i64 m.length), (9, .int .i64 (p.1 : Int)), (10, .int .i64 (p.2 : Int))]) (fun _ => .empty) (fun p => p.2 - p.1)
    (fun p => bsF m k p.1 p.2 = bsF m k 0 m.length ∧ p.1 ≤ p.2 ∧ p.2 ≤ m.length) ?_ (0, m.length) ⟨rfl, by simp, by simp⟩
  rintro b ⟨i, j⟩ ⟨h1, h2, h3⟩ ih
  simp only at h1 h2 h3 ih ⊢
  by_cases hlt : i < j
  · have hc := dlt hlt
    obtain ⟨c, hcdef⟩ : ∃ c, c = (i + j) / 2 := ⟨_, rfl⟩
    have hcm : c < m.length := by omega
    obtain ⟨y, hy⟩ := get_lt hcm
    have hidx := idx_map (f := memE) (sz := 6) (c := none) hy (by simp [memE_cells])
    have w1 := wadd (a := i) (b := j) (by omega)
    have w2 := u64n (n := i + j) (by omega)
    have w3 := i64n (n := c) (by omega)
    have w4 := shr1 (i + j)
    rw [← hcdef] at w4
    have hk := r_key y (k, x)
    have hkey : keyAt m c = y.1 := by simp [keyAt, hy]
    have hstep := h1
    rw [bsF, if_pos hlt, ← hcdef, hkey] at hstep
    cases hl : bytesLess y.1 k
    · rw [hl, if_neg (by simp)] at hstep
      simp only [F83_0, F83_1, F83_2, F83_3, F83_4, F83_5, F83_6, F83_7, F83_8, F83_9, F83_10, F83_11, F83_12, F83_13, F83_14, F83_15, F83_16, F83_17, F83_18, F83_19, F83_20, F83_21, F83_22, F83_23, F83_24, F83_25, F83_26, F83_27, F83_28, F83_29, F83_30, F83, EX0, EX1, EX2, EX3, EX4, EX5, if_true, if_false, implies_true, forall_const, ne_eq, Nat.reduceEqDiff, reduceIte, reduceCtorEq, Nat.reduceAdd, Nat.reduceLeDiff, Nat.reduceSub, Nat.reduceMul, Int.reduceEq, Int.reduceBEq, Int.reduceBNe, Int.reduceLT, Int.reduceLE, Nat.reduceLT, VX, readAt_some, hc, w1, w2, w3, w4, hidx, hk, keyC_lt, hl]
      exact ih (i, c) _ _ (by simp; omega) ⟨hstep, by simp; omega, by simp; omega⟩ (by simp only [EX0, EX1, EX2, EX3, EX4, EX5, if_true, if_false, implies_true, forall_const, ne_eq, Nat.reduceEqDiff, reduceIte, reduceCtorEq, Nat.reduceAdd, Nat.reduceLeDiff, Nat.reduceSub, Nat.reduceMul, Int.reduceEq, Int.reduceBEq, Int.reduceBNe, Int.reduceLT, Int.reduceLE, Nat.reduceLT]) rfl
    · rw [hl, if_pos rfl] at hstep
      have w5 := wsucc hcm (by omega)
      simp only [F83_0, F83_1, F83_2, F83_3, F83_4, F83_5, F83_6, F83_7, F83_8, F83_9, F83_10, F83_11, F83_12, F83_13, F83_14, F83_15, F83_16, F83_17, F83_18, F83_19, F83_20, F83_21, F83_22, F83_23, F83_24, F83_25, F83_26, F83_27, F83_28, F83_29, F83_30, F83, EX0, EX1, EX2, EX3, EX4, EX5, if_true, if_false, implies_true, forall_const, ne_eq, Nat.reduceEqDiff, reduceIte, reduceCtorEq, Nat.reduceAdd, Nat.reduceLeDiff, Nat.reduceSub, Nat.reduceMul, Int.reduceEq, Int.reduceBEq, Int.reduceBNe, Int.reduceLT, Int.reduceLE, Nat.reduceLT, VX, readAt_some, hc, w1, w2, w3, w4, hidx, hk, keyC_lt, hl, w5]
      exact ih (c + 1, j) _ _ (by simp; omega) ⟨hstep, by simp; omega, by simp; omega⟩ (by simp only [EX0, EX1, EX2, EX3, EX4, EX5, if_true, if_false, implies_true, forall_const, ne_eq, Nat.reduceEqDiff, reduceIte, reduceCtorEq, Nat.reduceAdd, Nat.reduceLeDiff, Nat.reduceSub, Nat.reduceMul, Int.reduceEq, Int.reduceBEq, Int.reduceBNe, Int.reduceLT, Int.reduceLE, Nat.reduceLT]) rfl
  · have hc := dge (Nat.not_lt.1 hlt)
    have hi : bsF m k 0 m.length = i := by rw [← h1, bsF, if_neg hlt]
    rw [hi]
    by_cases him : i < m.length
    · obtain ⟨y, hy⟩ := get_lt him
      have hidx := idx_map (f := memE) (sz := 6) (c := none) hy (by simp [memE_cells])
      have hk := r_key y (k, x)
      have hc2 := dlt him
      have hkey : keyAt m i = y.1 := by simp [keyAt, hy]
      simp only [F83_0, F83_1, F83_2, F83_3, F83_4, F83_5, F83_6, F83_7, F83_8, F83_9, F83_10, F83_11, F83_12, F83_13, F83_14, F83_15, F83_16, F83_17, F83_18, F83_19, F83_20, F83_21, F83_22, F83_23, F83_24, F83_25, F83_26, F83_27, F83_28, F83_29, F83_30, F83, EX0, EX1, EX2, EX3, EX4, EX5, if_true, if_false, implies_true, forall_const, ne_eq, Nat.reduceEqDiff, reduceIte, reduceCtorEq, Nat.reduceAdd, Nat.reduceLeDiff, Nat.reduceSub, Nat.reduceMul, Int.reduceEq, Int.reduceBEq, Int.reduceBNe, Int.reduceLT, Int.reduceLE, Nat.reduceLT, VX, readAt_some, hc, hc2, hidx, hk, keyC_eq, hkey, him]
    · have hc2 := dge (Nat.not_lt.1 him)
      simp only [F83_0, F83_1, F83_2, F83_3, F83_4, F83_5, F83_6, F83_7, F83_8, F83_9, F83_10, F83_11, F83_12, F83_13, F83_14, F83_15, F83_16, F83_17, F83_18, F83_19, F83_20, F83_21, F83_22, F83_23, F83_24, F83_25, F83_26, F83_27, F83_28, F83_29, F83_30, F83, EX0, EX1, EX2, EX3, EX4, EX5, if_true, if_false, implies_true, forall_const, ne_eq, Nat.reduceEqDiff, reduceIte, reduceCtorEq, Nat.reduceAdd, Nat.reduceLeDiff, Nat.reduceSub, Nat.reduceMul, Int.reduceEq, Int.reduceBEq, Int.reduceBNe, Int.reduceLT, Int.reduceLE, Nat.reduceLT, VX, readAt_some, hc, hc2, him, Bool.false_and]
def placeV (v : V) (k : Bs) : Nat × Bool := if v.kind = 5 then (bsF v.m k 0 v.m.length, decide (bsF v.m k 0 v.m.length < v.m.length) && (keyAt v.m (bsF v.m k 0 v.m.length) == k)) else (0, false)
theorem r_place (v : V) (k : Bs) (hb : v.m.length < big) : cR 74 [v.enc, .str k] = some (.tup [.int .i64 ((placeV v k).1 : Nat), .bool (placeV v k).2]) := by
  refine cR_of (F := F74) rfl ?_
  by_cases h5 : v.kind = 5
  · have q : (v.kind != 5) = false := by simp [h5]
    simp only [F74_0, F74_1, F74_2, F74_3, F74_4, F74_5, F74_6, F74_7, F74_8, F74_9, F74_10, F74_11, F74_12, F74, EX0, EX1, EX2, EX3, EX4, EX5, if_true, if_false, implies_true, forall_const, ne_eq, Nat.reduceEqDiff, reduceIte, reduceCtorEq, Nat.reduceAdd, Nat.reduceLeDiff, Nat.reduceSub, Nat.reduceMul, Int.reduceEq, Int.reduceBEq, Int.reduceBNe, Int.reduceLT, Int.reduceLE, Nat.reduceLT, VX, readAt_some, q, r_bsearch _ _ _ hb, placeV, h5]
  · have q : (v.kind != 5) = true := by simp [h5]
    simp only [F74_0, F74_1, F74_2, F74_3, F74_4, F74_5, F74_6, F74_7, F74_8, F74_9, F74_10, F74_11, F74_12, F74, EX0, EX1, EX2, EX3, EX4, EX5, if_true, if_false, implies_true, forall_const, ne_eq, Nat.reduceEqDiff, reduceIte, reduceCtorEq, Nat.reduceAdd, Nat.reduceLeDiff, Nat.reduceSub, Nat.reduceMul, Int.reduceEq, Int.reduceBEq, Int.reduceBNe, Int.reduceLT, Int.reduceLE, Nat.reduceLT, VX, readAt_some, q, placeV, h5]
    rfl
def getV (v : V) (k : Bs) : V × Bool := match (placeV v k).2, v.m[(placeV v k).1]? with
  | true, some x => (x.2, true)
  | _, _ => (V.zero, false)
theorem r_Get (v : V) (k : Bs) (hb : v.m.length < big) : cR 63 [v.enc, .str k] = some (.tup [(getV v k).1.enc, .bool (getV v k).2]) := by
  refine cR_of (F := F63) rfl ?_
  have hp := r_place v k hb
  cases hk : (placeV v k).2
  · rw [hk] at hp
    simp only [F63_0, F63_1, F63_2, F63_3, F63_4, F63_5, F63_6, F63_7, F63_8, F63_9, F63_10, F63_11, F63_12, F63_13, F63_14, F63_15, F63, EX0, EX1, EX2, EX3, EX4, EX5, if_true, if_false, implies_true, forall_const, ne_eq, Nat.reduceEqDiff, reduceIte, reduceCtorEq, Nat.reduceAdd, Nat.reduceLeDiff, Nat.reduceSub, Nat.reduceMul, Int.reduceEq, Int.reduceBEq, Int.reduceBNe, Int.reduceLT, Int.reduceLE, Nat.reduceLT, VX, readAt_some, hp, getV, hk, V.zero]
  · have hlt : (placeV v k).1 < v.m.length := by
      unfold placeV at hk ⊢
      split at hk
      · rename_i h5; simp only [Bool.and_eq_true, decide_eq_true_eq] at hk; rw [if_pos h5]; exact hk.1
      · simp at hk
    obtain ⟨x, hx⟩ := get_lt hlt
    have hidx := idx_map (f := memE) (sz := 6) (c := none) hx (by simp [memE_cells])
    rw [hk] at hp
    simp only [F63_0, F63_1, F63_2, F63_3, F63_4, F63_5, F63_6, F63_7, F63_8, F63_9, F63_10, F63_11, F63_12, F63_13, F63_14, F63_15, F63, EX0, EX1, EX2, EX3, EX4, EX5, if_true, if_false, implies_true, forall_const, ne_eq, Nat.reduceEqDiff, reduceIte, reduceCtorEq, Nat.reduceAdd, Nat.reduceLeDiff, Nat.reduceSub, Nat.reduceMul, Int.reduceEq, Int.reduceBEq, Int.reduceBNe, Int.reduceLT, Int.reduceLE, Nat.reduceLT, VX, readAt_some, hp, hidx, getV, hk, hx]
def textAt (v : V) (k : Bs) : Bs × Bool := if (getV v k).2 && (getV v k).1.kind == 3 then ((getV v k).1.s, true) else ([], false)
theorem r_TextAt (v : V) (k : Bs) (hb : v.m.length < big) : cR 46 [v.enc, .str k] = some (.tup [.str (textAt v k).1, .bool (textAt v k).2]) := by
  refine cR_of (F := F46) rfl ?_
  have hp := r_Get v k hb
  unfold textAt
  generalize getV v k = g at hp
  obtain ⟨x, ok⟩ := g
  simp only at hp ⊢
  cases ok
  · simp only [F46_0, F46_1, F46_2, F46_3, F46_4, F46_5, F46_6, F46_7, F46_8, F46_9, F46_10, F46_11, F46_12, F46_13, F46_14, F46_15, F46, EX0, EX1, EX2, EX3, EX4, EX5, if_true, if_false, implies_true, forall_const, ne_eq, Nat.reduceEqDiff, reduceIte, reduceCtorEq, Nat.reduceAdd, Nat.reduceLeDiff, Nat.reduceSub, Nat.reduceMul, Int.reduceEq, Int.reduceBEq, Int.reduceBNe, Int.reduceLT, Int.reduceLE, Nat.reduceLT, VX, readAt_some, hp, Bool.false_and]
  · by_cases h3 : x.kind = 3
    · have q : (x.kind != 3) = false := by simp [h3]
      have q2 : (x.kind == 3) = true := by simp [h3]
      simp only [F46_0, F46_1, F46_2, F46_3, F46_4, F46_5, F46_6, F46_7, F46_8, F46_9, F46_10, F46_11, F46_12, F46_13, F46_14, F46_15, F46, EX0, EX1, EX2, EX3, EX4, EX5, if_true, if_false, implies_true, forall_const, ne_eq, Nat.reduceEqDiff, reduceIte, reduceCtorEq, Nat.reduceAdd, Nat.reduceLeDiff, Nat.reduceSub, Nat.reduceMul, Int.reduceEq, Int.reduceBEq, Int.reduceBNe, Int.reduceLT, Int.reduceLE, Nat.reduceLT, VX, readAt_some, hp, q, q2]
    · have q : (x.kind != 3) = true := by simp [h3]
      have q2 : (x.kind == 3) = false := by simp [h3]
      simp only [F46_0, F46_1, F46_2, F46_3, F46_4, F46_5, F46_6, F46_7, F46_8, F46_9, F46_10, F46_11, F46_12, F46_13, F46_14, F46_15, F46, EX0, EX1, EX2, EX3, EX4, EX5, if_true, if_false, implies_true, forall_const, ne_eq, Nat.reduceEqDiff, reduceIte, reduceCtorEq, Nat.reduceAdd, Nat.reduceLeDiff, Nat.reduceSub, Nat.reduceMul, Int.reduceEq, Int.reduceBEq, Int.reduceBNe, Int.reduceLT, Int.reduceLE, Nat.reduceLT, VX, readAt_some, hp, q, q2]
end Go.Ab
/- Names. -/
namespace Go.Ab
set_option linter.unusedSimpArgs false
set_option maxHeartbeats 1000000
set_option maxRecDepth 100000
theorem u8back (c : UInt8) : ((c.toNat : Int).toNat).toUInt8 = c := by simp
theorem r_ib (s : Bs) (c : UInt8) : cR 107 [.str s, .int .u8 c.toNat] = some (.int .i64 (firstByte s c)) := by
  refine cR_of (F := F107) rfl ?_
  simp only [F107_0, F107_1, F107_2, F107_3, F107_4, F107, EX0, EX1, EX2, EX3, EX4, EX5, if_true, if_false, implies_true, forall_const, ne_eq, Nat.reduceEqDiff, reduceIte, reduceCtorEq, Nat.reduceAdd, Nat.reduceLeDiff, Nat.reduceSub, Nat.reduceMul, Int.reduceEq, Int.reduceBEq, Int.reduceBNe, Int.reduceLT, Int.reduceLE, Nat.reduceLT, u8back]
theorem r_ib2 (s : Bs) (c : UInt8) : cR 102 [.str s, .int .u8 c.toNat] = some (.int .i64 (firstByte s c)) := by
  refine cR_of (F := F102) rfl ?_
  simp only [F102_0, F102_1, F102_2, F102_3, F102_4, F102, EX0, EX1, EX2, EX3, EX4, EX5, if_true, if_false, implies_true, forall_const, ne_eq, Nat.reduceEqDiff, reduceIte, reduceCtorEq, Nat.reduceAdd, Nat.reduceLeDiff, Nat.reduceSub, Nat.reduceMul, Int.reduceEq, Int.reduceBEq, Int.reduceBNe, Int.reduceLT, Int.reduceLE, Nat.reduceLT, r_ib]
theorem firstByte_none {s : Bs} {c : UInt8} (h : s.findIdx? (fun b => b == c) = none) : firstByte s c = -1 := by
  unfold firstByte; rw [h]
theorem firstByte_some {s : Bs} {c : UInt8} {i : Nat} (h : s.findIdx? (fun b => b == c) = some i) : firstByte s c = (i : Int) := by
  unfold firstByte; rw [h]
theorem firstByte_ge (s : Bs) (c : UInt8) : decide (firstByte s c ≥ 0) = s.contains c := by
  cases h : s.findIdx? (fun b => b == c) with
  | none =>
    rw [firstByte_none h]
    have := List.findIdx?_eq_none_iff.1 h
    have h2 : s.contains c = false := by
      rw [← Bool.not_eq_true, List.contains_iff_mem]
      intro hm
      have := this c hm
      simp at this
    rw [h2]; rfl
  | some i =>
    rw [firstByte_some h]
    obtain ⟨h1, h2, _⟩ := List.findIdx?_eq_some_iff_getElem.1 h
    have h3 : s.contains c = true := by
      rw [List.contains_iff_mem]
      have : s[i] = c := by simpa using h2
      rw [← this]; exact List.getElem_mem h1
    rw [h3]; simp
theorem r_index1 (s : Bs) (c : UInt8) : cR 101 [.str s, .str [c]] = some (.int .i64 (firstByte s c)) := by
  refine cR_of (F := F101) rfl ?_
  have h0 : (((1 : Nat) : Int) == 0) = false := rfl
  have h1 : (((1 : Nat) : Int) == 1) = true := rfl
  have hb : byteAt (.str [c]) (.int .i64 0) = some (.int .u8 c.toNat) := rfl
  by_cases hs : [c] = s
  · subst hs
    have e : firstByte [c] c = 0 := by simp [firstByte, List.findIdx?_cons]
    have hs' : ([c] == [c]) = true := by simp
    simp only [F101_0, F101_1, F101_2, F101_3, F101_4, F101_5, F101_6, F101_7, F101_8, F101_9, F101_10, F101_11, F101_12, F101_13, F101_14, F101_15, F101_16, F101_17, F101_18, F101_19, F101_20, F101_21, F101_22, F101_23, F101_24, F101_25, F101_26, F101_27, F101_28, F101_29, F101_30, F101_31, F101_32, F101_33, F101_34, F101_35, F101_36, F101_37, F101_38, F101_39, F101_40, F101_41, F101_42, F101_43, F101_44, F101_45, F101_46, F101_47, F101_48, F101_49, F101_50, F101_51, F101_52, F101_53, F101_54, F101_55, F101_56, F101_57, F101_58, F101_59, F101_60, F101_61, F101_62, F101_63, F101_64, F101_65, F101_66, F101_67, F101_68, F101_69, F101_70, F101_71, F101_72, F101_73, F101_74, F101_75, F101_76, F101_77, F101_78, F101_79, F101_80, F101_81, F101_82, F101_83, F101_84, F101_85, F101_86, F101_87, F101_88, F101_89, F101_90, F101_91, F101_92, F101_93, F101_94, F101_95, F101_96, F101_97, F101_98, F101_99, F101_100, F101_101, F101_102, F101_103, F101_105, F101_106, F101_107, F101_108, F101_109, F101_110, F101_111, F101_112, F101_113, F101_114, F101_115, F101_116, F101_117, F101_118, F101_119, F101_120, F101_121, F101_122, F101_123, F101_124, F101_125, F101_126, F101, EX0, EX1, EX2, EX3, EX4, EX5, if_true, if_false, implies_true, forall_const, ne_eq, Nat.reduceEqDiff, reduceIte, reduceCtorEq, Nat.reduceAdd, Nat.reduceLeDiff, Nat.reduceSub, Nat.reduceMul, Int.reduceEq, Int.reduceBEq, Int.reduceBNe, Int.reduceLT, Int.reduceLE, Nat.reduceLT, h0, hs', e]
  · have hs' : ([c] == s) = false := by simp [hs]
    simp only [F101_0, F101_1, F101_2, F101_3, F101_4, F101_5, F101_6, F101_7, F101_8, F101_9, F101_10, F101_11, F101_12, F101_13, F101_14, F101_15, F101_16, F101_17, F101_18, F101_19, F101_20, F101_21, F101_22, F101_23, F101_24, F101_25, F101_26, F101_27, F101_28, F101_29, F101_30, F101_31, F101_32, F101_33, F101_34, F101_35, F101_36, F101_37, F101_38, F101_39, F101_40, F101_41, F101_42, F101_43, F101_44, F101_45, F101_46, F101_47, F101_48, F101_49, F101_50, F101_51, F101_52, F101_53, F101_54, F101_55, F101_56, F101_57, F101_58, F101_59, F101_60, F101_61, F101_62, F101_63, F101_64, F101_65, F101_66, F101_67, F101_68, F101_69, F101_70, F101_71, F101_72, F101_73, F101_74, F101_75, F101_76, F101_77, F101_78, F101_79, F101_80, F101_81, F101_82, F101_83, F101_84, F101_85, F101_86, F101_87, F101_88, F101_89, F101_90, F101_91, F101_92, F101_93, F101_94, F101_95, F101_96, F101_97, F101_98, F101_99, F101_100, F101_101, F101_102, F101_103, F101_105, F101_106, F101_107, F101_108, F101_109, F101_110, F101_111, F101_112, F101_113, F101_114, F101_115, F101_116, F101_117, F101_118, F101_119, F101_120, F101_121, F101_122, F101_123, F101_124, F101_125, F101_126, F101, EX0, EX1, EX2, EX3, EX4, EX5, if_true, if_false, implies_true, forall_const, ne_eq, Nat.reduceEqDiff, reduceIte, reduceCtorEq, Nat.reduceAdd, Nat.reduceLeDiff, Nat.reduceSub, Nat.reduceMul, Int.reduceEq, Int.reduceBEq, Int.reduceBNe, Int.reduceLT, Int.reduceLE, Nat.reduceLT, h0, h1, hs', hb, r_ib]
def cutB (s : Bs) (c : UInt8) : Bs × Bs × Bool := match s.findIdx? (fun b => b == c) with
  | some i => (s.take i, s.drop (i + 1), true)
  | none => (s, [], false)
theorem r_cut1 (s : Bs) (c : UInt8) (hb : s.length < big) : cR 93 [.str s, .str [c]] = some (.tup [.str (cutB s c).1, .str (cutB s c).2.1, .bool (cutB s c).2.2]) := by
  unfold big at hb
  refine cR_of (F := F93) rfl ?_
  cases h : s.findIdx? (fun b => b == c) with
  | none =>
    have e := firstByte_none h
    have q : decide ((-1 : Int) ≥ 0) = false := rfl
    simp only [F93_0, F93_1, F93_2, F93_3, F93_4, F93_5, F93_6, F93_7, F93_8, F93_9, F93_10, F93_11, F93_12, F93_13, F93_14, F93_15, F93, EX0, EX1, EX2, EX3, EX4, EX5, if_true, if_false, implies_true, forall_const, ne_eq, Nat.reduceEqDiff, reduceIte, reduceCtorEq, Nat.reduceAdd, Nat.reduceLeDiff, Nat.reduceSub, Nat.reduceMul, Int.reduceEq, Int.reduceBEq, Int.reduceBNe, Int.reduceLT, Int.reduceLE, Nat.reduceLT, r_index1, e, q, cutB, h]
  | some i =>
    have e := firstByte_some h
    obtain ⟨h1, h2, _⟩ := List.findIdx?_eq_some_iff_getElem.1 h
    have q : decide ((i : Int) ≥ 0) = true := by simp
    have b1 : sliceSOf (.str s) (some none) (some (some (i : Int))) = some (.str (s.take i)) := by
      have h3 : ((i : Int) ≤ s.length) := by omega
      simp [sliceSOf, bounds, h3]
    have w := wsucc (j := i) (n := s.length) h1 (by omega)
    have b2 : sliceSOf (.str s) (some (some ((i + 1 : Nat) : Int))) (some none) = some (.str (s.drop (i + 1))) := by
      have := sliceS_lo (s := s) (i := ((i + 1 : Nat) : Int)) (by omega) (by omega)
      simpa using this
    have w' : IntKind.wrap .i64 ((i : Int) + ((1 : Nat) : Int)) = ((i + 1 : Nat) : Int) := w
    simp only [F93_0, F93_1, F93_2, F93_3, F93_4, F93_5, F93_6, F93_7, F93_8, F93_9, F93_10, F93_11, F93_12, F93_13, F93_14, F93_15, F93, EX0, EX1, EX2, EX3, EX4, EX5, if_true, if_false, implies_true, forall_const, ne_eq, Nat.reduceEqDiff, reduceIte, reduceCtorEq, Nat.reduceAdd, Nat.reduceLeDiff, Nat.reduceSub, Nat.reduceMul, Int.reduceEq, Int.reduceBEq, Int.reduceBNe, Int.reduceLT, Int.reduceLE, Nat.reduceLT, r_index1, e, q, cutB, h, b1, w, w', b2]
theorem r_cut (s : Bs) (c : UInt8) (hb : s.length < big) : cR 75 [.str s, .str [c]] = some (.tup [.str (cutB s c).1, .str (cutB s c).2.1, .bool (cutB s c).2.2]) := by
  refine cR_of (F := F75) rfl ?_
  simp only [F75_0, F75_1, F75_2, F75_3, F75_4, F75, EX0, EX1, EX2, EX3, EX4, EX5, if_true, if_false, implies_true, forall_const, ne_eq, Nat.reduceEqDiff, reduceIte, reduceCtorEq, Nat.reduceAdd, Nat.reduceLeDiff, Nat.reduceSub, Nat.reduceMul, Int.reduceEq, Int.reduceBEq, Int.reduceBNe, Int.reduceLT, Int.reduceLE, Nat.reduceLT, r_cut1 s c hb]
theorem cutB_len (s : Bs) (c : UInt8) : (cutB s c).1.length ≤ s.length ∧ (cutB s c).2.1.length ≤ s.length := by
  unfold cutB
  split
  · simp; omega
  · simp
def setB (set : Bs) (c : UInt8) : Bool := set.contains c
theorem r_setHas (set : Bs) (c : UInt8) : cR 95 [.str set, .int .u8 c.toNat] = some (.bool (setB set c)) := by
  refine cR_of (F := F95) rfl ?_
  simp only [F95_0, F95_1, F95_2, F95_3, F95_4, F95, EX0, EX1, EX2, EX3, EX4, EX5, if_true, if_false, implies_true, forall_const, ne_eq, Nat.reduceEqDiff, reduceIte, reduceCtorEq, Nat.reduceAdd, Nat.reduceLeDiff, Nat.reduceSub, Nat.reduceMul, Int.reduceEq, Int.reduceBEq, Int.reduceBNe, Int.reduceLT, Int.reduceLE, Nat.reduceLT, r_ib2, firstByte_ge, setB]
def shownB (c : UInt8) : Bool := decide (33 ≤ c) && (decide (c ≤ 126) && c != 58)
theorem g33 (c : UInt8) : decide ((c.toNat : Int) ≥ 33) = decide (33 ≤ c) := by rw [decide_eq_decide, UInt8.le_iff_toNat_le]; simp; omega
theorem l126 (c : UInt8) : decide ((c.toNat : Int) ≤ 126) = decide (c ≤ 126) := by rw [decide_eq_decide, UInt8.le_iff_toNat_le]; simp; omega
theorem n58 (c : UInt8) : ((c.toNat : Int) != 58) = (c != 58) :=
  u8_all (P := fun c => ((c.toNat : Int) != 58) = (c != 58)) (by decide +kernel) c
theorem r_shownHas (c : UInt8) : cR 77 [.agg [], .int .u8 c.toNat] = some (.bool (shownB c)) := by
  refine cR_of (F := F77) rfl ?_
  simp only [F77_0, F77_1, F77_2, F77_3, F77_4, F77, EX0, EX1, EX2, EX3, EX4, EX5, if_true, if_false, implies_true, forall_const, ne_eq, Nat.reduceEqDiff, reduceIte, reduceCtorEq, Nat.reduceAdd, Nat.reduceLeDiff, Nat.reduceSub, Nat.reduceMul, Int.reduceEq, Int.reduceBEq, Int.reduceBNe, Int.reduceLT, Int.reduceLE, Nat.reduceLT, g33, l126, n58, shownB]
  cases decide (33 ≤ c) <;> cases decide (c ≤ 126) <;> rfl
def allB (p : UInt8 → Bool) (n : Nat) (s : Bs) : Bool := s.all p && (decide (0 < s.length) && decide (s.length ≤ n))
theorem byte_get {s : Bs} {j : Nat} {c : UInt8} (h : s[j]? = some c) : byteAt (.str s) (.int .i64 (j : Int)) = some (.int .u8 c.toNat) := by
  simp [byteAt, h]
theorem lpos (n : Nat) : decide (0 < (n : Int)) = decide (0 < n) := by rw [decide_eq_decide]; omega
theorem lleN (a b : Nat) : decide ((a : Int) ≤ (b : Int)) = decide (a ≤ b) := by rw [decide_eq_decide]; omega
theorem r_allSet (s set : Bs) (n : Nat) (hb : s.length < big) : cR 94 [.str s, .int .i64 (n : Int), .str set, .fn 95 [] []] = some (.bool (allB (setB set) n s)) := by
  unfold big at hb
  refine cR_of (F := F94) rfl ?_
  simp only [F94_0, F94_1, F94_2, F94_3, F94_4, F94_5, F94_6, F94_7, F94_8, F94_9, F94_10, F94_11, F94_12, F94_13, F94_14, F94_15, F94_16, F94_17, F94_18, F94_19, F94_21, F94_22, F94_23, F94_24, F94_25, F94_26, F94_27, F94_28, F94_29, F94_30, F94, ex_loop, EX0, EX1, EX2, EX3, EX4, EX5, if_true, if_false, implies_true, forall_const, ne_eq, Nat.reduceEqDiff, reduceIte, reduceCtorEq, Nat.reduceAdd, Nat.reduceLeDiff, Nat.reduceSub, Nat.reduceMul, Int.reduceEq, Int.reduceBEq, Int.reduceBNe, Int.reduceLT, Int.reduceLE, Nat.reduceLT]
  refine ex_while (S := Nat) (fun j => [(0, .str s), (1, .int .i64 (n : Int)), (2, .str set), (3, .fn 95 [] []), (11, .int .i64 s.length), (12, .int .i64 (j : Int))]) (fun _ => .empty) (fun j => s.length - j) (fun j => (s.drop j).all (setB set) = s.all (setB set)) ?_ 0 rfl
  intro b j hj ih
  by_cases hlt : j < s.length
  · obtain ⟨c, hc⟩ := get_lt hlt
    have hcond := dlt hlt
    have hbyte := byte_get hc
    rw [drop_cons hc, List.all_cons] at hj
    cases hp : setB set c
    · simp only [F94_0, F94_1, F94_2, F94_3, F94_4, F94_5, F94_6, F94_7, F94_8, F94_9, F94_10, F94_11, F94_12, F94_13, F94_14, F94_15, F94_16, F94_17, F94_18, F94_19, F94_20, F94_21, F94_22, F94_23, F94_24, F94_25, F94_26, F94_27, F94_28, F94_29, F94_30, F94, EX0, EX1, EX2, EX3, EX4, EX5, if_true, if_false, implies_true, forall_const, ne_eq, Nat.reduceEqDiff, reduceIte, reduceCtorEq, Nat.reduceAdd, Nat.reduceLeDiff, Nat.reduceSub, Nat.reduceMul, Int.reduceEq, Int.reduceBEq, Int.reduceBNe, Int.reduceLT, Int.reduceLE, Nat.reduceLT, hcond, hbyte, r_setHas, hp, allB]
      rw [hp] at hj
      rw [← hj]; rfl
    · simp only [F94_0, F94_1, F94_2, F94_3, F94_4, F94_5, F94_6, F94_7, F94_8, F94_9, F94_10, F94_11, F94_12, F94_13, F94_14, F94_15, F94_16, F94_17, F94_18, F94_19, F94_20, F94_21, F94_22, F94_23, F94_24, F94_25, F94_26, F94_27, F94_28, F94_29, F94_30, F94, EX0, EX1, EX2, EX3, EX4, EX5, if_true, if_false, implies_true, forall_const, ne_eq, Nat.reduceEqDiff, reduceIte, reduceCtorEq, Nat.reduceAdd, Nat.reduceLeDiff, Nat.reduceSub, Nat.reduceMul, Int.reduceEq, Int.reduceBEq, Int.reduceBNe, Int.reduceLT, Int.reduceLE, Nat.reduceLT, hcond, hbyte, r_setHas, hp]
      exact ih (j + 1) _ _ (by omega) (by rw [← hj, hp]; rfl) (by rw [wsucc hlt (by omega)]; simp only [EX0, EX1, EX2, EX3, EX4, EX5, if_true, if_false, implies_true, forall_const, ne_eq, Nat.reduceEqDiff, reduceIte, reduceCtorEq, Nat.reduceAdd, Nat.reduceLeDiff, Nat.reduceSub, Nat.reduceMul, Int.reduceEq, Int.reduceBEq, Int.reduceBNe, Int.reduceLT, Int.reduceLE, Nat.reduceLT]) rfl
  · have hcond := dge (Nat.not_lt.1 hlt)
    rw [List.drop_eq_nil_of_le (by omega)] at hj
    simp only [F94_0, F94_1, F94_2, F94_3, F94_4, F94_5, F94_6, F94_7, F94_8, F94_9, F94_10, F94_11, F94_12, F94_13, F94_14, F94_15, F94_16, F94_17, F94_18, F94_19, F94_20, F94_21, F94_22, F94_23, F94_24, F94_25, F94_26, F94_27, F94_28, F94_29, F94_30, F94, EX0, EX1, EX2, EX3, EX4, EX5, if_true, if_false, implies_true, forall_const, ne_eq, Nat.reduceEqDiff, reduceIte, reduceCtorEq, Nat.reduceAdd, Nat.reduceLeDiff, Nat.reduceSub, Nat.reduceMul, Int.reduceEq, Int.reduceBEq, Int.reduceBNe, Int.reduceLT, Int.reduceLE, Nat.reduceLT, hcond, lpos, lleN, allB, ← hj]
    by_cases h0 : 0 < s.length
    · simp [h0]
    · simp [h0]
theorem r_allShown (s : Bs) (n : Nat) (hb : s.length < big) : cR 76 [.str s, .int .i64 (n : Int), .agg [], .fn 77 [] []] = some (.bool (allB shownB n s)) := by
  unfold big at hb
  refine cR_of (F := F76) rfl ?_
  simp only [F76_0, F76_1, F76_2, F76_3, F76_4, F76_5, F76_6, F76_7, F76_8, F76_9, F76_10, F76_11, F76_12, F76_13, F76_14, F76_15, F76_16, F76_17, F76_18, F76_19, F76_21, F76_22, F76_23, F76_24, F76_25, F76_26, F76_27, F76_28, F76_29, F76_30, F76, ex_loop, EX0, EX1, EX2, EX3, EX4, EX5, if_true, if_false, implies_true, forall_const, ne_eq, Nat.reduceEqDiff, reduceIte, reduceCtorEq, Nat.reduceAdd, Nat.reduceLeDiff, Nat.reduceSub, Nat.reduceMul, Int.reduceEq, Int.reduceBEq, Int.reduceBNe, Int.reduceLT, Int.reduceLE, Nat.reduceLT]
  refine ex_while (S := Nat) (fun j => [(0, .str s), (1, .int .i64 (n : Int)), (3, .fn 77 [] []), (6, .vptr [] 0), (11, .int .i64 s.length), (12, .int .i64 (j : Int))]) (fun _ => .empty) (fun j => s.length - j) (fun j => (s.drop j).all shownB = s.all shownB) ?_ 0 rfl
  intro b j hj ih
  by_cases hlt : j < s.length
  · obtain ⟨c, hc⟩ := get_lt hlt
    have hcond := dlt hlt
    have hbyte := byte_get hc
    have hr : readAt [] 0 (some 0) = some (.agg []) := rfl
    rw [drop_cons hc, List.all_cons] at hj
    cases hp : shownB c
    · simp only [F76_0, F76_1, F76_2, F76_3, F76_4, F76_5, F76_6, F76_7, F76_8, F76_9, F76_10, F76_11, F76_12, F76_13, F76_14, F76_15, F76_16, F76_17, F76_18, F76_19, F76_20, F76_21, F76_22, F76_23, F76_24, F76_25, F76_26, F76_27, F76_28, F76_29, F76_30, F76, EX0, EX1, EX2, EX3, EX4, EX5, if_true, if_false, implies_true, forall_const, ne_eq, Nat.reduceEqDiff, reduceIte, reduceCtorEq, Nat.reduceAdd, Nat.reduceLeDiff, Nat.reduceSub, Nat.reduceMul, Int.reduceEq, Int.reduceBEq, Int.reduceBNe, Int.reduceLT, Int.reduceLE, Nat.reduceLT, hcond, hbyte, r_shownHas, hp, allB, hr]
      rw [hp] at hj
      rw [← hj]; rfl
    · simp only [F76_0, F76_1, F76_2, F76_3, F76_4, F76_5, F76_6, F76_7, F76_8, F76_9, F76_10, F76_11, F76_12, F76_13, F76_14, F76_15, F76_16, F76_17, F76_18, F76_19, F76_20, F76_21, F76_22, F76_23, F76_24, F76_25, F76_26, F76_27, F76_28, F76_29, F76_30, F76, EX0, EX1, EX2, EX3, EX4, EX5, if_true, if_false, implies_true, forall_const, ne_eq, Nat.reduceEqDiff, reduceIte, reduceCtorEq, Nat.reduceAdd, Nat.reduceLeDiff, Nat.reduceSub, Nat.reduceMul, Int.reduceEq, Int.reduceBEq, Int.reduceBNe, Int.reduceLT, Int.reduceLE, Nat.reduceLT, hcond, hbyte, r_shownHas, hp, hr]
      exact ih (j + 1) _ _ (by omega) (by rw [← hj, hp]; rfl) (by rw [wsucc hlt (by omega)]; simp only [EX0, EX1, EX2, EX3, EX4, EX5, if_true, if_false, implies_true, forall_const, ne_eq, Nat.reduceEqDiff, reduceIte, reduceCtorEq, Nat.reduceAdd, Nat.reduceLeDiff, Nat.reduceSub, Nat.reduceMul, Int.reduceEq, Int.reduceBEq, Int.reduceBNe, Int.reduceLT, Int.reduceLE, Nat.reduceLT]) rfl
  · have hcond := dge (Nat.not_lt.1 hlt)
    rw [List.drop_eq_nil_of_le (by omega)] at hj
    simp only [F76_0, F76_1, F76_2, F76_3, F76_4, F76_5, F76_6, F76_7, F76_8, F76_9, F76_10, F76_11, F76_12, F76_13, F76_14, F76_15, F76_16, F76_17, F76_18, F76_19, F76_20, F76_21, F76_22, F76_23, F76_24, F76_25, F76_26, F76_27, F76_28, F76_29, F76_30, F76, EX0, EX1, EX2, EX3, EX4, EX5, if_true, if_false, implies_true, forall_const, ne_eq, Nat.reduceEqDiff, reduceIte, reduceCtorEq, Nat.reduceAdd, Nat.reduceLeDiff, Nat.reduceSub, Nat.reduceMul, Int.reduceEq, Int.reduceBEq, Int.reduceBNe, Int.reduceLT, Int.reduceLE, Nat.reduceLT, hcond, lpos, lleN, allB, ← hj]
    by_cases h0 : 0 < s.length
    · simp [h0]
    · simp [h0]
def digitsS : Bs := [48, 49, 50, 51, 52, 53, 54, 55, 56, 57]
def lettersS : Bs := [97, 98, 99, 100, 101, 102, 103, 104, 105, 106, 107, 108, 109, 110, 111, 112, 113, 114, 115, 116, 117, 118, 119, 120, 121, 122, 65, 66, 67, 68, 69, 70, 71, 72, 73, 74, 75, 76, 77, 78, 79, 80, 81, 82, 83, 84, 85, 86, 87, 88, 89, 90, 48, 49, 50, 51, 52, 53, 54, 55, 56, 57, 46, 45]
def serverB (s : Bs) : Bool := (!((cutB s 58).2.2 && !allB (setB digitsS) 5 (cutB s 58).2.1)) && (decide (s.length ≤ 255) && allB (setB lettersS) 255 (cutB s 58).1)
theorem l255 (n : Nat) : decide ((n : Int) ≤ 255) = decide (n ≤ 255) := by rw [decide_eq_decide]; omega
theorem r_server (s : Bs) (hb : s.length < big) : cR 78 [.str s] = some (.bool (serverB s)) := by
  have hc := r_cut s 58 hb
  obtain ⟨c1, c2⟩ := cutB_len s 58
  unfold serverB
  generalize cutB s 58 = c at hc c1 c2 ⊢
  obtain ⟨name, port, ok⟩ := c
  simp only at hc c1 c2 ⊢
  have a1 : cR 94 [.str port, .int .i64 5, .str digitsS, .fn 95 [] []] = _ := r_allSet port digitsS 5 (by omega)
  have a2 : cR 94 [.str name, .int .i64 255, .str lettersS, .fn 95 [] []] = _ := r_allSet name lettersS 255 (by omega)
  generalize allB (setB digitsS) 5 port = A at a1 ⊢
  generalize allB (setB lettersS) 255 name = B at a2 ⊢
  simp only [digitsS, lettersS] at a1 a2
  refine cR_of (F := F78) rfl ?_
  simp only [F78_0, F78_1, F78_2, F78_3, F78_4, F78_5, F78_6, F78_7, F78_8, F78_9, F78_10, F78_11, F78_12, F78_13, F78_14, F78_15, F78, EX0, EX1, EX2, EX3, EX4, EX5, if_true, if_false, implies_true, forall_const, ne_eq, Nat.reduceEqDiff, reduceIte, reduceCtorEq, Nat.reduceAdd, Nat.reduceLeDiff, Nat.reduceSub, Nat.reduceMul, Int.reduceEq, Int.reduceBEq, Int.reduceBNe, Int.reduceLT, Int.reduceLE, Nat.reduceLT, hc, a1, a2, l255]
  generalize decide (s.length ≤ 255) = L
  cases ok <;> cases A <;> cases L <;> rfl
def partsB (s : Bs) (sign : UInt8) : Bs × Bs × Bool := match s with
  | [] => ([], [], false)
  | a :: r => if a = sign ∧ s.length ≤ 255 ∧ (cutB r 58).2.2 = true ∧ allB shownB 255 (cutB r 58).1 = true ∧ serverB (cutB r 58).2.1 = true then ((cutB r 58).1, (cutB r 58).2.1, true) else ([], [], false)
theorem ne8 (a b : UInt8) : ((a.toNat : Int) != (b.toNat : Int)) = (a != b) := by
  by_cases h : a = b
  · subst h; simp
  · have : (a.toNat : Int) ≠ (b.toNat : Int) := fun h' => h (UInt8.toNat_inj.1 (by omega))
    rw [bne_iff_ne.2 this, bne_iff_ne.2 h]
theorem r_parts (s : Bs) (sign : UInt8) (hb : s.length < big) : cR 68 [.str s, .int .u8 sign.toNat] = some (.tup [.str (partsB s sign).1, .str (partsB s sign).2.1, .bool (partsB s sign).2.2]) := by
  refine cR_of (F := F68) rfl ?_
  cases s with
  | nil =>
    have q : (([] : Bs) == []) = true := rfl
    simp only [F68_0, F68_1, F68_2, F68_3, F68_4, F68_5, F68_6, F68_7, F68_8, F68_9, F68_10, F68_11, F68_12, F68_13, F68_14, F68_15, F68_16, F68_17, F68_18, F68_19, F68_20, F68_21, F68_22, F68_23, F68, EX0, EX1, EX2, EX3, EX4, EX5, if_true, if_false, implies_true, forall_const, ne_eq, Nat.reduceEqDiff, reduceIte, reduceCtorEq, Nat.reduceAdd, Nat.reduceLeDiff, Nat.reduceSub, Nat.reduceMul, Int.reduceEq, Int.reduceBEq, Int.reduceBNe, Int.reduceLT, Int.reduceLE, Nat.reduceLT, q, partsB]
  | cons a r =>
    have q : ((a :: r) == []) = false := rfl
    have ha : byteAt (.str (a :: r)) (.int .i64 0) = some (.int .u8 a.toNat) := rfl
    have hs : sliceSOf (.str (a :: r)) (some (some 1)) (some none) = some (.str r) := sliceS_lo (s := a :: r) (i := 1) (by omega) (by simp; omega)
    simp only [List.length_cons] at hb
    have hc := r_cut r 58 (by omega)
    obtain ⟨c1, c2⟩ := cutB_len r 58
    simp only [partsB]
    generalize cutB r 58 = c at hc c1 c2 ⊢
    obtain ⟨loc, srv, ok⟩ := c
    simp only at hc c1 c2 ⊢
    have a1 : cR 76 [.str loc, .int .i64 255, .agg [], .fn 77 [] []] = _ := r_allShown loc 255 (by omega)
    have a2 := r_server srv (by omega)
    have hl : decide (255 < ((r.length + 1 : Nat) : Int)) = decide (255 < r.length + 1) := by rw [decide_eq_decide]; omega
    by_cases hsg : a = sign
    · have q1 : (a != sign) = false := by simp [hsg]
      by_cases hlen : 255 < r.length + 1
      · have hl' : decide (255 < r.length + 1) = true := by simp [hlen]
        have hn : ¬ (r.length + 1 ≤ 255) := by omega
        simp only [F68_0, F68_1, F68_2, F68_3, F68_4, F68_5, F68_6, F68_7, F68_8, F68_9, F68_10, F68_11, F68_12, F68_13, F68_14, F68_15, F68_16, F68_17, F68_18, F68_19, F68_20, F68_21, F68_22, F68_23, F68, EX0, EX1, EX2, EX3, EX4, EX5, if_true, if_false, implies_true, forall_const, ne_eq, Nat.reduceEqDiff, reduceIte, reduceCtorEq, Nat.reduceAdd, Nat.reduceLeDiff, Nat.reduceSub, Nat.reduceMul, Int.reduceEq, Int.reduceBEq, Int.reduceBNe, Int.reduceLT, Int.reduceLE, Nat.reduceLT, q, ha, ne8, q1, hl, hl', List.length_cons, hn, false_and, and_false]
      · have hl' : decide (255 < r.length + 1) = false := by simp [hlen]
        have hn : r.length + 1 ≤ 255 := by omega
        cases ok
        · simp only [F68_0, F68_1, F68_2, F68_3, F68_4, F68_5, F68_6, F68_7, F68_8, F68_9, F68_10, F68_11, F68_12, F68_13, F68_14, F68_15, F68_16, F68_17, F68_18, F68_19, F68_20, F68_21, F68_22, F68_23, F68, EX0, EX1, EX2, EX3, EX4, EX5, if_true, if_false, implies_true, forall_const, ne_eq, Nat.reduceEqDiff, reduceIte, reduceCtorEq, Nat.reduceAdd, Nat.reduceLeDiff, Nat.reduceSub, Nat.reduceMul, Int.reduceEq, Int.reduceBEq, Int.reduceBNe, Int.reduceLT, Int.reduceLE, Nat.reduceLT, q, ha, ne8, q1, hl, hl', hs, hc, false_and, and_false]
        · cases hA : allB shownB 255 loc
          · rw [hA] at a1
            simp only [F68_0, F68_1, F68_2, F68_3, F68_4, F68_5, F68_6, F68_7, F68_8, F68_9, F68_10, F68_11, F68_12, F68_13, F68_14, F68_15, F68_16, F68_17, F68_18, F68_19, F68_20, F68_21, F68_22, F68_23, F68, EX0, EX1, EX2, EX3, EX4, EX5, if_true, if_false, implies_true, forall_const, ne_eq, Nat.reduceEqDiff, reduceIte, reduceCtorEq, Nat.reduceAdd, Nat.reduceLeDiff, Nat.reduceSub, Nat.reduceMul, Int.reduceEq, Int.reduceBEq, Int.reduceBNe, Int.reduceLT, Int.reduceLE, Nat.reduceLT, q, ha, ne8, q1, hl, hl', hs, hc, a1, hA, false_and, and_false]
          · rw [hA] at a1
            cases hB : serverB srv
            · rw [hB] at a2
              simp only [F68_0, F68_1, F68_2, F68_3, F68_4, F68_5, F68_6, F68_7, F68_8, F68_9, F68_10, F68_11, F68_12, F68_13, F68_14, F68_15, F68_16, F68_17, F68_18, F68_19, F68_20, F68_21, F68_22, F68_23, F68, EX0, EX1, EX2, EX3, EX4, EX5, if_true, if_false, implies_true, forall_const, ne_eq, Nat.reduceEqDiff, reduceIte, reduceCtorEq, Nat.reduceAdd, Nat.reduceLeDiff, Nat.reduceSub, Nat.reduceMul, Int.reduceEq, Int.reduceBEq, Int.reduceBNe, Int.reduceLT, Int.reduceLE, Nat.reduceLT, q, ha, ne8, q1, hl, hl', hs, hc, a1, a2, hA, hB, false_and, and_false]
            · rw [hB] at a2
              have hsgT : (a = sign) = True := eq_true hsg
              simp only [F68_0, F68_1, F68_2, F68_3, F68_4, F68_5, F68_6, F68_7, F68_8, F68_9, F68_10, F68_11, F68_12, F68_13, F68_14, F68_15, F68_16, F68_17, F68_18, F68_19, F68_20, F68_21, F68_22, F68_23, F68, EX0, EX1, EX2, EX3, EX4, EX5, if_true, if_false, implies_true, forall_const, ne_eq, Nat.reduceEqDiff, reduceIte, reduceCtorEq, Nat.reduceAdd, Nat.reduceLeDiff, Nat.reduceSub, Nat.reduceMul, Int.reduceEq, Int.reduceBEq, Int.reduceBNe, Int.reduceLT, Int.reduceLE, Nat.reduceLT, q, ha, ne8, q1, hl, hl', hs, hc, a1, a2, hA, hB, hn, hsgT, List.length_cons]
    · have q1 : (a != sign) = true := by simp [hsg]
      simp only [F68_0, F68_1, F68_2, F68_3, F68_4, F68_5, F68_6, F68_7, F68_8, F68_9, F68_10, F68_11, F68_12, F68_13, F68_14, F68_15, F68_16, F68_17, F68_18, F68_19, F68_20, F68_21, F68_22, F68_23, F68, EX0, EX1, EX2, EX3, EX4, EX5, if_true, if_false, implies_true, forall_const, ne_eq, Nat.reduceEqDiff, reduceIte, reduceCtorEq, Nat.reduceAdd, Nat.reduceLeDiff, Nat.reduceSub, Nat.reduceMul, Int.reduceEq, Int.reduceBEq, Int.reduceBNe, Int.reduceLT, Int.reduceLE, Nat.reduceLT, q, ha, ne8, q1, hsg, false_and]
theorem r_Room (s : Bs) (hb : s.length < big) : cR 62 [.str s] = some (.tup [.str (partsB s 33).1, .str (partsB s 33).2.1, .bool (partsB s 33).2.2]) := by
  have h : cR 68 [.str s, .int .u8 33] = _ := r_parts s 33 hb
  refine cR_of (F := F62) rfl ?_
  simp only [F62_0, F62_1, F62_2, F62_3, F62_4, F62, EX0, EX1, EX2, EX3, EX4, EX5, if_true, if_false, implies_true, forall_const, ne_eq, Nat.reduceEqDiff, reduceIte, reduceCtorEq, Nat.reduceAdd, Nat.reduceLeDiff, Nat.reduceSub, Nat.reduceMul, Int.reduceEq, Int.reduceBEq, Int.reduceBNe, Int.reduceLT, Int.reduceLE, Nat.reduceLT, h]
theorem r_User (s : Bs) (hb : s.length < big) : cR 55 [.str s] = some (.tup [.str (partsB s 64).1, .str (partsB s 64).2.1, .bool (partsB s 64).2.2]) := by
  have h : cR 68 [.str s, .int .u8 64] = _ := r_parts s 64 hb
  refine cR_of (F := F55) rfl ?_
  simp only [F55_0, F55_1, F55_2, F55_3, F55_4, F55, EX0, EX1, EX2, EX3, EX4, EX5, if_true, if_false, implies_true, forall_const, ne_eq, Nat.reduceEqDiff, reduceIte, reduceCtorEq, Nat.reduceAdd, Nat.reduceLeDiff, Nat.reduceSub, Nat.reduceMul, Int.reduceEq, Int.reduceBEq, Int.reduceBNe, Int.reduceLT, Int.reduceLE, Nat.reduceLT, h]
end Go.Ab
/- Slices of one's own, by the plain lists that they hold. -/
namespace Go.Ab
set_option linter.unusedSimpArgs false
set_option maxHeartbeats 1000000
/-- How a plain thing lies in a row. -/
structure Lay (α : Type) where
  f : α → AV
  sz : Nat
  pos : 0 < sz
  len : ∀ a, (f a).cells.length = sz
  closed : ∀ a, (f a).closed = true
  er : ∀ a, (f a).er = f a
  one : ∀ a, (f a).cells.all AV.one = true
  agg : ∀ a, if sz = 1 then (f a).cells = [f a] else ∃ cs, f a = .agg cs
def Lay.cells {α : Type} (L : Lay α) (l : List α) : List AV := l.flatMap fun a => (L.f a).cells
theorem Lay.cells_len {α : Type} (L : Lay α) (l : List α) : (L.cells l).length = l.length * L.sz := by
  unfold Lay.cells
  induction l with
  | nil => simp
  | cons a l ih => simp [L.len a, ih, Nat.add_mul]; omega
theorem Lay.cells_closed {α : Type} (L : Lay α) (l : List α) : closedL (L.cells l) = true := by
  unfold Lay.cells
  induction l with
  | nil => rfl
  | cons a l ih =>
    rw [List.flatMap_cons]
    have h : ∀ x y : List AV, closedL x = true → closedL y = true → closedL (x ++ y) = true := by
      intro x y
      induction x with
      | nil => intro _ h; exact h
      | cons c x ihx => intro h1 h2; simp only [closedL, Bool.and_eq_true, List.cons_append] at h1 ⊢; exact ⟨h1.1, ihx h1.2 h2⟩
    refine h _ _ ?_ ih
    have := L.closed a
    cases hf : L.f a <;> simp_all [AV.cells, AV.closed, closedL]
theorem Lay.cells_one {α : Type} (L : Lay α) (l : List α) : (L.cells l).all AV.one = true := by
  unfold Lay.cells
  induction l with
  | nil => rfl
  | cons a l ih => simp only [List.flatMap_cons, List.all_append, L.one a, ih, Bool.and_self]
theorem one_notAgg {l : List AV} (h : l.all AV.one = true) : l.all AV.notAgg = true := by
  rw [List.all_eq_true] at h ⊢
  intro x hx
  have := h x hx
  cases x <;> simp_all [AV.one, AV.notAgg]
theorem Lay.chunks {α : Type} (L : Lay α) (l : List α) : chunks L.sz l.length (L.cells l) = l.map L.f := by
  induction l with
  | nil => rfl
  | cons a l ih =>
    have e : L.cells (a :: l) = (L.f a).cells ++ L.cells l := by simp [Lay.cells]
    simp only [List.length_cons, Go.Ab.chunks, e]
    have hd : ((L.f a).cells ++ L.cells l).drop L.sz = L.cells l := by
      rw [List.drop_append_of_le_length (by rw [L.len]; exact Nat.le_refl _), List.drop_eq_nil_of_le (by rw [L.len]; exact Nat.le_refl _), List.nil_append]
    rw [hd, ih, List.map_cons]
    congr 1
    have ha := L.agg a
    by_cases h1 : L.sz = 1
    · rw [if_pos h1] at ha ⊢
      rw [ha]; rfl
    · rw [if_neg h1] at ha ⊢
      obtain ⟨cs, hcs⟩ := ha
      have hl := L.len a
      rw [hcs] at hl ⊢
      simp only [AV.cells] at hl ⊢
      rw [List.take_append_of_le_length (by omega), List.take_of_length_le (by omega)]
/-- A slice of one's own holds a list. -/
def Own {α : Type} (L : Lay α) (σ : Store) (ob : Option Nat) (l : List α) : Prop := OwnSl σ L.sz ob l.length (L.cells l)
theorem Own.nil {α : Type} (L : Lay α) (σ : Store) : Own L σ none [] := ⟨rfl, rfl⟩
theorem Lay.erMap {α : Type} (L : Lay α) (l : List α) : erL (l.map L.f) = l.map L.f := erL_mapId fun a _ => L.er a
theorem Own.rb {α : Type} {L : Lay α} {σ : Store} {ob : Option Nat} {l : List α} (h : Own L σ ob l) : ∃ v, rb σ rbDepth (slOf L.sz ob l.length) = some v ∧ v.er = .vsl (l.map L.f) none := by
  have := rb_own h L.pos (L.cells_closed l) (one_notAgg (L.cells_one l))
  refine ⟨_, this, ?_⟩
  by_cases h0 : l.length = 0
  · rw [if_pos h0, List.eq_nil_of_length_eq_zero h0]; simp only [AV.er]; rfl
  · rw [if_neg h0, L.chunks]; simp only [AV.er, L.erMap]
theorem Own.rbE {α : Type} {L : Lay α} {σ : Store} {ob : Option Nat} {l : List α} (h : Own L σ ob l) : rbE σ (slOf L.sz ob l.length) = some (.vsl (l.map L.f) none) := by
  obtain ⟨v, h1, h2⟩ := h.rb
  unfold Go.Ab.rbE
  rw [h1, Option.map_some, h2]
theorem Own.lenL {α : Type} {L : Lay α} {σ : Store} {ob : Option Nat} {l : List α} (h : Own L σ ob l) : lenL (slOf L.sz ob l.length) = some (.int .i64 l.length) := lenL_slOf h
theorem Own.append {α : Type} {L : Lay α} {σ : Store} {ob : Option Nat} {l m : List α} {bytes : Nat} (h : Own L σ ob l) (hb : 0 < bytes) (hm : (l.length + m.length) * bytes ≤ maxBytes) (hk : 0 < m.length) :
    ∃ σ', appendTo σ L.sz bytes (slOf L.sz ob l.length) (L.cells m) m.length = some (slOf L.sz (some σ.next) (l ++ m).length, σ') ∧ Own L σ' (some σ.next) (l ++ m) ∧ σ'.next = σ.next + 1 ∧
      ∀ b', b' < σ.next → ob ≠ some b' → σ'.get b' = σ.get b' := by
  obtain ⟨σ', h1, h2, h3, h4⟩ := append_own h L.pos hb hm (L.cells_len m) (L.cells_one m) hk
  refine ⟨σ', by rw [h1, List.length_append], ?_, h3, h4⟩
  unfold Own
  rw [List.length_append]
  have : L.cells (l ++ m) = L.cells l ++ L.cells m := by simp [Lay.cells]
  rw [this]
  exact h2
/-- One more, as a walk meets it. -/
theorem Own.push {α : Type} {L : Lay α} {σ : Store} {ob : Option Nat} {l : List α} {a : α} {bytes : Nat} (h : Own L σ ob l) (hb : 0 < bytes) (hm : (l.length + 1) * bytes ≤ maxBytes) :
    ∃ σ', appendTo σ L.sz bytes (slOf L.sz ob l.length) (L.f a).cells 1 = some (slOf L.sz (some σ.next) (l ++ [a]).length, σ') ∧ Own L σ' (some σ.next) (l ++ [a]) ∧ σ'.next = σ.next + 1 ∧
      ∀ b', b' < σ.next → ob ≠ some b' → σ'.get b' = σ.get b' := by
  have := Own.append (m := [a]) h hb (by simpa using hm) (by simp)
  simpa [Lay.cells] using this
/-- What happens to other blocks. -/
theorem Own.frame {α : Type} {L : Lay α} {σ σ' : Store} {b : Nat} {l : List α} (h : Own L σ (some b) l) (hg : σ'.get b = σ.get b) (hn : σ.next ≤ σ'.next) : Own L σ' (some b) l := by
  obtain ⟨h1, h2, h3, h4⟩ := h
  exact ⟨hg.trans h1, h2, by omega, h4⟩
theorem Own.alloc {α : Type} {L : Lay α} {σ : Store} {ob : Option Nat} {l : List α} (h : Own L σ ob l) (cs : List AV) : Own L (σ.alloc cs) ob l := by
  cases ob with
  | none => exact h
  | some b => exact h.frame (get_alloc h.2.2.1) (by simp [next_alloc])
theorem Own.set {α : Type} {L : Lay α} {σ : Store} {ob : Option Nat} {l : List α} {b : Nat} {x : Blk} (h : Own L σ ob l) (hb : ob ≠ some b) : Own L (σ.set b x) ob l := by
  cases ob with
  | none => exact h
  | some b' => exact h.frame (get_set (by rintro rfl; exact hb rfl)) (Nat.le_refl _)
theorem Own.lt {α : Type} {L : Lay α} {σ : Store} {b : Nat} {l : List α} (h : Own L σ (some b) l) : b < σ.next := h.2.2.1
/-- A call whose arguments are closed but for one slice of one's own. -/
theorem Own.call1 {α : Type} {L : Lay α} {σ : Store} {ob : Option Nat} {l : List α} {st : Bool} {f : Nat} {args : List AV} {r : AV} (h : Own L σ ob l) (ha : closedL args = true) (hc : cR f (.vsl (l.map L.f) none :: erL args) = some r) (hr : r.flat = true) :
    callP ipU gU st (.fn f [] []) (slOf L.sz ob l.length :: args) σ = some (r, σ) := by
  obtain ⟨v, h1, h2⟩ := h.rb
  refine callP_flat (args' := v :: args) rfl ?_ ?_ hr
  · simp only [mapO, h1, mapO_closed' ha]
  · simp only [erL, h2, AV.er]; exact hc
def LStr : Lay Bs where
  f := .str
  sz := 1
  pos := by decide
  len _ := rfl
  closed _ := rfl
  er _ := by simp only [AV.er]
  one _ := rfl
  agg _ := rfl
def LSlt : Lay Slt where
  f := sltE
  sz := 2
  pos := by decide
  len _ := rfl
  closed _ := rfl
  er := sltE_er
  one _ := rfl
  agg a := ⟨_, rfl⟩
def LEv : Lay Ev where
  f := evE
  sz := 20
  pos := by decide
  len _ := rfl
  closed := evE_closed
  er := evE_er
  one _ := rfl
  agg a := ⟨_, rfl⟩
def LV : Lay V where
  f := V.enc
  sz := 5
  pos := by decide
  len v := by rw [V.enc_cells]; rfl
  closed := V.enc_closed
  er := V.enc_er
  one v := by rw [V.enc_cells]; rfl
  agg v := ⟨_, V.enc_eq v⟩
def LMem : Lay Mem where
  f := memE
  sz := 6
  pos := by decide
  len v := by rw [memE_cells]; rfl
  closed := memE_closed
  er := memE_er
  one v := by rw [memE_cells]; rfl
  agg v := ⟨_, rfl⟩
end Go.Ab
