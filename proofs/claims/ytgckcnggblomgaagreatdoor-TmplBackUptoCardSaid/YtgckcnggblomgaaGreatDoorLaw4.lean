/- What functions of the program, and of the library, answer. Conditions: none. -/
import Derived.Test.YtgckcnggblomgaaGreatDoorLaw3
import Derived.SizedLaws
import Derived.Test.YtgckcnggblomgaaGreatDoorDraw
import Derived.Carry
import Derived.ChangeSame
import Derived.ChangeSlices
import Derived.WideKeyArgs
import Derived.Below
import Derived.OpenShut
import Derived.RowKit
import Derived.Lib.LaidU8
import Derived.Test.YtgckcnggblomgaaGreatDoorCards
import Derived.Test.YtgckcnggblomgaaGreatDoorTie
import Derived.WalkKit
import Derived.ProofKit
import Derived.Deep.DeepHandedRow
import Derived.Lib.LaidTab
import Derived.Shelf.Vars
import Derived.Test.YtgckcnggblomgaaGreatDoorIns
set_option linter.unusedVariables false
set_option linter.unusedSimpArgs false
set_option linter.defProp false
/- Texts: the document's Runes, Good. -/
namespace Go.Ab
set_option maxHeartbeats 1000000
theorem wadd {a b : Nat} (h : a + b < 9223372036854775808) : IntKind.wrap .i64 ((a : Int) + (b : Int)) = ((a + b : Nat) : Int) := by
  simp [IntKind.wrap, IntKind.bits, IntKind.signed]
  omega
end Go.Ab
/- Values: which are good. -/
namespace Go.Ab
set_option maxHeartbeats 1000000
def T6Fa := J @F100_2.eq_1 (J @F100_19.eq_1 (J @F100_20.eq_1 (@F100.eq_1)))
def T6Fc := @F48.eq_1
def T6Fd := @F65.eq_1
def T6Fi := J @F92_10.eq_1 (J @F92_27.eq_1 (J @F92_28.eq_1 (@F92.eq_1)))
def T6Fj := J @F92_10.eq_1 (J @F92_27.eq_1 (@F92.eq_1))
set_option maxRecDepth 100000
/-- The first number from j on of one of which p holds; else -1. -/
def firstFrom {α : Type} (p : α → Bool) (els : List α) (j : Nat) : Int := match (els.drop j).findIdx? p with
  | some i => ((i + j : Nat) : Int)
  | none => -1
theorem firstFrom_hit {α : Type} {p : α → Bool} {els : List α} {j : Nat} {e : α} (h : els[j]? = some e) (hp : p e = true) : firstFrom p els j = (j : Int) := by
  unfold firstFrom
  rw [drop_cons h]
  simp [List.findIdx?_cons, hp]
theorem firstFrom_miss {α : Type} {p : α → Bool} {els : List α} {j : Nat} {e : α} (h : els[j]? = some e) (hp : p e = false) : firstFrom p els j = firstFrom p els (j + 1) := by
  unfold firstFrom
  rw [drop_cons h]
  simp only [List.findIdx?_cons, hp]
  cases (els.drop (j + 1)).findIdx? p <;> simp <;> omega
theorem firstFrom_end {α : Type} {p : α → Bool} {els : List α} {j : Nat} (h : els.length ≤ j) : firstFrom p els j = -1 := by
  unfold firstFrom
  rw [List.drop_eq_nil_of_le h]
  rfl
theorem firstFrom_ge {α : Type} (p : α → Bool) (l : List α) : decide (firstFrom p l 0 ≥ 0) = l.any p := by
  unfold firstFrom
  rw [List.drop_zero]
  cases h : l.findIdx? p with
  | none =>
    have := List.findIdx?_eq_none_iff.1 h
    have h2 : l.any p = false := by
      rw [List.any_eq_false]
      intro x hx
      simp [this x hx]
    rw [h2]
    simp
  | some i =>
    obtain ⟨h1, h2, _⟩ := List.findIdx?_eq_some_iff_getElem.1 h
    have h3 : l.any p = true := List.any_eq_true.2 ⟨_, List.getElem_mem h1, h2⟩
    rw [h3]
    simp
/-- Lists as long as any machine's. -/
def big : Nat := 4611686018427387904
/-- slices.IndexFunc over values. -/
theorem r_indexV (l : List V) (f : AV) (p : V → Bool) (hf : f.closed = true) (hfe : f.er = f) (hlen : l.length < big) (hp : ∀ v ∈ l, callR ipU gU f [v.enc] = some (.bool (p v))) :
    cR 100 [.vsl (l.map V.enc) none, f] = some (.int .i64 (firstFrom p l 0)) := by
  unfold big at hlen
  refine cR_of (F := F100) rfl ?_
  simp only [F100_2, F100_19, F100, ex_loop, EXA, Nat.reduceEqDiff, reduceIte, reduceCtorEq, Nat.reduceAdd, Nat.reduceLeDiff, Nat.reduceSub, Nat.reduceMul, Int.reduceEq, Int.reduceBEq, Int.reduceBNe, Int.reduceLT, Int.reduceLE, Nat.reduceLT, VX]
  refine ex_while (S := Nat) (fun j => [(0, .vsl (l.map V.enc) none), (1, f), (7, .int .i64 l.length), (8, .int .i64 (j : Int))]) (fun _ => .empty) (fun j => l.length - j) (fun j => firstFrom p l j = firstFrom p l 0) ?_ 0 rfl
  intro b j hj ih
  by_cases hlt : j < l.length
  · obtain ⟨v, hv⟩ := get_lt hlt
    have hidx := idx_map (f := V.enc) (sz := 5) (c := none) hv (by simp [V.enc_cells])
    have hcall := hp v (List.mem_of_getElem? hv)
    have hcond := dlt hlt
    simp only [T6Fa, EXA, Nat.reduceEqDiff, reduceIte, reduceCtorEq, Nat.reduceAdd, Nat.reduceLeDiff, Nat.reduceSub, Nat.reduceMul, Int.reduceEq, Int.reduceBEq, Int.reduceBNe, Int.reduceLT, Int.reduceLE, Nat.reduceLT, VX, readAt_some, hcond, hidx, hf, hfe, hcall]
    split
    · rename_i hpe
      rw [← hj, firstFrom_hit hv hpe]
    · rename_i hpe
      refine ih (j + 1) _ _ (by omega) ?_ ?_ rfl
      · rw [← firstFrom_miss hv (by simpa using hpe)]; exact hj
      · rw [wsucc hlt (by omega)]
        simp only [EXA, Nat.reduceEqDiff, reduceIte, reduceCtorEq, Nat.reduceAdd, Nat.reduceLeDiff, Nat.reduceSub, Nat.reduceMul, Int.reduceEq, Int.reduceBEq, Int.reduceBNe, Int.reduceLT, Int.reduceLE, Nat.reduceLT]
  · have hcond := dge (Nat.not_lt.1 hlt)
    simp only [T6Fa, EXA, Nat.reduceEqDiff, reduceIte, reduceCtorEq, Nat.reduceAdd, Nat.reduceLeDiff, Nat.reduceSub, Nat.reduceMul, Int.reduceEq, Int.reduceBEq, Int.reduceBNe, Int.reduceLT, Int.reduceLE, Nat.reduceLT, VX, hcond]
    rw [← hj, firstFrom_end (by omega)]
theorem r_containsV (l : List V) (f : AV) (p : V → Bool) (hf : f.closed = true) (hfe : f.er = f) (hlen : l.length < big) (hp : ∀ v ∈ l, callR ipU gU f [v.enc] = some (.bool (p v))) :
    cR 90 [.vsl (l.map V.enc) none, f] = some (.bool (l.any p)) := by
  refine cR_of (F := F90) rfl ?_
  simp only [F90, EXA, Nat.reduceEqDiff, reduceIte, reduceCtorEq, Nat.reduceAdd, Nat.reduceLeDiff, Nat.reduceSub, Nat.reduceMul, Int.reduceEq, Int.reduceBEq, Int.reduceBNe, Int.reduceLT, Int.reduceLE, Nat.reduceLT, VX, hf, hfe, r_indexV l f p hf hfe hlen hp, firstFrom_ge]
mutual
def V.fine : V → Bool
  | .mk k n s l m =>
    if k = 0 then (V.mk k n s l m).bare
    else if k = 1 then (V.mk k 0 s l m).bare && (n == 0 || n == 1)
    else if k = 2 then (V.mk k 0 s l m).bare && numOk n
    else if k = 3 then (V.mk k n [] l m).bare && vu s
    else if k = 4 then (V.mk k n s [] m).bare && fineL l
    else if k = 5 then (V.mk k n s l []).bare && fineM none m
    else false
def fineL : List V → Bool
  | [] => true
  | v :: r => v.fine && fineL r
def fineM : Option Bs → List (Bs × V) → Bool
  | _, [] => true
  | p, (k, v) :: r => vu k && ((match p with | none => true | some q => bytesLess q k) && (v.fine && fineM (some k) r))
end
def okP (p : Option Bs) (k : Bs) : Bool := match p with | none => true | some q => bytesLess q k
theorem fineM_cons (p : Option Bs) (k : Bs) (v : V) (r : List Mem) : fineM p ((k, v) :: r) = (vu k && (okP p k && (v.fine && fineM (some k) r))) := by
  cases p <;> rw [fineM.eq_def] <;> rfl
theorem fineL_all : ∀ l : List V, fineL l = !(l.any fun v => !v.fine)
  | [] => by simp [fineL]
  | v :: r => by simp [fineL, fineL_all r]
theorem V.fine_eq (v : V) : v.fine = if v.kind = 0 then v.bare
    else if v.kind = 1 then (V.mk v.kind 0 v.s v.l v.m).bare && (v.n == 0 || v.n == 1)
    else if v.kind = 2 then (V.mk v.kind 0 v.s v.l v.m).bare && numOk v.n
    else if v.kind = 3 then (V.mk v.kind v.n [] v.l v.m).bare && vu v.s
    else if v.kind = 4 then (V.mk v.kind v.n v.s [] v.m).bare && fineL v.l
    else if v.kind = 5 then (V.mk v.kind v.n v.s v.l []).bare && fineM none v.m
    else false := by
  cases v; rw [V.fine]; rfl
/-- What stands ahead of place j. -/
def prevK (m : List Mem) (j : Nat) : Option Bs := if j = 0 then none else (m[j - 1]?).map (·.1)
theorem prevK_succ {m : List Mem} {j : Nat} {x : Mem} (h : m[j]? = some x) : prevK m (j + 1) = some x.1 := by
  simp [prevK, h]
theorem r_ask (k : Nat) (h : k < 6) : cR 65 [.int .i64 (k : Int)] = some (.tup [.fn (match k with | 0 => 84 | 1 => 85 | 2 => 86 | 3 => 87 | 4 => 89 | _ => 92) [] [], .bool true]) := by
  match k, h with
  | 0, _ | 1, _ | 2, _ | 3, _ | 4, _ | 5, _ => exact cR_closed 1000 (by kernel_rfl)
theorem r_askNo (k : Int) (h : k < 0 ∨ 6 ≤ k) : cR 65 [.int .i64 k] = some (.tup [.lit .nilFunc, .bool false]) := by
  refine cR_of (F := F65) rfl ?_
  rcases h with h | h
  · have h1 : decide (k < 0) = true := by simp; omega
    simp only [T6Fd, EXA, Nat.reduceEqDiff, reduceIte, reduceCtorEq, Nat.reduceAdd, Nat.reduceLeDiff, Nat.reduceSub, Nat.reduceMul, Int.reduceEq, Int.reduceBEq, Int.reduceBNe, Int.reduceLT, Int.reduceLE, Nat.reduceLT, h1]
  · have h1 : decide (k < 0) = false := by simp; omega
    have h2 : decide (k ≥ 6) = true := by simp; omega
    simp only [T6Fd, EXA, Nat.reduceEqDiff, reduceIte, reduceCtorEq, Nat.reduceAdd, Nat.reduceLeDiff, Nat.reduceSub, Nat.reduceMul, Int.reduceEq, Int.reduceBEq, Int.reduceBNe, Int.reduceLT, Int.reduceLE, Nat.reduceLT, h1, h2]
theorem r_oneText (v : V) : cR 87 [v.enc] = some (.bool ((V.mk v.kind v.n [] v.l v.m).bare && vu v.s)) := by
  refine cR_of (F := F87) rfl ?_
  simp only [F87, EXA, Nat.reduceEqDiff, reduceIte, reduceCtorEq, Nat.reduceAdd, Nat.reduceLeDiff, Nat.reduceSub, Nat.reduceMul, Int.reduceEq, Int.reduceBEq, Int.reduceBNe, Int.reduceLT, Int.reduceLE, Nat.reduceLT, readAt_some, VX, r_bare, r_Good]
  repeat' split
  all_goals simp_all
theorem r_notFine (v : V) (h : cR 48 [v.enc] = some (.bool v.fine)) : cR 91 [v.enc] = some (.bool (!v.fine)) := by
  refine cR_of (F := F91) rfl ?_
  simp only [F91, EXA, Nat.reduceEqDiff, reduceIte, reduceCtorEq, Nat.reduceAdd, Nat.reduceLeDiff, Nat.reduceSub, Nat.reduceMul, Int.reduceEq, Int.reduceBEq, Int.reduceBNe, Int.reduceLT, Int.reduceLE, Nat.reduceLT, readAt_some, VX, h]
theorem r_oneList (v : V) (hb : v.l.length < big) (h : ∀ x ∈ v.l, cR 48 [x.enc] = some (.bool x.fine)) : cR 89 [v.enc] = some (.bool ((V.mk v.kind v.n v.s [] v.m).bare && fineL v.l)) := by
  have hc := r_containsV v.l (.fn 91 [] []) (fun x => !x.fine) rfl (by simp only [AV.er, erL]) hb (fun x hx => r_notFine x (h x hx))
  refine cR_of (F := F89) rfl ?_
  simp only [F89, EXA, Nat.reduceEqDiff, reduceIte, reduceCtorEq, Nat.reduceAdd, Nat.reduceLeDiff, Nat.reduceSub, Nat.reduceMul, Int.reduceEq, Int.reduceBEq, Int.reduceBNe, Int.reduceLT, Int.reduceLE, Nat.reduceLT, readAt_some, VX, r_bare, hc, fineL_all]
  repeat' split
  all_goals simp_all
theorem wpred {j : Nat} (h : 0 < j) (hn : j < 9223372036854775808) : IntKind.wrap .i64 ((j : Int) - 1) = ((j - 1 : Nat) : Int) := by
  simp [IntKind.wrap, IntKind.bits, IntKind.signed]
  omega
theorem r_table (v : V) (hb : v.m.length < big) (h : ∀ x ∈ v.m, cR 48 [x.2.enc] = some (.bool x.2.fine)) : cR 92 [v.enc] = some (.bool ((V.mk v.kind v.n v.s v.l []).bare && fineM none v.m)) := by
  unfold big at hb
  refine cR_of (F := F92) rfl ?_
  cases hbare : (V.mk v.kind v.n v.s v.l []).bare with
  | false => simp only [T6Fj, EXA, Nat.reduceEqDiff, reduceIte, reduceCtorEq, Nat.reduceAdd, Nat.reduceLeDiff, Nat.reduceSub, Nat.reduceMul, Int.reduceEq, Int.reduceBEq, Int.reduceBNe, Int.reduceLT, Int.reduceLE, Nat.reduceLT, readAt_some, VX, r_bare, hbare, Bool.false_and]
  | true =>
  simp only [T6Fj, ex_loop, EXA, Nat.reduceEqDiff, reduceIte, reduceCtorEq, Nat.reduceAdd, Nat.reduceLeDiff, Nat.reduceSub, Nat.reduceMul, Int.reduceEq, Int.reduceBEq, Int.reduceBNe, Int.reduceLT, Int.reduceLE, Nat.reduceLT, readAt_some, VX, r_bare, hbare]
  refine ex_whileI (S := Nat) (fun j => [(3, .vsl (v.m.map memE) none), (12, .vsl (v.m.map memE) none), (13, .int .i64 v.m.length), (14, .int .i64 (j : Int))]) (fun j => v.m.length - j) (fun j _ => fineM (prevK v.m j) (v.m.drop j) = fineM none v.m) ?_ 0 _ rfl
  intro b j σ hj ih
  by_cases hlt : j < v.m.length
  · obtain ⟨⟨key, x⟩, hx⟩ := get_lt hlt
    have hidx := idx_map (f := memE) (sz := 6) (c := none) hx (by simp [memE_cells])
    have hcond := dlt hlt
    have hfx := h _ (List.mem_of_getElem? hx)
    simp only at hfx
    rw [drop_cons hx, fineM_cons] at hj
    have hstep : ∀ (fr' : Fr) (σ' : Store), vu key = true → okP (prevK v.m j) key = true → x.fine = true → keep [3, 12, 13, 14] fr' = _ → _ := fun fr' σ' a1 a2 a3 hk => ih (j + 1) fr' σ' (by omega) (by
      rw [prevK_succ hx, ← hj, a1, a2, a3]; rfl) hk
    by_cases h0 : j = 0
    · subst h0
      have d0' : decide (0 < ((0 : Nat) : Int)) = false := rfl
      simp only [T6Fi, EXA, Nat.reduceEqDiff, reduceIte, reduceCtorEq, Nat.reduceAdd, Nat.reduceLeDiff, Nat.reduceSub, Nat.reduceMul, Int.reduceEq, Int.reduceBEq, Int.reduceBNe, Int.reduceLT, Int.reduceLE, Nat.reduceLT, readAt_some, VX, hcond, hidx, r_Good, r_Less, hfx, d0']
      split
      · rename_i q1
        rw [← hj]; simp_all
      split
      · rename_i q1 q2
        rw [← hj]; simp_all
      rename_i q1 q2
      exact hstep _ _ (by simpa using q1) rfl (by simpa using q2) (by rw [wsucc hlt (by omega)]; simp only [EXA, Nat.reduceEqDiff, reduceIte, reduceCtorEq, Nat.reduceAdd, Nat.reduceLeDiff, Nat.reduceSub, Nat.reduceMul, Int.reduceEq, Int.reduceBEq, Int.reduceBNe, Int.reduceLT, Int.reduceLE, Nat.reduceLT])
    · obtain ⟨⟨pk, px⟩, hpx⟩ := get_lt (l := v.m) (j := j - 1) (by omega)
      have hidx2 := idx_map (f := memE) (sz := 6) (c := none) hpx (by simp [memE_cells])
      have d0' : decide (0 < (j : Int)) = true := by simp; omega
      have hw := wpred (j := j) (by omega) (by omega)
      have hp : okP (prevK v.m j) key = bytesLess pk key := by simp [prevK, h0, hpx, okP]
      rw [hp] at hj hstep
      simp only [T6Fi, EXA, Nat.reduceEqDiff, reduceIte, reduceCtorEq, Nat.reduceAdd, Nat.reduceLeDiff, Nat.reduceSub, Nat.reduceMul, Int.reduceEq, Int.reduceBEq, Int.reduceBNe, Int.reduceLT, Int.reduceLE, Nat.reduceLT, readAt_some, VX, hcond, hidx, r_Good, r_Less, hfx, d0', hw, hidx2]
      split
      · rename_i q1
        rw [← hj]; simp_all
      split
      · rename_i q1 q2
        rw [← hj]; simp_all
      split
      · rename_i q1 q2 q3
        rw [← hj]; simp_all
      rename_i q1 q2 q3
      exact hstep _ _ (by simpa using q1) (by simpa using q2) (by simpa using q3) (by rw [wsucc hlt (by omega)]; simp only [EXA, Nat.reduceEqDiff, reduceIte, reduceCtorEq, Nat.reduceAdd, Nat.reduceLeDiff, Nat.reduceSub, Nat.reduceMul, Int.reduceEq, Int.reduceBEq, Int.reduceBNe, Int.reduceLT, Int.reduceLE, Nat.reduceLT])
  · have hcond := dge (Nat.not_lt.1 hlt)
    simp only [T6Fi, EXA, Nat.reduceEqDiff, reduceIte, reduceCtorEq, Nat.reduceAdd, Nat.reduceLeDiff, Nat.reduceSub, Nat.reduceMul, Int.reduceEq, Int.reduceBEq, Int.reduceBNe, Int.reduceLT, Int.reduceLE, Nat.reduceLT, VX, hcond]
    rw [← hj, List.drop_eq_nil_of_le (by omega), fineM]
theorem r_fineN : ∀ (n : Nat) (v : V), v.sz < n → v.sz < big → cR 48 [v.enc] = some (.bool v.fine) := by
  intro n
  induction n with
  | zero => intro v h; omega
  | succ n ih =>
    intro v h hb
    have hsz := v.sz_eq
    have hl := szL_len v.l
    have hm := szM_len v.m
    have ihL : ∀ x ∈ v.l, cR 48 [x.enc] = some (.bool x.fine) := fun x hx => by
      have := szL_mem hx
      exact ih x (by omega) (by omega)
    have ihM : ∀ x ∈ v.m, cR 48 [x.2.enc] = some (.bool x.2.fine) := fun x hx => by
      have := szM_mem hx
      exact ih x.2 (by omega) (by omega)
    have t1 := r_oneList v (by omega) ihL
    have t2 := r_table v (by omega) ihM
    refine cR_of (F := F48) rfl ?_
    rw [V.fine_eq]
    by_cases hk : v.kind < 0 ∨ 6 ≤ v.kind
    · have e0 : v.kind ≠ 0 := by omega
      have e1 : v.kind ≠ 1 := by omega
      have e2 : v.kind ≠ 2 := by omega
      have e3 : v.kind ≠ 3 := by omega
      have e4 : v.kind ≠ 4 := by omega
      have e5 : v.kind ≠ 5 := by omega
      simp only [T6Fc, EXA, Nat.reduceEqDiff, reduceIte, reduceCtorEq, Nat.reduceAdd, Nat.reduceLeDiff, Nat.reduceSub, Nat.reduceMul, Int.reduceEq, Int.reduceBEq, Int.reduceBNe, Int.reduceLT, Int.reduceLE, Nat.reduceLT, readAt_some, VX, r_askNo v.kind hk, e0, e1, e2, e3, e4, e5]
    · obtain ⟨k, nn, s, l, m⟩ := v
      simp only [V.kind_mk, V.n_mk, V.s_mk, V.l_mk, V.m_mk] at hk t1 t2 ⊢
      have hcases : k = 0 ∨ k = 1 ∨ k = 2 ∨ k = 3 ∨ k = 4 ∨ k = 5 := by omega
      have a0 : cR 65 [.int .i64 0] = some (.tup [.fn 84 [] [], .bool true]) := r_ask 0 (by omega)
      have a1 : cR 65 [.int .i64 1] = some (.tup [.fn 85 [] [], .bool true]) := r_ask 1 (by omega)
      have a2 : cR 65 [.int .i64 2] = some (.tup [.fn 86 [] [], .bool true]) := r_ask 2 (by omega)
      have a3 : cR 65 [.int .i64 3] = some (.tup [.fn 87 [] [], .bool true]) := r_ask 3 (by omega)
      have a4 : cR 65 [.int .i64 4] = some (.tup [.fn 89 [] [], .bool true]) := r_ask 4 (by omega)
      have a5 : cR 65 [.int .i64 5] = some (.tup [.fn 92 [] [], .bool true]) := r_ask 5 (by omega)
      rcases hcases with rfl | rfl | rfl | rfl | rfl | rfl
      all_goals simp only [T6Fc, EXA, Nat.reduceEqDiff, reduceIte, reduceCtorEq, Nat.reduceAdd, Nat.reduceLeDiff, Nat.reduceSub, Nat.reduceMul, Int.reduceEq, Int.reduceBEq, Int.reduceBNe, Int.reduceLT, Int.reduceLE, Nat.reduceLT, readAt_some, VX, a0, a1, a2, a3, a4, a5, r_bare, r_bit, r_number, r_oneText, t1, t2, Int.reduceEq]
theorem r_fine (v : V) (hb : v.sz < big) : cR 48 [v.enc] = some (.bool v.fine) := r_fineN (v.sz + 1) v (Nat.lt_succ_self _) hb
end Go.Ab
/- From a call of the machine's to a row: what is of no one seat. -/
namespace Go.Ab
open Go.RowKit Go.ChangeShapes Go.WideShapes
theorem rb_bool {σ : Store} {n : Nat} {x : AV} {b : Bool} (h : rb σ (n + 1) x = some (.bool b)) : x = .bool b := by
  cases x <;> simp only [rb] at h <;> (repeat' (split at h)) <;> simp_all
theorem er_boolE {x : AV} {b : Bool} (h : x.er = .bool b) : x = .bool b := by
  cases x <;> simp only [AV.er] at h <;> simp_all
theorem acall_of_cR {id : Nat} {args : List AV} {b : Bool} (h : cR id args = some (.bool b)) : ∃ n σ1, acall ipU gU n id args = some (.bool b, σ1) := by
  unfold cR callR at h
  rw [Option.bind_eq_some_iff] at h
  obtain ⟨⟨r, σ1⟩, h1, h2⟩ := h
  obtain ⟨n, hn⟩ := callS_some.1 h1
  refine ⟨n, σ1, ?_⟩
  unfold rbE at h2
  rw [Option.map_eq_some_iff] at h2
  obtain ⟨y, h3, h4⟩ := h2
  obtain rfl := er_boolE h4
  obtain rfl := rb_bool (n := 23) h3
  exact hn
section
variable {P : Program} {fm gm : Nat → Option Nat}
theorem cR_glob (g : Nat) : closedL (gU g) = true := by
  unfold gU
  split
  · kernel_rfl
  · split
    · kernel_rfl
    · split
      · rfl
      · split <;> rfl
/-- The arguments, one by one. -/
def RVs (fm : Nat → Option Nat) (w : World) (l : List AV) (vs : List Value) : Prop := l.length = vs.length ∧ ∀ j, RV fm w (fun _ => False) Mu.none (l.getD j .undef) (vs.getD j Go.undef)
theorem RVs.nil {w : World} : RVs fm w [] [] := ⟨rfl, fun j => by simpa using RV.undef _⟩
theorem RVs.cons {w : World} {x : AV} {v : Value} {l : List AV} {vs : List Value} (h : RV fm w (fun _ => False) Mu.none x v) (hs : RVs fm w l vs) : RVs fm w (x :: l) (v :: vs) := by
  refine ⟨by simp [hs.1], fun j => ?_⟩
  cases j with
  | zero => simpa using h
  | succ j => simpa using hs.2 j
variable {H : Type} {enc : TypeId × Value → H}
/-- A variable whose cells are listed. -/
theorem rv_glob {w : World} {g' : Nat} {cells : List AV} {vs : List Value} (hlt : g' < w.heap.size) (hl : cells.length = vs.length) (hv : ∀ j, j < vs.length → w.cell? ⟨g', j, none⟩ = some (vs.getD j Go.undef))
    (hr : ∀ j, RV fm w (fun _ => False) Mu.none (cells.getD j .undef) (vs.getD j Go.undef)) : RV fm w (fun _ => False) Mu.none (.vptr cells 0) (.pointer (some ⟨g', 0, none⟩)) :=
  .vptr cells 0 g' 0 (fun j => vs.getD j Go.undef) (by rintro (h | ⟨_, _, h⟩) <;> simp [Mu.none] at h) hlt (fun j hj => by simpa using hv j (by omega)) hr
theorem rv_globInts {w : World} {g' : Nat} {k : IntKind} {zs : List Int} (hlt : g' < w.heap.size) (hv : ∀ j, j < zs.length → w.cell? ⟨g', j, none⟩ = some (.int k (zs.getD j 0))) :
    RV fm w (fun _ => False) Mu.none (.vptr (zs.map (AV.int k)) 0) (.pointer (some ⟨g', 0, none⟩)) := by
  refine rv_glob (vs := zs.map (Value.int k)) hlt (by simp) (fun j hj => ?_) (fun j => ?_)
  · have hj' : j < zs.length := by simpa using hj
    rw [hv j hj']; simp [List.getD, hj']
  · by_cases hj : j < zs.length
    · have e1 : (zs.map (AV.int k)).getD j .undef = .int k zs[j] := by simp [List.getD, hj]
      have e2 : (zs.map (Value.int k)).getD j Go.undef = .int k zs[j] := by simp [List.getD, hj]
      rw [e1, e2]; exact .int _ _
    · have e1 : (zs.map (AV.int k)).getD j .undef = .undef := by simp [List.getD, hj]
      rw [e1]; exact .undef _
/-- The arguments read behind a call that turned nothing old as they did before. -/
theorem trodAll_stays (hl : laidOutB P = true) {W W' : World} {sp' : Nat → Bool} : ∀ {ts : List TypeId} {vs : List Value} {ds : List (DataW H)} {ps : List MemPlace},
    (∀ t ∈ ts, P.readableRec t = true ∧ t < P.types.size) → DataW.TrodAll enc P W 0 (fun _ => true) true ts vs ds ps → (∀ p ∈ ps, W.sameAt W' p) → (∀ p ∈ ps, sp' p.block = true) → DataW.TrodAll enc P W' 0 sp' true ts vs ds ps
  | [], [], [], _, _, h, _, _ => h
  | t :: ts, v :: vs, d :: ds, ps, hr, ⟨p, q, h, hs, e⟩, hsame, hsp => by
    subst e
    refine ⟨p, q, WideElems.Trod_stays hl (hr t (by simp)).1 (hr t (by simp)).2 h (fun x hx => hsame x (by simp [hx])) (fun x hx => hsp x (by simp [hx])), ?_, rfl⟩
    exact trodAll_stays hl (fun t ht => hr t (by simp [ht])) hs (fun x hx => hsame x (by simp [hx])) (fun x hx => hsp x (by simp [hx]))
  | [], _ :: _, _, _, _, h, _, _ => h.elim
  | [], [], _ :: _, _, _, h, _, _ => h.elim
  | _ :: _, [], _, _, _, h, _, _ => h.elim
  | _ :: _, _ :: _, [], _, _, h, _, _ => h.elim
/-- What is asked of a law's call: true, and all as it was. -/
theorem law_post {f : Func} {s : ChangeSpec} {W W' : World} {args : Array Value} {ds gs : List (DataW H)} {before : List MemPlace} {tb : TypeId}
    (hv : s.vars = []) (hs : s.fn H ds = { results := [.lit (.bool true)], args := ds }) (hres : f.resultTypes = #[tb]) (ht : P.underlying tb = some .bool)
    (hl : laidOutB P = true) (hr : ∀ t ∈ f.params.toList, P.readableRec t = true ∧ t < P.types.size)
    (hW : DataW.Whole enc P f.params.toList s.vars false W args.toList ds gs before) (hb : Below W.heap.size W W') :
    s.post enc P f false true false false W args (.bool true) W' := by
  have hlt : ∀ p ∈ before, p.block < W.heap.size := fun p hp => hW.lt p hp
  have hW' := hW
  obtain ⟨p, q, hA, hV, rfl, _, _⟩ := hW'
  rw [hv] at hV
  obtain ⟨rfl, rfl⟩ := trodVars_none hV
  refine ⟨ds, [], p ++ [], [], p, [], hW, ?_, ?_, ?_, World.keptBut_mono (fun x hx => ⟨hx, .inr (.inl (by simpa using hx))⟩) (hb.frame (· ∈ p ++ [])), fun h => Bool.noConfusion h⟩
  · rw [List.append_nil, hs, hres]
    exact trodAll_cons_mk (shut_bool ht true) trodAll_mk0
  · rw [List.append_nil, hs]
    exact trodAll_stays hl hr hA (fun x hx => hb.same (hlt x (by simpa using hx))) (fun x hx => by simpa using hlt x (by simpa using hx))
  · rw [hv, List.append_nil, hs]
    exact rfl
/-- A LAW's CONTRACT, from the machine's call. -/
theorem law_contract {f : Func} {s : ChangeSpec} {W : World} {args : Array Value} {ds gs : List (DataW H)} {before : List MemPlace} {tb : TypeId} {id : Nat} {f' : FuncId} {avs : List AV}
    (hm : P.follows .mixedOrders = true) (hP : ProgOk P fm gm ipU drawOk) (hf : fm id = some f') (hgl : GlobOK fm gm gU W (fun _ => False) Mu.none)
    (hcall : cR id avs = some (.bool true)) (hrv : RVs fm W avs args.toList)
    (hv : s.vars = []) (hs : s.fn H ds = { results := [.lit (.bool true)], args := ds }) (hres : f.resultTypes = #[tb]) (ht : P.underlying tb = some .bool)
    (hl : laidOutB P = true) (hr : ∀ t ∈ f.params.toList, P.readableRec t = true ∧ t < P.types.size)
    (hW : DataW.Whole enc P f.params.toList s.vars false W args.toList ds gs before) :
    Calls P f' args W fun e W' => ∃ v, e = .returned v ∧ s.post enc P f false true false false W args v W' := by
  obtain ⟨n, σ1, hn⟩ := acall_of_cR hcall
  refine (acall_sound cR_glob (drawn_ok hm cR_glob) hP hn hf hgl (by simpa using hrv.1) (fun j => ?_)).mono ?_
  · have := hrv.2 j
    simpa using this
  · rintro e W' ⟨cv, μ', rfl, h2, h3⟩
    cases h2
    exact ⟨_, rfl, law_post hv hs hres ht hl hr hW h3⟩
end
end Go.Ab
/- What is of this seat: the texts are those of the program; the listed variables. -/
namespace Go.Ab
open Go.Lib Go.Proofs Go.Proofs.YtgckcnggblomgaaGreatDoor Go.RowKit Go.ChangeShapes Go.WideShapes
theorem look_mem {α : Type} : ∀ {l : List (Nat × α)} {i : Nat} {x : α}, look l i = some x → (i, x) ∈ l
  | [], _, _, h => by simp [look] at h
  | (j, y) :: l, i, x, h => by
    simp only [look] at h
    split at h
    · rename_i e
      subst e
      simp only [Option.some.injEq] at h
      subst h
      simp
    · exact List.mem_cons_of_mem _ (look_mem h)
def gmD : Nat → Option Nat := fun i => look [(3, 0), (0, 1), (1, 2), (2, 3)] i
def chkAll (P : Program) (l : List (Nat × Nat)) : Bool := l.all fun p => (p.1 == 153 && p.2 == 77) || match ipU p.1 with | some F => funcChk P (fun i => look l i) gmD drawOk F p.2 | none => true
set_option maxRecDepth 100000
noncomputable def zeroM : Value := ((Tryz.prog.info? 53).bind (·.zero)).getD Go.undef
theorem insAt : InsAt Tryz.prog 77 29 53 3 4 0 109 110 zeroM where
  hf := by kernel_rfl
  fo := by kernel_rfl
  uS := by kernel_rfl
  uI := by kernel_rfl
  uB := by kernel_rfl
  info := by kernel_rfl
  zs := by kernel_rfl
  mixed := by kernel_rfl
theorem nat153 {fm : Nat → Option Nat} : NatOk Tryz.prog fm F153 77 :=
  ⟨_, _, rfl, ⟨_, insAt.hf, rfl, by decide⟩, fun X μ w σ σ' args args' r hS hX hl hr h => ins_ok insAt hS hX hl hr h⟩
/-- The texts are the program's; slices.Insert (77) is said by what it does. -/
theorem progOk_of_all {l : List (Nat × Nat)} (h : chkAll Tryz.prog l = true) : ProgOk Tryz.prog (fun i => look l i) gmD ipU drawOk := by
  intro id F f' hF hf
  have := List.all_eq_true.1 h _ (look_mem hf)
  simp only [Bool.or_eq_true, Bool.and_eq_true, beq_iff_eq] at this
  rcases this with ⟨h1, h2⟩ | this
  · subst h1 h2
    obtain rfl : F153 = F := Option.some.inj ((show ipU 153 = some F153 by kernel_rfl).symm.trans hF)
    exact .inr nat153
  · simp only [hF] at this
    exact .inl this
set_option maxRecDepth 100000
theorem dOwn : ownKnob Tryz.prog.godebug = none := by kernel_rfl
theorem dMixed : Tryz.prog.follows .mixedOrders = true := by kernel_rfl
theorem dLaidOut : laidOutB Tryz.prog = true := by kernel_rfl
theorem dG0 : Tryz.prog.globalNamed "unicode/utf8.first" = some 1 := by kernel_rfl
theorem dG1 : Tryz.prog.globalNamed "unicode/utf8.acceptRanges" = some 2 := by kernel_rfl
theorem dY0 : (Tryz.prog.globals[1]?).map (·.type) = some 155 := by kernel_rfl
theorem dY1 : (Tryz.prog.globals[2]?).map (·.type) = some 158 := by kernel_rfl
theorem dG3 : Tryz.prog.globalNamed "introit/b64.forURL" = some 0 := by kernel_rfl
theorem dY3 : (Tryz.prog.globals[0]?).map (·.type) = some 141 := by kernel_rfl
theorem dFirst : Pinned.utf8First = tabData .u8 xL := by kernel_rfl
def accD : List Int := [0x80, 0xBF, 0xA0, 0xBF, 0x80, 0x9F, 0x90, 0xBF, 0x80, 0x8F] ++ List.replicate 22 0
theorem dAcc : (Rows.laid_unicode_utf8_acceptRanges : DataW Unit) = .agg ((List.range 16).map fun i => .agg ([accD.getD (2 * i) 0, accD.getD (2 * i + 1) 0].map fun z => .lit (.int .u8 z))) := by kernel_rfl
theorem gAcc_eqD : gAcc = accD.map (AV.int .u8) := by kernel_rfl
/-- A row of cells turned. -/
def putRow (cs : Array Value) : Obj → Obj
  | .cells _ t frozen => .cells cs t frozen
  | o => o
/-- A world for a witness: the settled one, the tables holding what is listed. -/
noncomputable def laidWorld (os : Os) : World :=
  { World.holding Tryz.prog os ⟨#[], #[], []⟩ with
    heap := (((World.holding Tryz.prog os ⟨#[], #[], []⟩).heap.modify 0 (putRow ([45, 95].map (Value.int .u8)).toArray)).modify 1 (putRow (xL.map (Value.int .u8)).toArray)).modify 2 (putRow (accD.map (Value.int .u8)).toArray) }
theorem dFirst_cells {W : World} (h : VarReads Tryz.prog W "unicode/utf8.first" Pinned.utf8First) : ∀ j, j < xL.length → W.cell? ⟨1, j, none⟩ = some (.int .u8 (xL.getD j 0)) := by
  intro j hj
  obtain ⟨g, t, cs, fuel, p, hg, hty, hvar, hd⟩ := h
  obtain rfl := Option.some.inj (dG0.symm.trans hg)
  obtain rfl := Option.some.inj (dY0.symm.trans hty)
  rw [dFirst] at hd
  have hcs := cells_of_tab (n := 256) (e := 5) Tryz.underlying155 Tryz.underlying5 (by kernel_rfl) (by kernel_rfl) hd
  have := World.var?_cell hg hvar j
  rw [this, ← Array.getElem?_toList, hcs]
  simp [List.getD, hj]
theorem dAcc_cells {W : World} (h : VarReads Tryz.prog W "unicode/utf8.acceptRanges" Rows.laid_unicode_utf8_acceptRanges) : ∀ j, j < accD.length → W.cell? ⟨2, j, none⟩ = some (.int .u8 (accD.getD j 0)) := by
  intro j hj
  obtain ⟨g, t, cs, fuel, p, hg, hty, hvar, hd⟩ := h
  obtain rfl := Option.some.inj (dG1.symm.trans hg)
  obtain rfl := Option.some.inj (dY1.symm.trans hty)
  rw [dAcc] at hd
  have hi : j / 2 < 16 := by have : j < 32 := hj; omega
  obtain ⟨fuel', d, q, hdi, he⟩ := array_elem (n := 16) (e := 157) Tryz.underlying158 hd (j / 2) hi
  simp only [List.getElem?_map, List.getElem?_range hi, Option.map_some, Option.some.injEq] at hdi
  subst hdi
  rw [show Tryz.prog.cellsOf 157 = 2 by kernel_rfl] at he
  have hcs := ints_of_struct Tryz.underlying157 (fun i f hf => by
    match i, hf with
    | 0, hf => simp at hf; subst hf; exact ⟨Tryz.underlying5, rfl, by kernel_rfl⟩
    | 1, hf => simp at hf; subst hf; exact ⟨Tryz.underlying5, rfl, by kernel_rfl⟩
    | i + 2, hf => simp at hf) (by kernel_rfl) he
  have e0 := congrArg (·[j % 2]?) hcs
  simp only [List.getElem?_take, List.getElem?_drop] at e0
  rw [World.var?_cell hg hvar j, ← Array.getElem?_toList]
  have hj2 : j / 2 * 2 + j % 2 = j := by omega
  rw [hj2] at e0
  rw [if_pos (by omega)] at e0
  rw [e0]
  rcases (by omega : j % 2 = 0 ∨ j % 2 = 1) with h | h
  · rw [h]; simp; congr 2; omega
  · rw [h]; simp; congr 2; omega
theorem dUrl_cells {W : World} (h : VarReads Tryz.prog W "introit/b64.forURL" Rows.laid_introit_b64_forURL) : ∀ j, j < 2 → W.cell? ⟨0, j, none⟩ = some (.int .u8 ([45, 95].getD j 0)) := by
  intro j hj
  obtain ⟨g, t, cs, fuel, p, hg, hty, hvar, hd⟩ := h
  obtain rfl := Option.some.inj (dG3.symm.trans hg)
  obtain rfl := Option.some.inj (dY3.symm.trans hty)
  rw [show (Rows.laid_introit_b64_forURL : DataW Unit) = .agg ([45, 95].map fun z => .lit (.int .u8 z)) from rfl] at hd
  have hcs := ints_of_struct Tryz.underlying141 (fun i f hf => by
    match i, hf with
    | 0, hf => simp at hf; subst hf; exact ⟨Tryz.underlying5, rfl, by kernel_rfl⟩
    | 1, hf => simp at hf; subst hf; exact ⟨Tryz.underlying5, rfl, by kernel_rfl⟩
    | i + 2, hf => simp at hf) (by kernel_rfl) hd
  rw [World.var?_cell hg hvar j, ← Array.getElem?_toList, hcs]
  rcases (by omega : j = 0 ∨ j = 1) with rfl | rfl <;> rfl
theorem globOK {W : World} {fm : Nat → Option Nat} (h : laidMetH Tryz.prog Rows.tmplDraftsRow.laid W) (hs : W.ShapedOpen Tryz.prog) : GlobOK fm gmD gU W (fun _ => False) Mu.none := by
  have hl : laidMet Tryz.prog Rows.tmplDraftsRow.laid W := h
  have h0 := dFirst_cells (Lib.laidMet.reads hl (n := "unicode/utf8.first") (d := Pinned.utf8First) (List.mem_cons_of_mem _ (List.mem_cons_of_mem _ List.mem_cons_self)))
  have h1 := dAcc_cells (Lib.laidMet.reads hl (n := "unicode/utf8.acceptRanges") (d := Rows.laid_unicode_utf8_acceptRanges) List.mem_cons_self)
  have h3 := dUrl_cells (Lib.laidMet.reads hl (n := "introit/b64.forURL") (d := Rows.laid_introit_b64_forURL) (List.mem_cons_of_mem _ List.mem_cons_self))
  obtain ⟨m, h2⟩ := cell_of_shapedOpen_int (g := 3) (t := 3) (zero := #[.int .i64 0]) (k := .i64) hs (of_decide_eq_true (by kernel_rfl)) (by kernel_rfl) rfl (by kernel_rfl) (by kernel_rfl) Tryz.underlying3
  have hlt : ∀ g off v, W.cell? ⟨g, off, none⟩ = some v → g < W.heap.size := fun g off v h => by
    unfold World.cell? at h
    rcases Nat.lt_or_ge g W.heap.size with h' | h'
    · exact h'
    · have : W.heap[g]? = none := by simpa using h'
      simp [this] at h
  intro g g' hg
  have hcase : (g = 3 ∧ g' = 0) ∨ (g = 0 ∧ g' = 1) ∨ (g = 1 ∧ g' = 2) ∨ (g = 2 ∧ g' = 3) := by
    have := look_mem hg
    simpa using this
  rcases hcase with ⟨rfl, rfl⟩ | ⟨rfl, rfl⟩ | ⟨rfl, rfl⟩ | ⟨rfl, rfl⟩
  · exact rv_globInts (zs := [45, 95]) (hlt _ _ _ (h3 0 (by decide))) h3
  · exact rv_globInts (zs := xL) (hlt _ _ _ (h0 0 (of_decide_eq_true (by kernel_rfl)))) h0
  · show RV fm W _ _ (.vptr gAcc 0) _
    rw [gAcc_eqD]
    exact rv_globInts (hlt _ _ _ (h1 0 (of_decide_eq_true (by kernel_rfl)))) h1
  · exact rv_glob (vs := []) (hlt _ _ _ h2) rfl (fun j hj => absurd hj (Nat.not_lt_zero _)) (fun j => by rw [show gU 2 = [] from rfl]; simpa using RV.undef _)
end Go.Ab
/- Arguments of integers, bools, texts, structs, slices: what they read as, the machine has. -/
namespace Go.Ab
open Go.RowKit Go.ChangeShapes Go.WideShapes
mutual
/-- What is read, as the machine has it. -/
def encD {H : Type} : DataW H → AV
  | .lit (.int k n) => .int k n
  | .lit (.bool b) => .bool b
  | .lit (.string s) => .str s
  | .slice els _ => .vsl (encDs els) none
  | .nil => .vsl [] none
  | .agg ps => .agg (encC ps)
  | _ => .undef
def encDs {H : Type} : List (DataW H) → List AV
  | [] => []
  | d :: r => encD d :: encDs r
def encC {H : Type} : List (DataW H) → List AV
  | [] => []
  | d :: r => (encD d).cells ++ encC r
end
theorem encDs_map {H : Type} : ∀ l : List (DataW H), encDs l = l.map encD
  | [] => by simp [encDs]
  | d :: r => by simp [encDs, encDs_map r]
def fieldsOk (P : Program) (S : List TypeId) : List Field → Nat → Nat → Bool
  | [], o, n => o == n
  | f :: r, o, n => f.offset == o && S.contains f.type && fieldsOk P S r (o + P.cellsOf f.type) n
/-- Types made of integers, bools, texts, structs, slices, and of no others. -/
def plainTy (P : Program) (S : List TypeId) (t : TypeId) : Bool :=
  match P.underlying t with
  | some .bool | some (.int _) | some .string => P.cellsOf t == 1
  | some (.slice e) => P.cellsOf t == 1 && S.contains e && decide (1 ≤ P.cellsOf e)
  | some (.struct fs) => fieldsOk P S fs.toList 0 (P.cellsOf t)
  | _ => false
section
variable {P : Program} {fm : Nat → Option Nat} {H : Type} {enc : TypeId × Value → H} {w : World} {base : Nat} {sp : Nat → Bool} {held : Bool} {S : List TypeId}
/-- Cells, one by one. -/
def RC (fm : Nat → Option Nat) (w : World) (l : List AV) (vs : List Value) : Prop := l.length = vs.length ∧ ∀ j, RV fm w (fun _ => False) Mu.none (l.getD j .undef) (vs.getD j Go.undef)
theorem RC.one {x : AV} {v : Value} (h : RV fm w (fun _ => False) Mu.none x v) : RC fm w [x] [v] := by
  refine ⟨rfl, fun j => ?_⟩
  cases j with
  | zero => exact h
  | succ j => simpa using RV.undef _
theorem RC.append {l l' : List AV} {vs vs' : List Value} (h : RC fm w l vs) (h' : RC fm w l' vs') : RC fm w (l ++ l') (vs ++ vs') := by
  refine ⟨by simp [h.1, h'.1], fun j => ?_⟩
  by_cases hj : j < l.length
  · have e1 : (l ++ l').getD j .undef = l.getD j .undef := by simp [List.getD, List.getElem?_append_left hj]
    have e2 : (vs ++ vs').getD j Go.undef = vs.getD j Go.undef := by simp [List.getD, List.getElem?_append_left (h.1 ▸ hj : j < vs.length)]
    rw [e1, e2]; exact h.2 j
  · have e1 : (l ++ l').getD j .undef = l'.getD (j - l.length) .undef := by simp [List.getD, List.getElem?_append_right (Nat.not_lt.1 hj)]
    have e2 : (vs ++ vs').getD j Go.undef = vs'.getD (j - l.length) Go.undef := by
      have := Nat.not_lt.1 hj
      rw [h.1] at this ⊢
      simp [List.getD, List.getElem?_append_right this]
    rw [e1, e2]; exact h'.2 _
theorem cells?_get {a : Addr} {n : Nat} {cs : List Value} (h : w.cells? base a n = some cs) : cs.length = n ∧ ∀ i, i < n → w.cell? (a.add i) = some (cs.getD i Go.undef) := by
  unfold World.cells? at h
  split at h
  · have h1 := Lib.mapM_length h
    simp at h1
    refine ⟨h1, fun i hi => ?_⟩
    obtain ⟨b, hb, hf⟩ := Lib.mapM_at h i i (by simp [hi])
    rw [hf]; simp [List.getD, hb]
  · simp at h
theorem fields_rv (n0 : Nat) (ih : ∀ (t : TypeId) (cs : List Value) (d : DataW H) (p : List MemPlace), t ∈ S → DataW.trod enc P w base sp held n0 t cs = some (d, p) → cs.length = P.cellsOf t ∧ RC fm w (encD d).cells cs) {cs : List Value} :
    ∀ (fl : List Field) (xs : List (DataW H × List MemPlace)) (o : Nat), fieldsOk P S fl o cs.length = true → xs.length = fl.length →
      (∀ (i : Nat) (f : Field), fl[i]? = some f → DataW.trod enc P w base sp held n0 f.type ((cs.drop f.offset).take (P.cellsOf f.type)) = xs[i]?) →
      o ≤ cs.length ∧ RC fm w (encC (xs.map (·.1))) (cs.drop o)
  | [], [], o, h, _, _ => by
    simp only [fieldsOk, beq_iff_eq] at h
    subst h
    refine ⟨Nat.le_refl _, ?_⟩
    simp only [List.map_nil, encC, List.drop_length]
    exact ⟨rfl, fun j => by simpa using RV.undef _⟩
  | [], _ :: _, _, _, h, _ => by simp at h
  | _ :: _, [], _, _, h, _ => by simp at h
  | f :: fl, x :: xs, o, h, hl, hx => by
    simp only [fieldsOk, Bool.and_eq_true, beq_iff_eq] at h
    obtain ⟨⟨ho, hS⟩, h⟩ := h
    have h0 := hx 0 f rfl
    simp only [List.getElem?_cons_zero] at h0
    obtain ⟨hcl, hrc⟩ := ih f.type _ x.1 x.2 (by simpa using hS) h0
    obtain ⟨hle, hr⟩ := fields_rv n0 ih fl xs _ h (by simpa using hl) (fun i g hg => hx (i + 1) g hg)
    refine ⟨by omega, ?_⟩
    have e : cs.drop o = (cs.drop o).take (P.cellsOf f.type) ++ cs.drop (o + P.cellsOf f.type) := by
      rw [← List.drop_drop, List.take_append_drop]
    rw [e]
    simp only [List.map_cons, encC]
    rw [ho] at hrc
    exact hrc.append hr
/-- WHAT IS READ, THE MACHINE HAS. -/
theorem rv_trod (hS : S.all (plainTy P S) = true) : ∀ (fuel : Nat) (t : TypeId) (cs : List Value) (d : DataW H) (p : List MemPlace), t ∈ S → DataW.trod enc P w base sp held fuel t cs = some (d, p) →
    cs.length = P.cellsOf t ∧ RC fm w (encD d).cells cs := by
  intro fuel
  induction fuel with
  | zero => intro t cs d p _ h; simp [DataW.trod] at h
  | succ n ih =>
    intro t cs d p ht h
    have hp := List.all_eq_true.1 hS t ht
    unfold plainTy at hp
    split at hp
    · rename_i hu
      obtain ⟨b, rfl, hx⟩ := DataW.trod_bool hu h
      simp only [Prod.mk.injEq] at hx
      obtain ⟨rfl, _⟩ := hx
      simp only [beq_iff_eq] at hp
      exact ⟨hp.symm, by simp only [encD]; exact .one (.bool b)⟩
    · rename_i k hu
      obtain ⟨z, rfl, hx, _⟩ := DataW.trod_int hu h
      simp only [Prod.mk.injEq] at hx
      obtain ⟨rfl, _⟩ := hx
      simp only [beq_iff_eq] at hp
      exact ⟨hp.symm, by simp only [encD]; exact .one (.int k z)⟩
    · rename_i hu
      obtain ⟨s, rfl, hx, _⟩ := DataW.trod_string hu h
      simp only [Prod.mk.injEq] at hx
      obtain ⟨rfl, _⟩ := hx
      simp only [beq_iff_eq] at hp
      exact ⟨hp.symm, by simp only [encD]; exact .one (.str _ s rfl)⟩
    · rename_i e hu
      simp only [Bool.and_eq_true, beq_iff_eq, decide_eq_true_eq] at hp
      obtain ⟨⟨hp1, he⟩, hsz⟩ := hp
      have he' : e ∈ S := by simpa using he
      rcases DataW.trod_slice hu h with ⟨rfl, hx⟩ | ⟨a, len, cap, elems, rest, m, hm, rfl, hx, _, hlc, _, hel, hget, _, _⟩
      · simp only [Prod.mk.injEq] at hx
        obtain ⟨rfl, _⟩ := hx
        exact ⟨hp1.symm, by simp only [encD]; exact .one (.vslNil _ (.inl rfl))⟩
      · simp only [Prod.mk.injEq] at hx
        obtain ⟨rfl, _⟩ := hx
        obtain rfl : n = m := by omega
        refine ⟨hp1.symm, ?_⟩
        simp only [encD, encDs_map]
        refine .one ?_
        by_cases h0 : len = 0
        · subst h0
          have : elems = [] := List.length_eq_zero_iff.1 hel
          subst this
          exact .vslEmpty _ _ _ (.inl rfl)
        -- each element
        have one : ∀ i, i < len → ∃ ci y, w.cells? base (a.add (i * P.cellsOf e)) (P.cellsOf e) = some ci ∧ elems[i]? = some y ∧ DataW.trod enc P w base sp held n e ci = some y := by
          intro i hi
          have h1 := hget i hi
          have h2 : elems[i]? = some (elems[i]'(by omega)) := by simp
          rw [h2, Option.bind_eq_some_iff] at h1
          obtain ⟨ci, h3, h4⟩ := h1
          exact ⟨ci, _, h3, h2, h4⟩
        obtain ⟨c0, y0, k1, k2, k3⟩ := one 0 (by omega)
        have hc0 := (cells?_get k1).2 0 (by omega)
        have hspot := World.cell?_spot hc0
        obtain ⟨blk, off, spot⟩ := a
        have hsp : spot = none := by simpa [Addr.add] using hspot
        subst hsp
        simp only [add_plain] at one hc0
        have hb : blk < w.heap.size := by
          unfold World.cell? at hc0
          have h' : w.heap[blk]? ≠ none := fun e => by simp [e] at hc0
          rcases Nat.lt_or_ge blk w.heap.size with h | h
          · exact h
          · exact absurd (by simpa using h) h'
        have hels : ∀ x ∈ (elems.map (·.1)).map encD, x.cells.length = P.cellsOf e := by
          intro x hx
          simp only [List.map_map, List.mem_map] at hx
          obtain ⟨y, hy, rfl⟩ := hx
          obtain ⟨i, hi, rfl⟩ := List.mem_iff_getElem.1 hy
          obtain ⟨ci, y', q1, q2, q3⟩ := one i (by omega)
          have q4 : elems[i]? = some elems[i] := by simp
          rw [q4] at q2
          simp only [Option.some.injEq] at q2
          subst q2
          obtain ⟨r1, r2, _⟩ := ih e ci _ _ he' q3
          exact r2.trans r1
        have hlen : ((elems.map (·.1)).map encD).length = len := by simp [hel]
        have hcell : ∀ j, j < len * P.cellsOf e → ∃ v, w.cell? ⟨blk, off + j, none⟩ = some v ∧ RV fm w (fun _ => False) Mu.none ((((elems.map (·.1)).map encD).flatMap AV.cells).getD j .undef) v := by
          intro j hj
          have hq : j / P.cellsOf e < len := by rw [Nat.div_lt_iff_lt_mul (by omega)]; exact hj
          have hr : j % P.cellsOf e < P.cellsOf e := Nat.mod_lt _ (by omega)
          obtain ⟨ci, y, q1, q2, q3⟩ := one (j / P.cellsOf e) hq
          obtain ⟨g1, g2⟩ := cells?_get q1
          have g3 := g2 (j % P.cellsOf e) hr
          obtain ⟨r1, r2, r3⟩ := ih e ci _ _ he' q3
          have hj2 : off + j / P.cellsOf e * P.cellsOf e + j % P.cellsOf e = off + j := by
            have := Nat.div_add_mod j (P.cellsOf e)
            rw [Nat.mul_comm] at this
            omega
          rw [add_plain, hj2] at g3
          refine ⟨_, g3, ?_⟩
          have e1 : j = (j / P.cellsOf e) * P.cellsOf e + j % P.cellsOf e := by
            have := Nat.div_add_mod j (P.cellsOf e)
            rw [Nat.mul_comm] at this
            omega
          have e2 : (((elems.map (·.1)).map encD).flatMap AV.cells).getD j .undef = (encD y.1).cells.getD (j % P.cellsOf e) .undef := by
            have hlt : j / P.cellsOf e < ((elems.map (·.1)).map encD).length := by rw [hlen]; exact hq
            have hy : ((elems.map (·.1)).map encD)[j / P.cellsOf e] = encD y.1 := by
              simp only [List.getElem_map]
              have : elems[j / P.cellsOf e]'(by omega) = y := by
                have q4 : elems[j / P.cellsOf e]? = some (elems[j / P.cellsOf e]'(by omega)) := by simp
                rw [q4] at q2; simpa using q2
              rw [this]
            conv => lhs; rw [e1]
            rw [flat_getD _ _ hels, List.drop_eq_getElem_cons hlt, List.flatMap_cons, hy]
            have : j % P.cellsOf e < (encD y.1).cells.length := by rw [r2, g1]; exact hr
            simp [List.getD, List.getElem?_append_left this]
          rw [e2]
          exact r3 _
        have := RV.vsl (fm := fm) (w := w) (X := fun _ => False) (μ := Mu.none) ((elems.map (·.1)).map encD) none blk off (P.cellsOf e) cap
          (fun j => if j < len * P.cellsOf e then (w.cell? ⟨blk, off + j, none⟩).getD Go.undef else Go.undef)
          (by rintro (h | ⟨_, _, h⟩) <;> simp [Mu.none] at h) hb hels (by rw [hlen]; exact hlc) (.inl rfl)
          (fun j hj => by
            rw [hlen] at hj
            obtain ⟨v, h1, _⟩ := hcell j hj
            simp only [hj, if_true, h1, Option.getD_some])
          (fun j => by
            by_cases hj : j < len * P.cellsOf e
            · obtain ⟨v, h1, h2⟩ := hcell j hj
              simp only [hj, if_true, h1, Option.getD_some]
              exact h2
            · have : (((elems.map (·.1)).map encD).flatMap AV.cells).getD j .undef = .undef := by
                have hl := flat_length _ hels
                rw [hlen] at hl
                rw [List.getD, List.getElem?_eq_none (by omega)]; rfl
              rw [this]; exact .undef _)
        rw [hlen] at this
        exact this
    · rename_i fs hu
      obtain ⟨xs, m, hm, hx, hcl, hxl, hget⟩ := DataW.trod_struct hu h
      simp only [Prod.mk.injEq] at hx
      obtain ⟨rfl, _⟩ := hx
      obtain rfl : n = m := by omega
      refine ⟨hcl, ?_⟩
      rw [← hcl] at hp
      have := (fields_rv n ih fs.toList xs 0 hp (by simpa using hxl) (fun i f hf => hget i f (by simpa using hf))).2
      simpa only [encD, AV.cells, List.drop_zero] using this
    · simp at hp
end
end Go.Ab
/- Arguments that are values, events, slots. -/
namespace Go.Ab
open Go.RowKit Go.ChangeShapes Go.WideShapes
def strsSz : List Bs → Nat
  | [] => 0
  | s :: r => s.length + strsSz r
def Ev.sz (e : Ev) : Nat := e.v.sz + e.id.length + e.room.length + e.type.length + e.sender.length + e.key.length + (e.prev.length + strsSz e.prev) + (e.auth.length + strsSz e.auth) + e.content.sz
def evsSz : List Ev → Nat
  | [] => 0
  | e :: r => e.sz + 1 + evsSz r
theorem evsSz_len : ∀ l : List Ev, l.length ≤ evsSz l
  | [] => by simp [evsSz]
  | e :: r => by have := evsSz_len r; simp only [evsSz, List.length_cons]; omega
theorem evsSz_mem {e : Ev} : ∀ {l : List Ev}, e ∈ l → e.sz ≤ evsSz l
  | x :: r, h => by
    simp only [evsSz]
    rcases List.mem_cons.1 h with rfl | h
    · omega
    · have := evsSz_mem h; omega
/-- The types' numbers. -/
structure Tys (P : Program) where
  int : TypeId
  i64 : TypeId
  str : TypeId
  bool : TypeId
  val : TypeId
  vals : TypeId
  mem : TypeId
  mems : TypeId
  strs : TypeId
  ev : TypeId
  evs : TypeId
  slot : TypeId
  fval : Array Field
  fmem : Array Field
  fev : Array Field
  fslot : Array Field
  uint : P.underlying int = some (.int .i64)
  ui64 : P.underlying i64 = some (.int .i64)
  ustr : P.underlying str = some .string
  ubool : P.underlying bool = some .bool
  uval : P.underlying val = some (.struct fval)
  uvals : P.underlying vals = some (.slice val)
  umem : P.underlying mem = some (.struct fmem)
  umems : P.underlying mems = some (.slice mem)
  ustrs : P.underlying strs = some (.slice str)
  uev : P.underlying ev = some (.struct fev)
  uevs : P.underlying evs = some (.slice ev)
  uslot : P.underlying slot = some (.struct fslot)
  tval : fval.toList.map (·.type) = [int, i64, str, vals, mems]
  tmem : fmem.toList.map (·.type) = [str, val]
  tev : fev.toList.map (·.type) = [val, str, str, str, str, str, bool, i64, i64, strs, strs, val]
  tslot : fslot.toList.map (·.type) = [str, str]
/-- How much a reading holds. -/
structure Bulk (H : Type) where
  B : DataW H → Nat
  L : List (DataW H) → Nat
  str : ∀ b, B (.lit (.string b)) = b.length + 1
  int : ∀ k n, B (.lit (.int k n)) = 1
  bool : ∀ b, B (.lit (.bool b)) = 1
  slice : ∀ a b, B (.slice a b) = L a + L b + 1
  agg : ∀ ps, B (.agg ps) = L ps + 1
  nil : L [] = 0
  cons : ∀ d r, L (d :: r) = B d + L r
section
variable {P : Program} {H : Type} {enc : TypeId × Value → H} {w : World} {base : Nat} {sp : Nat → Bool} {held : Bool} (T : Tys P) (K : Bulk H)
/-- The fields, by their types. -/
theorem struct_of {t : TypeId} {fs : Array Field} {ts : List TypeId} {fuel : Nat} {cs : List Value} {x : DataW H × List MemPlace} (hu : P.underlying t = some (.struct fs)) (ht : fs.toList.map (·.type) = ts)
    (h : DataW.trod enc P w base sp held fuel t cs = some x) : ∃ (xs : List (DataW H × List MemPlace)) (n : Nat), fuel = n + 1 ∧ x.1 = .agg (xs.map (·.1)) ∧ xs.length = ts.length ∧
      ∀ (i : Nat) (u : TypeId), ts[i]? = some u → ∃ c y, xs[i]? = some y ∧ DataW.trod enc P w base sp held n u c = some y := by
  obtain ⟨xs, n, hn, hx, _, hl, hg⟩ := DataW.trod_struct hu h
  subst ht
  refine ⟨xs, n, hn, by rw [hx], by simp [hl], fun i u hi => ?_⟩
  rw [List.getElem?_map] at hi
  simp only [Option.map_eq_some_iff] at hi
  obtain ⟨f, hf, rfl⟩ := hi
  have hf' : fs[i]? = some f := by simpa using hf
  have := hg i f hf'
  have hlt : i < xs.length := by rw [hl]; exact (Array.getElem?_eq_some_iff.1 hf').1
  have hxi : xs[i]? = some xs[i] := by simp [hlt]
  rw [hxi] at this
  exact ⟨_, _, hxi, this⟩
/-- A list's elements, each of its kind. -/
theorem list_of {α : Type} {f : α → AV} {m : α → Nat} : ∀ (ys : List (DataW H × List MemPlace)), (∀ y ∈ ys, ∃ v : α, encD y.1 = f v ∧ m v ≤ K.B y.1) →
    ∃ vs : List α, (ys.map (·.1)).map encD = vs.map f ∧ (vs.map m).sum ≤ K.L (ys.map (·.1))
  | [], _ => ⟨[], rfl, by simp⟩
  | y :: ys, h => by
    obtain ⟨v, h1, h2⟩ := h y (by simp)
    obtain ⟨vs, h3, h4⟩ := list_of ys (fun z hz => h z (by simp [hz]))
    refine ⟨v :: vs, by simp [h1, h3], ?_⟩
    simp only [List.map_cons, List.sum_cons, K.cons]
    omega
theorem slice_of {α : Type} {f : α → AV} {m : α → Nat} {t e : TypeId} {fuel : Nat} {cs : List Value} {x : DataW H × List MemPlace} (hu : P.underlying t = some (.slice e))
    (h : DataW.trod enc P w base sp held fuel t cs = some x) (he : ∀ n c y, n < fuel → DataW.trod enc P w base sp held n e c = some y → ∃ v : α, encD y.1 = f v ∧ m v ≤ K.B y.1) :
    ∃ vs : List α, encD x.1 = .vsl (vs.map f) none ∧ (vs.map m).sum ≤ K.B x.1 := by
  rcases DataW.trod_slice hu h with ⟨_, hx⟩ | ⟨a, len, cap, elems, rest, n, hn, _, hx, _, _, _, hel, hget, _, _⟩
  · subst hx
    exact ⟨[], by simp [encD], by simp⟩
  · subst hx
    obtain ⟨vs, h1, h2⟩ := list_of K (f := f) (m := m) elems (fun y hy => by
      obtain ⟨i, hi, rfl⟩ := List.mem_iff_getElem.1 hy
      have h1 := hget i (by omega)
      have h2 : elems[i]? = some (elems[i]'hi) := by simp
      rw [h2, Option.bind_eq_some_iff] at h1
      obtain ⟨ci, _, h4⟩ := h1
      exact he n ci _ (by omega) h4)
    refine ⟨vs, ?_, ?_⟩
    · simp only [encD, encDs_map, h1]
    · simp only [K.slice]; omega
theorem str_of {fuel : Nat} {cs : List Value} {x : DataW H × List MemPlace} (h : DataW.trod enc P w base sp held fuel T.str cs = some x) : ∃ s : Bs, encD x.1 = .str s ∧ s.length + 1 ≤ K.B x.1 := by
  obtain ⟨s, _, hx, _⟩ := DataW.trod_string T.ustr h
  subst hx
  exact ⟨s.data.toList, by simp only [encD], by simp [K.str]⟩
theorem int_of {t : TypeId} {k : IntKind} (hu : P.underlying t = some (.int k)) {fuel : Nat} {cs : List Value} {x : DataW H × List MemPlace} (h : DataW.trod enc P w base sp held fuel t cs = some x) : ∃ n : Int, encD x.1 = .int k n := by
  obtain ⟨n, _, hx, _⟩ := DataW.trod_int hu h
  subst hx
  exact ⟨n, by simp only [encD]⟩
theorem bool_of {fuel : Nat} {cs : List Value} {x : DataW H × List MemPlace} (h : DataW.trod enc P w base sp held fuel T.bool cs = some x) : ∃ b : Bool, encD x.1 = .bool b := by
  obtain ⟨n, _, hx⟩ := DataW.trod_bool T.ubool h
  subst hx
  exact ⟨n, by simp only [encD]⟩
theorem sumSz : ∀ l : List V, (l.map V.sz).sum = szL l
  | [] => by simp [szL]
  | v :: r => by simp [szL, sumSz r]
theorem sumSzM : ∀ l : List Mem, (l.map fun x => x.1.length + x.2.sz).sum = szM l
  | [] => by simp [szM]
  | (k, v) :: r => by simp [szM, sumSzM r]
theorem sumStr : ∀ l : List Bs, (l.map fun s => s.length + 1).sum = l.length + strsSz l
  | [] => by simp [strsSz]
  | s :: r => by simp [strsSz, sumStr r]; omega
theorem sumEv : ∀ l : List Ev, (l.map fun e => e.sz + 1).sum = evsSz l
  | [] => by simp [evsSz]
  | e :: r => by simp [evsSz, sumEv r]
theorem five {α : Type} {xs : List α} (h : xs.length = 5) : ∃ a b c d e, xs = [a, b, c, d, e] := by
  match xs, h with
  | [a, b, c, d, e], _ => exact ⟨a, b, c, d, e, rfl⟩
theorem twelve {α : Type} {xs : List α} (h : xs.length = 12) : ∃ a b c d e f g i j k l m, xs = [a, b, c, d, e, f, g, i, j, k, l, m] := by
  match xs, h with
  | [a, b, c, d, e, f, g, i, j, k, l, m], _ => exact ⟨a, b, c, d, e, f, g, i, j, k, l, m, rfl⟩
theorem two {α : Type} {xs : List α} (h : xs.length = 2) : ∃ a b, xs = [a, b] := by
  match xs, h with
  | [a, b], _ => exact ⟨a, b, rfl⟩
theorem val_of : ∀ (fuel : Nat) {cs : List Value} {x : DataW H × List MemPlace}, DataW.trod enc P w base sp held fuel T.val cs = some x → ∃ v : V, encD x.1 = v.enc ∧ v.sz ≤ K.B x.1 := by
  intro fuel
  induction fuel using Nat.strongRecOn with
  | _ fuel ih =>
    intro cs x h
    obtain ⟨xs, n, hn, hx, hl, hg⟩ := struct_of T.uval T.tval h
    obtain ⟨x0, x1, x2, x3, x4, rfl⟩ := five hl
    obtain ⟨_, _, e0, h0⟩ := hg 0 _ rfl
    obtain ⟨_, _, e1, h1⟩ := hg 1 _ rfl
    obtain ⟨_, _, e2, h2⟩ := hg 2 _ rfl
    obtain ⟨_, _, e3, h3⟩ := hg 3 _ rfl
    obtain ⟨_, _, e4, h4⟩ := hg 4 _ rfl
    obtain rfl := Option.some.inj e0
    obtain rfl := Option.some.inj e1
    obtain rfl := Option.some.inj e2
    obtain rfl := Option.some.inj e3
    obtain rfl := Option.some.inj e4
    obtain ⟨k, q0⟩ := int_of T.uint h0
    obtain ⟨z, q1⟩ := int_of T.ui64 h1
    obtain ⟨s, q2, b2⟩ := str_of T K h2
    obtain ⟨l, q3, b3⟩ := slice_of K (f := V.enc) (m := V.sz) T.uvals h3 (fun m c y hm hy => ih m (by omega) hy)
    obtain ⟨m, q4, b4⟩ := slice_of K (f := memE) (m := fun x : Mem => x.1.length + x.2.sz) T.umems h4 (fun m c y hm hy => by
      obtain ⟨ys, n', hn', hy', hl', hg'⟩ := struct_of T.umem T.tmem hy
      obtain ⟨y0, y1, rfl⟩ := two hl'
      obtain ⟨_, _, e0, k0⟩ := hg' 0 _ rfl
      obtain ⟨_, _, e1, k1⟩ := hg' 1 _ rfl
      obtain rfl := Option.some.inj e0
      obtain rfl := Option.some.inj e1
      obtain ⟨s, q0, b0⟩ := str_of T K k0
      obtain ⟨v, q1, b1⟩ := ih n' (by omega) k1
      refine ⟨(s, v), ?_, ?_⟩
      · rw [hy']; simp only [List.map_cons, List.map_nil, encD, encC, q0, q1, List.append_nil, memE]; rfl
      · rw [hy', K.agg]; simp only [List.map_cons, List.map_nil, K.cons, K.nil]; omega)
    refine ⟨V.mk k z s l m, ?_, ?_⟩
    · rw [hx, V.enc_eq]
      simp only [List.map_cons, List.map_nil, encD, encC, q0, q1, q2, q3, q4]
      rfl
    · rw [hx, K.agg, V.sz_eq]
      simp only [List.map_cons, List.map_nil, K.cons, K.nil, V.s, V.l, V.m]
      rw [sumSz] at b3
      rw [sumSzM] at b4
      omega
theorem strs_of {fuel : Nat} {cs : List Value} {x : DataW H × List MemPlace} (h : DataW.trod enc P w base sp held fuel T.strs cs = some x) : ∃ l : List Bs, encD x.1 = .vsl (l.map .str) none ∧ l.length + strsSz l ≤ K.B x.1 := by
  obtain ⟨l, q, b⟩ := slice_of K (f := AV.str) (m := fun s : Bs => s.length + 1) T.ustrs h (fun m c y hm hy => str_of T K hy)
  exact ⟨l, q, by rw [← sumStr]; exact b⟩
theorem ev_of {fuel : Nat} {cs : List Value} {x : DataW H × List MemPlace} (h : DataW.trod enc P w base sp held fuel T.ev cs = some x) : ∃ e : Ev, encD x.1 = evE e ∧ e.sz + 1 ≤ K.B x.1 := by
  obtain ⟨xs, n, hn, hx, hl, hg⟩ := struct_of T.uev T.tev h
  obtain ⟨x0, x1, x2, x3, x4, x5, x6, x7, x8, x9, xa, xb, rfl⟩ := twelve hl
  obtain ⟨_, _, e0, h0⟩ := hg 0 _ rfl
  obtain ⟨_, _, e1, h1⟩ := hg 1 _ rfl
  obtain ⟨_, _, e2, h2⟩ := hg 2 _ rfl
  obtain ⟨_, _, e3, h3⟩ := hg 3 _ rfl
  obtain ⟨_, _, e4, h4⟩ := hg 4 _ rfl
  obtain ⟨_, _, e5, h5⟩ := hg 5 _ rfl
  obtain ⟨_, _, e6, h6⟩ := hg 6 _ rfl
  obtain ⟨_, _, e7, h7⟩ := hg 7 _ rfl
  obtain ⟨_, _, e8, h8⟩ := hg 8 _ rfl
  obtain ⟨_, _, e9, h9⟩ := hg 9 _ rfl
  obtain ⟨_, _, ea, ha⟩ := hg 10 _ rfl
  obtain ⟨_, _, eb, hb⟩ := hg 11 _ rfl
  obtain rfl := Option.some.inj e0
  obtain rfl := Option.some.inj e1
  obtain rfl := Option.some.inj e2
  obtain rfl := Option.some.inj e3
  obtain rfl := Option.some.inj e4
  obtain rfl := Option.some.inj e5
  obtain rfl := Option.some.inj e6
  obtain rfl := Option.some.inj e7
  obtain rfl := Option.some.inj e8
  obtain rfl := Option.some.inj e9
  obtain rfl := Option.some.inj ea
  obtain rfl := Option.some.inj eb
  obtain ⟨v, q0, b0⟩ := val_of T K _ h0
  obtain ⟨s1, q1, b1⟩ := str_of T K h1
  obtain ⟨s2, q2, b2⟩ := str_of T K h2
  obtain ⟨s3, q3, b3⟩ := str_of T K h3
  obtain ⟨s4, q4, b4⟩ := str_of T K h4
  obtain ⟨s5, q5, b5⟩ := str_of T K h5
  obtain ⟨t6, q6⟩ := bool_of T h6
  obtain ⟨n7, q7⟩ := int_of T.ui64 h7
  obtain ⟨n8, q8⟩ := int_of T.ui64 h8
  obtain ⟨l9, q9, b9⟩ := strs_of T K h9
  obtain ⟨la, qa, ba⟩ := strs_of T K ha
  obtain ⟨c, qb, bb⟩ := val_of T K _ hb
  refine ⟨⟨v, s1, s2, s3, s4, s5, t6, n7, n8, l9, la, c⟩, ?_, ?_⟩
  · rw [hx]
    simp only [List.map_cons, List.map_nil, encD, encC, q0, q1, q2, q3, q4, q5, q6, q7, q8, q9, qa, qb, V.enc_cells]
    rfl
  · rw [hx, K.agg]
    simp only [List.map_cons, List.map_nil, K.cons, K.nil, Ev.sz]
    omega
theorem evs_of {fuel : Nat} {cs : List Value} {x : DataW H × List MemPlace} (h : DataW.trod enc P w base sp held fuel T.evs cs = some x) : ∃ l : List Ev, encD x.1 = .vsl (l.map evE) none ∧ evsSz l ≤ K.B x.1 := by
  obtain ⟨l, q, b⟩ := slice_of K (f := evE) (m := fun e : Ev => e.sz + 1) T.uevs h (fun m c y hm hy => ev_of T K hy)
  exact ⟨l, q, by rw [← sumEv]; exact b⟩
/-- An argument that is one cell. -/
theorem arg_one {fm : Nat → Option Nat} {S : List TypeId} (hS : S.all (plainTy P S) = true) {t : TypeId} (ht : t ∈ S) {v : Value} {fuel : Nat} {x : DataW H × List MemPlace} (hv : v.cells = #[v]) (hx : (encD x.1).cells = [encD x.1])
    (h : DataW.trod enc P w base sp held fuel t v.cells.toList = some x) : RV fm w (fun _ => False) Mu.none (encD x.1) v := by
  have h2 := (rv_trod (fm := fm) hS fuel t _ x.1 x.2 ht h).2.2 0
  rw [hv, hx] at h2
  exact h2
end
end Go.Ab
/- What is of this seat, for laws over events: the types' numbers, the bound on what is read. -/
namespace Go.Ab
open Go.Lib Go.Proofs Go.Proofs.YtgckcnggblomgaaGreatDoor Go.RowKit Go.ChangeShapes Go.WideShapes
set_option maxRecDepth 100000
def tyS : List TypeId := [2, 3, 4, 9, 22, 23, 25, 28, 29, 31, 33, 53, 88]
theorem tyS_ok : tyS.all (plainTy Tryz.prog tyS) = true := by kernel_rfl
noncomputable def fOf (t : TypeId) : Array Field := match Tryz.prog.underlying t with
  | some (.struct fs) => fs
  | _ => #[]
noncomputable def tysD : Tys Tryz.prog where
  int := 3
  i64 := 2
  str := 9
  bool := 4
  val := 31
  vals := 28
  mem := 53
  mems := 29
  strs := 23
  ev := 33
  evs := 22
  slot := 88
  fval := fOf 31
  fmem := fOf 53
  fev := fOf 33
  fslot := fOf 88
  uint := by kernel_rfl
  ui64 := by kernel_rfl
  ustr := by kernel_rfl
  ubool := by kernel_rfl
  uval := by kernel_rfl
  uvals := by kernel_rfl
  umem := by kernel_rfl
  umems := by kernel_rfl
  ustrs := by kernel_rfl
  uev := by kernel_rfl
  uevs := by kernel_rfl
  uslot := by kernel_rfl
  tval := by kernel_rfl
  tmem := by kernel_rfl
  tev := by kernel_rfl
  tslot := by kernel_rfl
def bulkD (H : Type) : Bulk H where
  B := Rows.uptoBulk
  L := Rows.uptoBulkAll
  str _ := by simp only [Rows.uptoBulk]
  int _ _ := by simp only [Rows.uptoBulk]
  bool _ := by simp only [Rows.uptoBulk]
  slice _ _ := by simp only [Rows.uptoBulk]
  agg _ := by simp only [Rows.uptoBulk]
  nil := by simp only [Rows.uptoBulkAll]
  cons _ _ := by simp only [Rows.uptoBulkAll]
theorem upto_bound {H : Type} {l : List (DataW H)} (hk : Rows.uptoSmall H l = true) : Rows.uptoBulkAll l ≤ 1048576 := of_decide_eq_true hk
theorem unms : Tryz.prog.underlying 25 = some (.struct (fOf 25)) := by kernel_rfl
theorem tnms : (fOf 25).toList.map (·.type) = [9, 9, 9, 9, 9] := by kernel_rfl
end Go.Ab
/- Values: depth, good, members. -/
namespace Go.Ab
set_option maxHeartbeats 1000000
def T7Fb := @F43.eq_1
def T7Fc := J @F49_5.eq_1 (J @F49_17.eq_1 (J @F49_18.eq_1 (J @F49_25.eq_1 (J @F49_37.eq_1 (J @F49_38.eq_1 (@F49.eq_1))))))
def T7Fd := J @F49_5.eq_1 (J @F49_17.eq_1 (J @F49_25.eq_1 (J @F49_37.eq_1 (@F49.eq_1))))
set_option maxRecDepth 100000
mutual
def V.dep : V → Nat
  | .mk k _ _ l m => if k = 4 then depL l + 1 else if k = 5 then depM m + 1 else 0
def depL : List V → Nat
  | [] => 0
  | v :: r => max v.dep (depL r)
def depM : List (Bs × V) → Nat
  | [] => 0
  | (_, v) :: r => max v.dep (depM r)
end
theorem V.dep_eq (v : V) : v.dep = if v.kind = 4 then depL v.l + 1 else if v.kind = 5 then depM v.m + 1 else 0 := by cases v; rw [V.dep]; rfl
theorem depM_cons (x : Mem) (r : List Mem) : depM (x :: r) = max x.2.dep (depM r) := by
  obtain ⟨k, v⟩ := x; rw [depM]
mutual
theorem V.dep_le : ∀ v : V, v.dep ≤ v.sz
  | .mk k n s l m => by
    have h1 := depL_le l
    have h2 := depM_le m
    simp only [V.dep, V.sz]
    split
    · omega
    · split <;> omega
theorem depL_le : ∀ l : List V, depL l ≤ szL l
  | [] => by simp [depL]
  | v :: r => by have := V.dep_le v; have := depL_le r; simp only [depL, szL]; omega
theorem depM_le : ∀ l : List (Bs × V), depM l ≤ szM l
  | [] => by simp [depM]
  | (k, v) :: r => by have := V.dep_le v; have := depM_le r; simp only [depM, szM]; omega
end
theorem max2N' (a b : Nat) : (if (a : Int) < (b : Int) then (b : Int) else (a : Int)) = ((max a b : Nat) : Int) := by
  split <;> omega
theorem r_depN : ∀ (n : Nat) (v : V), v.sz < n → v.sz < big → cR 49 [v.enc] = some (.int .i64 (v.dep : Nat)) := by
  intro n
  induction n with
  | zero => intro v h; omega
  | succ n ih =>
    intro v h hb
    have hsz := v.sz_eq
    have hl := szL_len v.l
    have hm := szM_len v.m
    have hdl := depL_le v.l
    have hdm := depM_le v.m
    unfold big at hb
    have ihL : ∀ x ∈ v.l, cR 49 [x.enc] = some (.int .i64 (x.dep : Nat)) := fun x hx => by
      have := szL_mem hx
      exact ih x (by omega) (by unfold big; omega)
    have ihM : ∀ x ∈ v.m, cR 49 [x.2.enc] = some (.int .i64 (x.2.dep : Nat)) := fun x hx => by
      have := szM_mem hx
      exact ih x.2 (by omega) (by unfold big; omega)
    refine cR_of (F := F49) rfl ?_
    rw [V.dep_eq]
    by_cases h4 : v.kind = 4
    · have q4 : (v.kind == 4) = true := by simp [h4]
      simp only [T7Fd, ex_loop, EXA, Nat.reduceEqDiff, reduceIte, reduceCtorEq, Nat.reduceAdd, Nat.reduceLeDiff, Nat.reduceSub, Nat.reduceMul, Int.reduceEq, Int.reduceBEq, Int.reduceBNe, Int.reduceLT, Int.reduceLE, Nat.reduceLT, VX, readAt_some, q4, h4]
      refine ex_whileI (S := Nat × Nat) (fun p => [(3, .int .i64 (p.2 : Int)), (13, .vsl (v.l.map V.enc) none), (14, .int .i64 v.l.length), (15, .int .i64 (p.1 : Int))]) (fun p => v.l.length - p.1) (fun p _ => max p.2 (depL (v.l.drop p.1)) = depL v.l) ?_ (0, 0) _ (by simp)
      rintro b ⟨j, a⟩ σ hj ih2
      simp only at hj ih2 ⊢
      by_cases hlt : j < v.l.length
      · obtain ⟨x, hx⟩ := get_lt hlt
        have hidx := idx_map (f := V.enc) (sz := 5) (c := none) hx (by simp [V.enc_cells])
        have hcond := dlt hlt
        have hcall := ihL x (List.mem_of_getElem? hx)
        rw [drop_cons hx, depL] at hj
        simp only [T7Fc, EXA, Nat.reduceEqDiff, reduceIte, reduceCtorEq, Nat.reduceAdd, Nat.reduceLeDiff, Nat.reduceSub, Nat.reduceMul, Int.reduceEq, Int.reduceBEq, Int.reduceBNe, Int.reduceLT, Int.reduceLE, Nat.reduceLT, VX, readAt_some, hcond, hidx, hcall, max2N']
        exact ih2 (j + 1, max a x.dep) _ _ (by simp; omega) (by simp only; omega) (by rw [wsucc hlt (by omega)]; simp only [EXA, Nat.reduceEqDiff, reduceIte, reduceCtorEq, Nat.reduceAdd, Nat.reduceLeDiff, Nat.reduceSub, Nat.reduceMul, Int.reduceEq, Int.reduceBEq, Int.reduceBNe, Int.reduceLT, Int.reduceLE, Nat.reduceLT])
      · have hcond := dge (Nat.not_lt.1 hlt)
        rw [List.drop_eq_nil_of_le (by omega), depL] at hj
        have hw := wsucc (j := a) (n := szL v.l + 1) (by omega) (by omega)
        simp only [T7Fc, EXA, Nat.reduceEqDiff, reduceIte, reduceCtorEq, Nat.reduceAdd, Nat.reduceLeDiff, Nat.reduceSub, Nat.reduceMul, Int.reduceEq, Int.reduceBEq, Int.reduceBNe, Int.reduceLT, Int.reduceLE, Nat.reduceLT, VX, hcond, hw]
        rw [show a = depL v.l by omega]
    · have q4 : (v.kind == 4) = false := by simp [h4]
      by_cases h5 : v.kind = 5
      · have q5 : (v.kind == 5) = true := by simp [h5]
        simp only [T7Fd, ex_loop, EXA, Nat.reduceEqDiff, reduceIte, reduceCtorEq, Nat.reduceAdd, Nat.reduceLeDiff, Nat.reduceSub, Nat.reduceMul, Int.reduceEq, Int.reduceBEq, Int.reduceBNe, Int.reduceLT, Int.reduceLE, Nat.reduceLT, VX, readAt_some, q4, q5, h4, h5]
        refine ex_whileI (S := Nat × Nat) (fun p => [(3, .int .i64 (p.2 : Int)), (27, .vsl (v.m.map memE) none), (28, .int .i64 v.m.length), (29, .int .i64 (p.1 : Int))]) (fun p => v.m.length - p.1) (fun p _ => max p.2 (depM (v.m.drop p.1)) = depM v.m) ?_ (0, 0) _ (by simp)
        rintro b ⟨j, a⟩ σ hj ih2
        simp only at hj ih2 ⊢
        by_cases hlt : j < v.m.length
        · obtain ⟨x, hx⟩ := get_lt hlt
          have hidx := idx_map (f := memE) (sz := 6) (c := none) hx (by simp [memE_cells])
          have hcond := dlt hlt
          have hcall := ihM x (List.mem_of_getElem? hx)
          rw [drop_cons hx, depM_cons] at hj
          simp only [T7Fc, EXA, Nat.reduceEqDiff, reduceIte, reduceCtorEq, Nat.reduceAdd, Nat.reduceLeDiff, Nat.reduceSub, Nat.reduceMul, Int.reduceEq, Int.reduceBEq, Int.reduceBNe, Int.reduceLT, Int.reduceLE, Nat.reduceLT, VX, readAt_some, hcond, hidx, hcall, max2N']
          exact ih2 (j + 1, max a x.2.dep) _ _ (by simp; omega) (by simp only; omega) (by rw [wsucc hlt (by omega)]; simp only [EXA, Nat.reduceEqDiff, reduceIte, reduceCtorEq, Nat.reduceAdd, Nat.reduceLeDiff, Nat.reduceSub, Nat.reduceMul, Int.reduceEq, Int.reduceBEq, Int.reduceBNe, Int.reduceLT, Int.reduceLE, Nat.reduceLT])
        · have hcond := dge (Nat.not_lt.1 hlt)
          rw [List.drop_eq_nil_of_le (by omega), depM] at hj
          have hw := wsucc (j := a) (n := szM v.m + 1) (by omega) (by omega)
          simp only [T7Fc, EXA, Nat.reduceEqDiff, reduceIte, reduceCtorEq, Nat.reduceAdd, Nat.reduceLeDiff, Nat.reduceSub, Nat.reduceMul, Int.reduceEq, Int.reduceBEq, Int.reduceBNe, Int.reduceLT, Int.reduceLE, Nat.reduceLT, VX, hcond, hw]
          rw [show a = depM v.m by omega]
      · have q5 : (v.kind == 5) = false := by simp [h5]
        simp only [T7Fd, EXA, Nat.reduceEqDiff, reduceIte, reduceCtorEq, Nat.reduceAdd, Nat.reduceLeDiff, Nat.reduceSub, Nat.reduceMul, Int.reduceEq, Int.reduceBEq, Int.reduceBNe, Int.reduceLT, Int.reduceLE, Nat.reduceLT, VX, readAt_some, q4, q5, h4, h5]
        rfl
theorem r_dep (v : V) (hb : v.sz < big) : cR 49 [v.enc] = some (.int .i64 (v.dep : Nat)) := r_depN (v.sz + 1) v (Nat.lt_succ_self _) hb
def V.good (v : V) : Bool := v.fine && decide (v.dep ≤ 50)
theorem r_good (v : V) (hb : v.sz < big) : cR 25 [v.enc] = some (.bool v.good) := by
  have h1 : decide ((v.dep : Int) ≤ 50) = decide (v.dep ≤ 50) := by rw [decide_eq_decide]; omega
  refine cR_of (F := F25) rfl ?_
  simp only [F25, EXA, Nat.reduceEqDiff, reduceIte, reduceCtorEq, Nat.reduceAdd, Nat.reduceLeDiff, Nat.reduceSub, Nat.reduceMul, Int.reduceEq, Int.reduceBEq, Int.reduceBNe, Int.reduceLT, Int.reduceLE, Nat.reduceLT, VX, readAt_some, r_fine v hb, r_dep v hb, h1, V.good]
  repeat' split
  all_goals simp_all
def V.zero : V := V.mk 0 0 [] [] []
def said (v : V) : V := if v.good && v.kind == 5 then v else V.zero
theorem r_said (v : V) (hb : v.sz < big) : cR 43 [v.enc] = some (said v).enc := by
  refine cR_of (F := F43) rfl ?_
  cases hg : v.good
  · simp only [T7Fb, EXA, Nat.reduceEqDiff, reduceIte, reduceCtorEq, Nat.reduceAdd, Nat.reduceLeDiff, Nat.reduceSub, Nat.reduceMul, Int.reduceEq, Int.reduceBEq, Int.reduceBNe, Int.reduceLT, Int.reduceLE, Nat.reduceLT, VX, readAt_some, r_good v hb, hg, said, V.zero, Bool.false_and]
  · by_cases h5 : v.kind = 5
    · have q : (v.kind != 5) = false := by simp [h5]
      have q2 : (v.kind == 5) = true := by simp [h5]
      simp only [T7Fb, EXA, Nat.reduceEqDiff, reduceIte, reduceCtorEq, Nat.reduceAdd, Nat.reduceLeDiff, Nat.reduceSub, Nat.reduceMul, Int.reduceEq, Int.reduceBEq, Int.reduceBNe, Int.reduceLT, Int.reduceLE, Nat.reduceLT, VX, readAt_some, r_good v hb, hg, said, V.zero, q, q2]
    · have q : (v.kind != 5) = true := by simp [h5]
      have q2 : (v.kind == 5) = false := by simp [h5]
      simp only [T7Fb, EXA, Nat.reduceEqDiff, reduceIte, reduceCtorEq, Nat.reduceAdd, Nat.reduceLeDiff, Nat.reduceSub, Nat.reduceMul, Int.reduceEq, Int.reduceBEq, Int.reduceBNe, Int.reduceLT, Int.reduceLE, Nat.reduceLT, VX, readAt_some, r_good v hb, hg, said, V.zero, q, q2]
end Go.Ab
/- Values: members looked up. -/
namespace Go.Ab
set_option maxHeartbeats 1000000
def T8Fa := @F46.eq_1
def T8Fb := @F63.eq_1
def T8Fc := @F74.eq_1
def T8Fd := J @F83_6.eq_1 (J @F83_17.eq_1 (J @F83_18.eq_1 (@F83.eq_1)))
set_option maxRecDepth 100000
theorem bl_irrefl : ∀ a : Bs, bytesLess a a = false
  | [] => rfl
  | x :: r => by simp [bytesLess, bl_irrefl r]
theorem bl_total : ∀ {a b : Bs}, bytesLess a b = false → bytesLess b a = false → a = b
  | [], [], _, _ => rfl
  | [], _ :: _, h, _ => by simp [bytesLess] at h
  | _ :: _, [], _, h => by simp [bytesLess] at h
  | x :: r, y :: s, h, h2 => by
    simp only [bytesLess, Bool.or_eq_false_iff, decide_eq_false_iff_not, Bool.and_eq_false_iff, beq_eq_false_iff_ne] at h h2
    have hxy : x = y := UInt8.le_antisymm (UInt8.not_lt.1 h2.1) (UInt8.not_lt.1 h.1)
    subst hxy
    have h3 : bytesLess r s = false := by rcases h.2 with h | h; exact absurd rfl h; exact h
    have h4 : bytesLess s r = false := by rcases h2.2 with h | h; exact absurd rfl h; exact h
    rw [bl_total h3 h4]
theorem bl_trans : ∀ {a b c : Bs}, bytesLess a b = true → bytesLess b c = true → bytesLess a c = true
  | _, [], _, h, _ => by cases ‹Bs› <;> simp [bytesLess] at h
  | _, _ :: _, [], _, h => by simp [bytesLess] at h
  | [], _ :: _, _ :: _, _, _ => rfl
  | x :: r, y :: s, z :: t, h, h2 => by
    simp only [bytesLess, Bool.or_eq_true, decide_eq_true_eq, Bool.and_eq_true, beq_iff_eq] at h h2 ⊢
    rcases h with h | ⟨rfl, h⟩
    · rcases h2 with h2 | ⟨rfl, h2⟩
      · exact .inl (UInt8.lt_trans h h2)
      · exact .inl h
    · rcases h2 with h2 | ⟨rfl, h2⟩
      · exact .inl h2
      · exact .inr ⟨rfl, bl_trans h h2⟩
theorem keyC_lt (a b : Bs) : decide (keyC a b < 0) = bytesLess a b := by
  unfold keyC
  cases h : bytesLess a b <;> cases h2 : bytesLess b a <;> simp
theorem keyC_eq (a b : Bs) : (keyC a b == 0) = (a == b) := by
  unfold keyC
  cases h : bytesLess a b
  · cases h2 : bytesLess b a
    · rw [bl_total h h2]; simp
    · have : a ≠ b := by rintro rfl; rw [bl_irrefl] at h2; simp at h2
      simp [this]
  · have : a ≠ b := by rintro rfl; rw [bl_irrefl] at h; simp at h
    simp [this]
def keyAt (m : List Mem) (i : Nat) : Bs := match m[i]? with
  | some x => x.1
  | none => []
def bsF (m : List Mem) (k : Bs) (i j : Nat) : Nat :=
  if i < j then (if bytesLess (keyAt m ((i + j) / 2)) k = true then bsF m k ((i + j) / 2 + 1) j else bsF m k i ((i + j) / 2)) else i
termination_by j - i
decreasing_by all_goals omega
theorem u64n {n : Nat} (h : n < 9223372036854775808) : IntKind.wrap .u64 (n : Int) = (n : Int) := by
  simp [IntKind.wrap, IntKind.bits, IntKind.signed]; omega
theorem i64n {n : Nat} (h : n < 9223372036854775808) : IntKind.wrap .i64 (n : Int) = (n : Int) := by
  simp [IntKind.wrap, IntKind.bits, IntKind.signed]; omega
theorem shr1 (n : Nat) : shiftInt .shr .u64 (n : Int) 1 = some (.int .u64 ((n / 2 : Nat) : Int)) := by
  have : Int.fdiv (n : Int) 2 = ((n / 2 : Nat) : Int) := by
    rw [Int.fdiv_eq_ediv_of_nonneg _ (by omega)]; omega
  simp [shiftInt, IntKind.bits, this]
theorem r_bsearch (m : List Mem) (k : Bs) (x : V) (hb : m.length < big) :
    cR 83 [.vsl (m.map memE) none, memE (k, x), .fn 40 [] []] = some (.tup [.int .i64 (bsF m k 0 m.length : Nat), .bool (decide (bsF m k 0 m.length < m.length) && (keyAt m (bsF m k 0 m.length) == k))]) := by
  unfold big at hb
  refine cR_of (F := F83) rfl ?_
  simp only [F83_6, F83_17, F83, ex_loop, EXA, Nat.reduceEqDiff, reduceIte, reduceCtorEq, Nat.reduceAdd, Nat.reduceLeDiff, Nat.reduceSub, Nat.reduceMul, Int.reduceEq, Int.reduceBEq, Int.reduceBNe, Int.reduceLT, Int.reduceLE, Nat.reduceLT, VX, readAt_some]
  have hQ : ∀ (i j : Nat) (σ : Store), i ≤ j → j ≤ m.length → bsF m k i j = bsF m k 0 m.length → True := fun _ _ _ _ _ _ => trivial
  refine ex_while (S := Nat × Nat) (fun p => [(0, .vsl (m.map memE) none), (2, .fn 40 [] []), (4, .vptr [.str k, .int .i64 x.kind, .int .i64 x.n, .str x.s, .vsl (x.l.map V.enc) none, .vsl (x.m.map memE) none] 0), (8, .int .i64 m.length), (9, .int .i64 (p.1 : Int)), (10, .int .i64 (p.2 : Int))]) (fun _ => .empty) (fun p => p.2 - p.1)
    (fun p => bsF m k p.1 p.2 = bsF m k 0 m.length ∧ p.1 ≤ p.2 ∧ p.2 ≤ m.length) ?_ (0, m.length) ⟨rfl, by simp, by simp⟩
  rintro b ⟨i, j⟩ ⟨h1, h2, h3⟩ ih
  simp only at h1 h2 h3 ih ⊢
  by_cases hlt : i < j
  · have hc := dlt hlt
    obtain ⟨c, hcdef⟩ : ∃ c, c = (i + j) / 2 := ⟨_, rfl⟩
    have hcm : c < m.length := by omega
    obtain ⟨y, hy⟩ := get_lt hcm
    have hidx := idx_map (f := memE) (sz := 6) (c := none) hy (by simp [memE_cells])
    have w1 := wadd (a := i) (b := j) (by omega)
    have w2 := u64n (n := i + j) (by omega)
    have w3 := i64n (n := c) (by omega)
    have w4 := shr1 (i + j)
    rw [← hcdef] at w4
    have hk := r_key y (k, x)
    have hkey : keyAt m c = y.1 := by simp [keyAt, hy]
    have hstep := h1
    rw [bsF, if_pos hlt, ← hcdef, hkey] at hstep
    cases hl : bytesLess y.1 k
    · rw [hl, if_neg (by simp)] at hstep
      simp only [T8Fd, EXA, Nat.reduceEqDiff, reduceIte, reduceCtorEq, Nat.reduceAdd, Nat.reduceLeDiff, Nat.reduceSub, Nat.reduceMul, Int.reduceEq, Int.reduceBEq, Int.reduceBNe, Int.reduceLT, Int.reduceLE, Nat.reduceLT, VX, readAt_some, hc, w1, w2, w3, w4, hidx, hk, keyC_lt, hl]
      exact ih (i, c) _ _ (by simp; omega) ⟨hstep, by simp; omega, by simp; omega⟩ (by simp only [EXA, Nat.reduceEqDiff, reduceIte, reduceCtorEq, Nat.reduceAdd, Nat.reduceLeDiff, Nat.reduceSub, Nat.reduceMul, Int.reduceEq, Int.reduceBEq, Int.reduceBNe, Int.reduceLT, Int.reduceLE, Nat.reduceLT]) rfl
    · rw [hl, if_pos rfl] at hstep
      have w5 := wsucc hcm (by omega)
      simp only [T8Fd, EXA, Nat.reduceEqDiff, reduceIte, reduceCtorEq, Nat.reduceAdd, Nat.reduceLeDiff, Nat.reduceSub, Nat.reduceMul, Int.reduceEq, Int.reduceBEq, Int.reduceBNe, Int.reduceLT, Int.reduceLE, Nat.reduceLT, VX, readAt_some, hc, w1, w2, w3, w4, hidx, hk, keyC_lt, hl, w5]
      exact ih (c + 1, j) _ _ (by simp; omega) ⟨hstep, by simp; omega, by simp; omega⟩ (by simp only [EXA, Nat.reduceEqDiff, reduceIte, reduceCtorEq, Nat.reduceAdd, Nat.reduceLeDiff, Nat.reduceSub, Nat.reduceMul, Int.reduceEq, Int.reduceBEq, Int.reduceBNe, Int.reduceLT, Int.reduceLE, Nat.reduceLT]) rfl
  · have hc := dge (Nat.not_lt.1 hlt)
    have hi : bsF m k 0 m.length = i := by rw [← h1, bsF, if_neg hlt]
    rw [hi]
    by_cases him : i < m.length
    · obtain ⟨y, hy⟩ := get_lt him
      have hidx := idx_map (f := memE) (sz := 6) (c := none) hy (by simp [memE_cells])
      have hk := r_key y (k, x)
      have hc2 := dlt him
      have hkey : keyAt m i = y.1 := by simp [keyAt, hy]
      simp only [T8Fd, EXA, Nat.reduceEqDiff, reduceIte, reduceCtorEq, Nat.reduceAdd, Nat.reduceLeDiff, Nat.reduceSub, Nat.reduceMul, Int.reduceEq, Int.reduceBEq, Int.reduceBNe, Int.reduceLT, Int.reduceLE, Nat.reduceLT, VX, readAt_some, hc, hc2, hidx, hk, keyC_eq, hkey, him]
    · have hc2 := dge (Nat.not_lt.1 him)
      simp only [T8Fd, EXA, Nat.reduceEqDiff, reduceIte, reduceCtorEq, Nat.reduceAdd, Nat.reduceLeDiff, Nat.reduceSub, Nat.reduceMul, Int.reduceEq, Int.reduceBEq, Int.reduceBNe, Int.reduceLT, Int.reduceLE, Nat.reduceLT, VX, readAt_some, hc, hc2, him, Bool.false_and]
def placeV (v : V) (k : Bs) : Nat × Bool := if v.kind = 5 then (bsF v.m k 0 v.m.length, decide (bsF v.m k 0 v.m.length < v.m.length) && (keyAt v.m (bsF v.m k 0 v.m.length) == k)) else (0, false)
theorem r_place (v : V) (k : Bs) (hb : v.m.length < big) : cR 74 [v.enc, .str k] = some (.tup [.int .i64 ((placeV v k).1 : Nat), .bool (placeV v k).2]) := by
  refine cR_of (F := F74) rfl ?_
  by_cases h5 : v.kind = 5
  · have q : (v.kind != 5) = false := by simp [h5]
    simp only [T8Fc, EXA, Nat.reduceEqDiff, reduceIte, reduceCtorEq, Nat.reduceAdd, Nat.reduceLeDiff, Nat.reduceSub, Nat.reduceMul, Int.reduceEq, Int.reduceBEq, Int.reduceBNe, Int.reduceLT, Int.reduceLE, Nat.reduceLT, VX, readAt_some, q, r_bsearch _ _ _ hb, placeV, h5]
  · have q : (v.kind != 5) = true := by simp [h5]
    simp only [T8Fc, EXA, Nat.reduceEqDiff, reduceIte, reduceCtorEq, Nat.reduceAdd, Nat.reduceLeDiff, Nat.reduceSub, Nat.reduceMul, Int.reduceEq, Int.reduceBEq, Int.reduceBNe, Int.reduceLT, Int.reduceLE, Nat.reduceLT, VX, readAt_some, q, placeV, h5]
    rfl
def getV (v : V) (k : Bs) : V × Bool := match (placeV v k).2, v.m[(placeV v k).1]? with
  | true, some x => (x.2, true)
  | _, _ => (V.zero, false)
theorem r_Get (v : V) (k : Bs) (hb : v.m.length < big) : cR 63 [v.enc, .str k] = some (.tup [(getV v k).1.enc, .bool (getV v k).2]) := by
  refine cR_of (F := F63) rfl ?_
  have hp := r_place v k hb
  cases hk : (placeV v k).2
  · rw [hk] at hp
    simp only [T8Fb, EXA, Nat.reduceEqDiff, reduceIte, reduceCtorEq, Nat.reduceAdd, Nat.reduceLeDiff, Nat.reduceSub, Nat.reduceMul, Int.reduceEq, Int.reduceBEq, Int.reduceBNe, Int.reduceLT, Int.reduceLE, Nat.reduceLT, VX, readAt_some, hp, getV, hk, V.zero]
  · have hlt : (placeV v k).1 < v.m.length := by
      unfold placeV at hk ⊢
      split at hk
      · rename_i h5; simp only [Bool.and_eq_true, decide_eq_true_eq] at hk; rw [if_pos h5]; exact hk.1
      · simp at hk
    obtain ⟨x, hx⟩ := get_lt hlt
    have hidx := idx_map (f := memE) (sz := 6) (c := none) hx (by simp [memE_cells])
    rw [hk] at hp
    simp only [T8Fb, EXA, Nat.reduceEqDiff, reduceIte, reduceCtorEq, Nat.reduceAdd, Nat.reduceLeDiff, Nat.reduceSub, Nat.reduceMul, Int.reduceEq, Int.reduceBEq, Int.reduceBNe, Int.reduceLT, Int.reduceLE, Nat.reduceLT, VX, readAt_some, hp, hidx, getV, hk, hx]
def textAt (v : V) (k : Bs) : Bs × Bool := if (getV v k).2 && (getV v k).1.kind == 3 then ((getV v k).1.s, true) else ([], false)
theorem r_TextAt (v : V) (k : Bs) (hb : v.m.length < big) : cR 46 [v.enc, .str k] = some (.tup [.str (textAt v k).1, .bool (textAt v k).2]) := by
  refine cR_of (F := F46) rfl ?_
  have hp := r_Get v k hb
  unfold textAt
  generalize getV v k = g at hp
  obtain ⟨x, ok⟩ := g
  simp only at hp ⊢
  cases ok
  · simp only [T8Fa, EXA, Nat.reduceEqDiff, reduceIte, reduceCtorEq, Nat.reduceAdd, Nat.reduceLeDiff, Nat.reduceSub, Nat.reduceMul, Int.reduceEq, Int.reduceBEq, Int.reduceBNe, Int.reduceLT, Int.reduceLE, Nat.reduceLT, VX, readAt_some, hp, Bool.false_and]
  · by_cases h3 : x.kind = 3
    · have q : (x.kind != 3) = false := by simp [h3]
      have q2 : (x.kind == 3) = true := by simp [h3]
      simp only [T8Fa, EXA, Nat.reduceEqDiff, reduceIte, reduceCtorEq, Nat.reduceAdd, Nat.reduceLeDiff, Nat.reduceSub, Nat.reduceMul, Int.reduceEq, Int.reduceBEq, Int.reduceBNe, Int.reduceLT, Int.reduceLE, Nat.reduceLT, VX, readAt_some, hp, q, q2]
    · have q : (x.kind != 3) = true := by simp [h3]
      have q2 : (x.kind == 3) = false := by simp [h3]
      simp only [T8Fa, EXA, Nat.reduceEqDiff, reduceIte, reduceCtorEq, Nat.reduceAdd, Nat.reduceLeDiff, Nat.reduceSub, Nat.reduceMul, Int.reduceEq, Int.reduceBEq, Int.reduceBNe, Int.reduceLT, Int.reduceLE, Nat.reduceLT, VX, readAt_some, hp, q, q2]
end Go.Ab
/- Names. -/
namespace Go.Ab
set_option maxHeartbeats 1000000
def T9Fa := J @F101_35.eq_1 (J @F101_103.eq_1 (@F101.eq_1))
def T9Ff := @F68.eq_1
def T9Fh := J @F76_2.eq_1 (J @F76_19.eq_1 (J @F76_20.eq_1 (@F76.eq_1)))
def T9Fl := @F93.eq_1
def T9Fm := J @F94_2.eq_1 (J @F94_19.eq_1 (J @F94_20.eq_1 (@F94.eq_1)))
set_option maxRecDepth 100000
theorem u8back (c : UInt8) : ((c.toNat : Int).toNat).toUInt8 = c := by simp
theorem r_ib (s : Bs) (c : UInt8) : cR 107 [.str s, .int .u8 c.toNat] = some (.int .i64 (firstByte s c)) := by
  refine cR_of (F := F107) rfl ?_
  simp only [F107, EXA, Nat.reduceEqDiff, reduceIte, reduceCtorEq, Nat.reduceAdd, Nat.reduceLeDiff, Nat.reduceSub, Nat.reduceMul, Int.reduceEq, Int.reduceBEq, Int.reduceBNe, Int.reduceLT, Int.reduceLE, Nat.reduceLT, u8back]
theorem r_ib2 (s : Bs) (c : UInt8) : cR 102 [.str s, .int .u8 c.toNat] = some (.int .i64 (firstByte s c)) := by
  refine cR_of (F := F102) rfl ?_
  simp only [F102, EXA, Nat.reduceEqDiff, reduceIte, reduceCtorEq, Nat.reduceAdd, Nat.reduceLeDiff, Nat.reduceSub, Nat.reduceMul, Int.reduceEq, Int.reduceBEq, Int.reduceBNe, Int.reduceLT, Int.reduceLE, Nat.reduceLT, r_ib]
theorem firstByte_none {s : Bs} {c : UInt8} (h : s.findIdx? (fun b => b == c) = none) : firstByte s c = -1 := by
  unfold firstByte; rw [h]
theorem firstByte_some {s : Bs} {c : UInt8} {i : Nat} (h : s.findIdx? (fun b => b == c) = some i) : firstByte s c = (i : Int) := by
  unfold firstByte; rw [h]
theorem firstByte_ge (s : Bs) (c : UInt8) : decide (firstByte s c ≥ 0) = s.contains c := by
  cases h : s.findIdx? (fun b => b == c) with
  | none =>
    rw [firstByte_none h]
    have := List.findIdx?_eq_none_iff.1 h
    have h2 : s.contains c = false := by
      rw [← Bool.not_eq_true, List.contains_iff_mem]
      intro hm
      have := this c hm
      simp at this
    rw [h2]; rfl
  | some i =>
    rw [firstByte_some h]
    obtain ⟨h1, h2, _⟩ := List.findIdx?_eq_some_iff_getElem.1 h
    have h3 : s.contains c = true := by
      rw [List.contains_iff_mem]
      have : s[i] = c := by simpa using h2
      rw [← this]; exact List.getElem_mem h1
    rw [h3]; simp
theorem r_index1 (s : Bs) (c : UInt8) : cR 101 [.str s, .str [c]] = some (.int .i64 (firstByte s c)) := by
  refine cR_of (F := F101) rfl ?_
  have h0 : (((1 : Nat) : Int) == 0) = false := rfl
  have h1 : (((1 : Nat) : Int) == 1) = true := rfl
  have hb : byteAt (.str [c]) (.int .i64 0) = some (.int .u8 c.toNat) := rfl
  by_cases hs : [c] = s
  · subst hs
    have e : firstByte [c] c = 0 := by simp [firstByte, List.findIdx?_cons]
    have hs' : ([c] == [c]) = true := by simp
    simp only [T9Fa, EXA, Nat.reduceEqDiff, reduceIte, reduceCtorEq, Nat.reduceAdd, Nat.reduceLeDiff, Nat.reduceSub, Nat.reduceMul, Int.reduceEq, Int.reduceBEq, Int.reduceBNe, Int.reduceLT, Int.reduceLE, Nat.reduceLT, h0, hs', e]
  · have hs' : ([c] == s) = false := by simp [hs]
    simp only [T9Fa, EXA, Nat.reduceEqDiff, reduceIte, reduceCtorEq, Nat.reduceAdd, Nat.reduceLeDiff, Nat.reduceSub, Nat.reduceMul, Int.reduceEq, Int.reduceBEq, Int.reduceBNe, Int.reduceLT, Int.reduceLE, Nat.reduceLT, h0, h1, hs', hb, r_ib]
def cutB (s : Bs) (c : UInt8) : Bs × Bs × Bool := match s.findIdx? (fun b => b == c) with
  | some i => (s.take i, s.drop (i + 1), true)
  | none => (s, [], false)
theorem r_cut1 (s : Bs) (c : UInt8) (hb : s.length < big) : cR 93 [.str s, .str [c]] = some (.tup [.str (cutB s c).1, .str (cutB s c).2.1, .bool (cutB s c).2.2]) := by
  unfold big at hb
  refine cR_of (F := F93) rfl ?_
  cases h : s.findIdx? (fun b => b == c) with
  | none =>
    have e := firstByte_none h
    have q : decide ((-1 : Int) ≥ 0) = false := rfl
    simp only [T9Fl, EXA, Nat.reduceEqDiff, reduceIte, reduceCtorEq, Nat.reduceAdd, Nat.reduceLeDiff, Nat.reduceSub, Nat.reduceMul, Int.reduceEq, Int.reduceBEq, Int.reduceBNe, Int.reduceLT, Int.reduceLE, Nat.reduceLT, r_index1, e, q, cutB, h]
  | some i =>
    have e := firstByte_some h
    obtain ⟨h1, h2, _⟩ := List.findIdx?_eq_some_iff_getElem.1 h
    have q : decide ((i : Int) ≥ 0) = true := by simp
    have b1 : sliceSOf (.str s) (some none) (some (some (i : Int))) = some (.str (s.take i)) := by
      have h3 : ((i : Int) ≤ s.length) := by omega
      simp [sliceSOf, bounds, h3]
    have w := wsucc (j := i) (n := s.length) h1 (by omega)
    have b2 : sliceSOf (.str s) (some (some ((i + 1 : Nat) : Int))) (some none) = some (.str (s.drop (i + 1))) := by
      have := sliceS_lo (s := s) (i := ((i + 1 : Nat) : Int)) (by omega) (by omega)
      simpa using this
    have w' : IntKind.wrap .i64 ((i : Int) + ((1 : Nat) : Int)) = ((i + 1 : Nat) : Int) := w
    simp only [T9Fl, EXA, Nat.reduceEqDiff, reduceIte, reduceCtorEq, Nat.reduceAdd, Nat.reduceLeDiff, Nat.reduceSub, Nat.reduceMul, Int.reduceEq, Int.reduceBEq, Int.reduceBNe, Int.reduceLT, Int.reduceLE, Nat.reduceLT, r_index1, e, q, cutB, h, b1, w, w', b2]
theorem r_cut (s : Bs) (c : UInt8) (hb : s.length < big) : cR 75 [.str s, .str [c]] = some (.tup [.str (cutB s c).1, .str (cutB s c).2.1, .bool (cutB s c).2.2]) := by
  refine cR_of (F := F75) rfl ?_
  simp only [F75, EXA, Nat.reduceEqDiff, reduceIte, reduceCtorEq, Nat.reduceAdd, Nat.reduceLeDiff, Nat.reduceSub, Nat.reduceMul, Int.reduceEq, Int.reduceBEq, Int.reduceBNe, Int.reduceLT, Int.reduceLE, Nat.reduceLT, r_cut1 s c hb]
theorem cutB_len (s : Bs) (c : UInt8) : (cutB s c).1.length ≤ s.length ∧ (cutB s c).2.1.length ≤ s.length := by
  unfold cutB
  split
  · simp; omega
  · simp
def setB (set : Bs) (c : UInt8) : Bool := set.contains c
theorem r_setHas (set : Bs) (c : UInt8) : cR 95 [.str set, .int .u8 c.toNat] = some (.bool (setB set c)) := by
  refine cR_of (F := F95) rfl ?_
  simp only [F95, EXA, Nat.reduceEqDiff, reduceIte, reduceCtorEq, Nat.reduceAdd, Nat.reduceLeDiff, Nat.reduceSub, Nat.reduceMul, Int.reduceEq, Int.reduceBEq, Int.reduceBNe, Int.reduceLT, Int.reduceLE, Nat.reduceLT, r_ib2, firstByte_ge, setB]
def shownB (c : UInt8) : Bool := decide (33 ≤ c) && (decide (c ≤ 126) && c != 58)
theorem g33 (c : UInt8) : decide ((c.toNat : Int) ≥ 33) = decide (33 ≤ c) := by rw [decide_eq_decide, UInt8.le_iff_toNat_le]; simp; omega
theorem l126 (c : UInt8) : decide ((c.toNat : Int) ≤ 126) = decide (c ≤ 126) := by rw [decide_eq_decide, UInt8.le_iff_toNat_le]; simp; omega
theorem n58 (c : UInt8) : ((c.toNat : Int) != 58) = (c != 58) :=
  u8_all (P := fun c => ((c.toNat : Int) != 58) = (c != 58)) (by decide +kernel) c
theorem r_shownHas (c : UInt8) : cR 77 [.agg [], .int .u8 c.toNat] = some (.bool (shownB c)) := by
  refine cR_of (F := F77) rfl ?_
  simp only [F77, EXA, Nat.reduceEqDiff, reduceIte, reduceCtorEq, Nat.reduceAdd, Nat.reduceLeDiff, Nat.reduceSub, Nat.reduceMul, Int.reduceEq, Int.reduceBEq, Int.reduceBNe, Int.reduceLT, Int.reduceLE, Nat.reduceLT, g33, l126, n58, shownB]
  cases decide (33 ≤ c) <;> cases decide (c ≤ 126) <;> rfl
def allB (p : UInt8 → Bool) (n : Nat) (s : Bs) : Bool := s.all p && (decide (0 < s.length) && decide (s.length ≤ n))
theorem byte_get {s : Bs} {j : Nat} {c : UInt8} (h : s[j]? = some c) : byteAt (.str s) (.int .i64 (j : Int)) = some (.int .u8 c.toNat) := by
  simp [byteAt, h]
theorem lpos (n : Nat) : decide (0 < (n : Int)) = decide (0 < n) := by rw [decide_eq_decide]; omega
theorem lleN (a b : Nat) : decide ((a : Int) ≤ (b : Int)) = decide (a ≤ b) := by rw [decide_eq_decide]; omega
theorem r_allSet (s set : Bs) (n : Nat) (hb : s.length < big) : cR 94 [.str s, .int .i64 (n : Int), .str set, .fn 95 [] []] = some (.bool (allB (setB set) n s)) := by
  unfold big at hb
  refine cR_of (F := F94) rfl ?_
  simp only [F94_2, F94_19, F94, ex_loop, EXA, Nat.reduceEqDiff, reduceIte, reduceCtorEq, Nat.reduceAdd, Nat.reduceLeDiff, Nat.reduceSub, Nat.reduceMul, Int.reduceEq, Int.reduceBEq, Int.reduceBNe, Int.reduceLT, Int.reduceLE, Nat.reduceLT]
  refine ex_while (S := Nat) (fun j => [(0, .str s), (1, .int .i64 (n : Int)), (2, .str set), (3, .fn 95 [] []), (11, .int .i64 s.length), (12, .int .i64 (j : Int))]) (fun _ => .empty) (fun j => s.length - j) (fun j => (s.drop j).all (setB set) = s.all (setB set)) ?_ 0 rfl
  intro b j hj ih
  by_cases hlt : j < s.length
  · obtain ⟨c, hc⟩ := get_lt hlt
    have hcond := dlt hlt
    have hbyte := byte_get hc
    rw [drop_cons hc, List.all_cons] at hj
    cases hp : setB set c
    · simp only [T9Fm, EXA, Nat.reduceEqDiff, reduceIte, reduceCtorEq, Nat.reduceAdd, Nat.reduceLeDiff, Nat.reduceSub, Nat.reduceMul, Int.reduceEq, Int.reduceBEq, Int.reduceBNe, Int.reduceLT, Int.reduceLE, Nat.reduceLT, hcond, hbyte, r_setHas, hp, allB]
      rw [hp] at hj
      rw [← hj]; rfl
    · simp only [T9Fm, EXA, Nat.reduceEqDiff, reduceIte, reduceCtorEq, Nat.reduceAdd, Nat.reduceLeDiff, Nat.reduceSub, Nat.reduceMul, Int.reduceEq, Int.reduceBEq, Int.reduceBNe, Int.reduceLT, Int.reduceLE, Nat.reduceLT, hcond, hbyte, r_setHas, hp]
      exact ih (j + 1) _ _ (by omega) (by rw [← hj, hp]; rfl) (by rw [wsucc hlt (by omega)]; simp only [EXA, Nat.reduceEqDiff, reduceIte, reduceCtorEq, Nat.reduceAdd, Nat.reduceLeDiff, Nat.reduceSub, Nat.reduceMul, Int.reduceEq, Int.reduceBEq, Int.reduceBNe, Int.reduceLT, Int.reduceLE, Nat.reduceLT]) rfl
  · have hcond := dge (Nat.not_lt.1 hlt)
    rw [List.drop_eq_nil_of_le (by omega)] at hj
    simp only [T9Fm, EXA, Nat.reduceEqDiff, reduceIte, reduceCtorEq, Nat.reduceAdd, Nat.reduceLeDiff, Nat.reduceSub, Nat.reduceMul, Int.reduceEq, Int.reduceBEq, Int.reduceBNe, Int.reduceLT, Int.reduceLE, Nat.reduceLT, hcond, lpos, lleN, allB, ← hj]
    by_cases h0 : 0 < s.length
    · simp [h0]
    · simp [h0]
theorem r_allShown (s : Bs) (n : Nat) (hb : s.length < big) : cR 76 [.str s, .int .i64 (n : Int), .agg [], .fn 77 [] []] = some (.bool (allB shownB n s)) := by
  unfold big at hb
  refine cR_of (F := F76) rfl ?_
  simp only [F76_2, F76_19, F76, ex_loop, EXA, Nat.reduceEqDiff, reduceIte, reduceCtorEq, Nat.reduceAdd, Nat.reduceLeDiff, Nat.reduceSub, Nat.reduceMul, Int.reduceEq, Int.reduceBEq, Int.reduceBNe, Int.reduceLT, Int.reduceLE, Nat.reduceLT]
  refine ex_while (S := Nat) (fun j => [(0, .str s), (1, .int .i64 (n : Int)), (3, .fn 77 [] []), (6, .vptr [] 0), (11, .int .i64 s.length), (12, .int .i64 (j : Int))]) (fun _ => .empty) (fun j => s.length - j) (fun j => (s.drop j).all shownB = s.all shownB) ?_ 0 rfl
  intro b j hj ih
  by_cases hlt : j < s.length
  · obtain ⟨c, hc⟩ := get_lt hlt
    have hcond := dlt hlt
    have hbyte := byte_get hc
    have hr : readAt [] 0 (some 0) = some (.agg []) := rfl
    rw [drop_cons hc, List.all_cons] at hj
    cases hp : shownB c
    · simp only [T9Fh, EXA, Nat.reduceEqDiff, reduceIte, reduceCtorEq, Nat.reduceAdd, Nat.reduceLeDiff, Nat.reduceSub, Nat.reduceMul, Int.reduceEq, Int.reduceBEq, Int.reduceBNe, Int.reduceLT, Int.reduceLE, Nat.reduceLT, hcond, hbyte, r_shownHas, hp, allB, hr]
      rw [hp] at hj
      rw [← hj]; rfl
    · simp only [T9Fh, EXA, Nat.reduceEqDiff, reduceIte, reduceCtorEq, Nat.reduceAdd, Nat.reduceLeDiff, Nat.reduceSub, Nat.reduceMul, Int.reduceEq, Int.reduceBEq, Int.reduceBNe, Int.reduceLT, Int.reduceLE, Nat.reduceLT, hcond, hbyte, r_shownHas, hp, hr]
      exact ih (j + 1) _ _ (by omega) (by rw [← hj, hp]; rfl) (by rw [wsucc hlt (by omega)]; simp only [EXA, Nat.reduceEqDiff, reduceIte, reduceCtorEq, Nat.reduceAdd, Nat.reduceLeDiff, Nat.reduceSub, Nat.reduceMul, Int.reduceEq, Int.reduceBEq, Int.reduceBNe, Int.reduceLT, Int.reduceLE, Nat.reduceLT]) rfl
  · have hcond := dge (Nat.not_lt.1 hlt)
    rw [List.drop_eq_nil_of_le (by omega)] at hj
    simp only [T9Fh, EXA, Nat.reduceEqDiff, reduceIte, reduceCtorEq, Nat.reduceAdd, Nat.reduceLeDiff, Nat.reduceSub, Nat.reduceMul, Int.reduceEq, Int.reduceBEq, Int.reduceBNe, Int.reduceLT, Int.reduceLE, Nat.reduceLT, hcond, lpos, lleN, allB, ← hj]
    by_cases h0 : 0 < s.length
    · simp [h0]
    · simp [h0]
def digitsS : Bs := [48, 49, 50, 51, 52, 53, 54, 55, 56, 57]
def lettersS : Bs := [97, 98, 99, 100, 101, 102, 103, 104, 105, 106, 107, 108, 109, 110, 111, 112, 113, 114, 115, 116, 117, 118, 119, 120, 121, 122, 65, 66, 67, 68, 69, 70, 71, 72, 73, 74, 75, 76, 77, 78, 79, 80, 81, 82, 83, 84, 85, 86, 87, 88, 89, 90, 48, 49, 50, 51, 52, 53, 54, 55, 56, 57, 46, 45]
def serverB (s : Bs) : Bool := (!((cutB s 58).2.2 && !allB (setB digitsS) 5 (cutB s 58).2.1)) && (decide (s.length ≤ 255) && allB (setB lettersS) 255 (cutB s 58).1)
theorem l255 (n : Nat) : decide ((n : Int) ≤ 255) = decide (n ≤ 255) := by rw [decide_eq_decide]; omega
theorem r_server (s : Bs) (hb : s.length < big) : cR 78 [.str s] = some (.bool (serverB s)) := by
  have hc := r_cut s 58 hb
  obtain ⟨c1, c2⟩ := cutB_len s 58
  unfold serverB
  generalize cutB s 58 = c at hc c1 c2 ⊢
  obtain ⟨name, port, ok⟩ := c
  simp only at hc c1 c2 ⊢
  have a1 : cR 94 [.str port, .int .i64 5, .str digitsS, .fn 95 [] []] = _ := r_allSet port digitsS 5 (by omega)
  have a2 : cR 94 [.str name, .int .i64 255, .str lettersS, .fn 95 [] []] = _ := r_allSet name lettersS 255 (by omega)
  generalize allB (setB digitsS) 5 port = A at a1 ⊢
  generalize allB (setB lettersS) 255 name = B at a2 ⊢
  simp only [digitsS, lettersS] at a1 a2
  refine cR_of (F := F78) rfl ?_
  simp only [F78, EXA, Nat.reduceEqDiff, reduceIte, reduceCtorEq, Nat.reduceAdd, Nat.reduceLeDiff, Nat.reduceSub, Nat.reduceMul, Int.reduceEq, Int.reduceBEq, Int.reduceBNe, Int.reduceLT, Int.reduceLE, Nat.reduceLT, hc, a1, a2, l255]
  generalize decide (s.length ≤ 255) = L
  cases ok <;> cases A <;> cases L <;> rfl
def partsB (s : Bs) (sign : UInt8) : Bs × Bs × Bool := match s with
  | [] => ([], [], false)
  | a :: r => if a = sign ∧ s.length ≤ 255 ∧ (cutB r 58).2.2 = true ∧ allB shownB 255 (cutB r 58).1 = true ∧ serverB (cutB r 58).2.1 = true then ((cutB r 58).1, (cutB r 58).2.1, true) else ([], [], false)
theorem ne8 (a b : UInt8) : ((a.toNat : Int) != (b.toNat : Int)) = (a != b) := by
  by_cases h : a = b
  · subst h; simp
  · have : (a.toNat : Int) ≠ (b.toNat : Int) := fun h' => h (UInt8.toNat_inj.1 (by omega))
    rw [bne_iff_ne.2 this, bne_iff_ne.2 h]
theorem r_parts (s : Bs) (sign : UInt8) (hb : s.length < big) : cR 68 [.str s, .int .u8 sign.toNat] = some (.tup [.str (partsB s sign).1, .str (partsB s sign).2.1, .bool (partsB s sign).2.2]) := by
  refine cR_of (F := F68) rfl ?_
  cases s with
  | nil =>
    have q : (([] : Bs) == []) = true := rfl
    simp only [T9Ff, EXA, Nat.reduceEqDiff, reduceIte, reduceCtorEq, Nat.reduceAdd, Nat.reduceLeDiff, Nat.reduceSub, Nat.reduceMul, Int.reduceEq, Int.reduceBEq, Int.reduceBNe, Int.reduceLT, Int.reduceLE, Nat.reduceLT, q, partsB]
  | cons a r =>
    have q : ((a :: r) == []) = false := rfl
    have ha : byteAt (.str (a :: r)) (.int .i64 0) = some (.int .u8 a.toNat) := rfl
    have hs : sliceSOf (.str (a :: r)) (some (some 1)) (some none) = some (.str r) := sliceS_lo (s := a :: r) (i := 1) (by omega) (by simp; omega)
    simp only [List.length_cons] at hb
    have hc := r_cut r 58 (by omega)
    obtain ⟨c1, c2⟩ := cutB_len r 58
    simp only [partsB]
    generalize cutB r 58 = c at hc c1 c2 ⊢
    obtain ⟨loc, srv, ok⟩ := c
    simp only at hc c1 c2 ⊢
    have a1 : cR 76 [.str loc, .int .i64 255, .agg [], .fn 77 [] []] = _ := r_allShown loc 255 (by omega)
    have a2 := r_server srv (by omega)
    have hl : decide (255 < ((r.length + 1 : Nat) : Int)) = decide (255 < r.length + 1) := by rw [decide_eq_decide]; omega
    by_cases hsg : a = sign
    · have q1 : (a != sign) = false := by simp [hsg]
      by_cases hlen : 255 < r.length + 1
      · have hl' : decide (255 < r.length + 1) = true := by simp [hlen]
        have hn : ¬ (r.length + 1 ≤ 255) := by omega
        simp only [T9Ff, EXA, Nat.reduceEqDiff, reduceIte, reduceCtorEq, Nat.reduceAdd, Nat.reduceLeDiff, Nat.reduceSub, Nat.reduceMul, Int.reduceEq, Int.reduceBEq, Int.reduceBNe, Int.reduceLT, Int.reduceLE, Nat.reduceLT, q, ha, ne8, q1, hl, hl', List.length_cons, hn, false_and, and_false]
      · have hl' : decide (255 < r.length + 1) = false := by simp [hlen]
        have hn : r.length + 1 ≤ 255 := by omega
        cases ok
        · simp only [T9Ff, EXA, Nat.reduceEqDiff, reduceIte, reduceCtorEq, Nat.reduceAdd, Nat.reduceLeDiff, Nat.reduceSub, Nat.reduceMul, Int.reduceEq, Int.reduceBEq, Int.reduceBNe, Int.reduceLT, Int.reduceLE, Nat.reduceLT, q, ha, ne8, q1, hl, hl', hs, hc, false_and, and_false]
        · cases hA : allB shownB 255 loc
          · rw [hA] at a1
            simp only [T9Ff, EXA, Nat.reduceEqDiff, reduceIte, reduceCtorEq, Nat.reduceAdd, Nat.reduceLeDiff, Nat.reduceSub, Nat.reduceMul, Int.reduceEq, Int.reduceBEq, Int.reduceBNe, Int.reduceLT, Int.reduceLE, Nat.reduceLT, q, ha, ne8, q1, hl, hl', hs, hc, a1, hA, false_and, and_false]
          · rw [hA] at a1
            cases hB : serverB srv
            · rw [hB] at a2
              simp only [T9Ff, EXA, Nat.reduceEqDiff, reduceIte, reduceCtorEq, Nat.reduceAdd, Nat.reduceLeDiff, Nat.reduceSub, Nat.reduceMul, Int.reduceEq, Int.reduceBEq, Int.reduceBNe, Int.reduceLT, Int.reduceLE, Nat.reduceLT, q, ha, ne8, q1, hl, hl', hs, hc, a1, a2, hA, hB, false_and, and_false]
            · rw [hB] at a2
              have hsgT : (a = sign) = True := eq_true hsg
              simp only [T9Ff, EXA, Nat.reduceEqDiff, reduceIte, reduceCtorEq, Nat.reduceAdd, Nat.reduceLeDiff, Nat.reduceSub, Nat.reduceMul, Int.reduceEq, Int.reduceBEq, Int.reduceBNe, Int.reduceLT, Int.reduceLE, Nat.reduceLT, q, ha, ne8, q1, hl, hl', hs, hc, a1, a2, hA, hB, hn, hsgT, List.length_cons]
    · have q1 : (a != sign) = true := by simp [hsg]
      simp only [T9Ff, EXA, Nat.reduceEqDiff, reduceIte, reduceCtorEq, Nat.reduceAdd, Nat.reduceLeDiff, Nat.reduceSub, Nat.reduceMul, Int.reduceEq, Int.reduceBEq, Int.reduceBNe, Int.reduceLT, Int.reduceLE, Nat.reduceLT, q, ha, ne8, q1, hsg, false_and]
theorem r_User (s : Bs) (hb : s.length < big) : cR 55 [.str s] = some (.tup [.str (partsB s 64).1, .str (partsB s 64).2.1, .bool (partsB s 64).2.2]) := by
  have h : cR 68 [.str s, .int .u8 64] = _ := r_parts s 64 hb
  refine cR_of (F := F55) rfl ?_
  simp only [F55, EXA, Nat.reduceEqDiff, reduceIte, reduceCtorEq, Nat.reduceAdd, Nat.reduceLeDiff, Nat.reduceSub, Nat.reduceMul, Int.reduceEq, Int.reduceBEq, Int.reduceBNe, Int.reduceLT, Int.reduceLE, Nat.reduceLT, h]
end Go.Ab
/- Signs of base64, numbers of signs. -/
namespace Go.Ab
set_option maxHeartbeats 1000000
def W1Fa := J @F152_5.eq_1 (J @F152_16.eq_1 (J @F152_17.eq_1 (@F152.eq_1)))
def W1Fc := J @F163_5.eq_1 (J @F163_16.eq_1 (J @F163_17.eq_1 (@F163.eq_1)))
set_option maxRecDepth 100000
/-- Sign number j. -/
def sgn (j : Nat) : Nat := if j < 26 then 65 + j else if j < 52 then 71 + j else if j < 62 then j - 4 else if j = 62 then 45 else 95
def isU8 (x : Option AV) (n : Nat) : Bool := match x with | some (.int .u8 m) => m == (n : Int) | _ => false
theorem isU8_eq {x : Option AV} {n : Nat} (h : isU8 x n = true) : x = some (.int .u8 n) := by
  unfold isU8 at h
  split at h
  · rw [eq_of_beq h]
  · cases h
def aURL : AV := .agg [.int .u8 45, .int .u8 95]
theorem sgn_all : ((List.range 64).all fun j => isU8 ((scall ipU (run ipU gU 300) (.fn 158 [] []) [.int .i64 j, .bool true] .empty).bind (fun x => rbE x.2 x.1)) (sgn j)) = true := by kernel_rfl
theorem r_sgn {j : Nat} (h : j < 64) : cR 158 [.int .i64 j, .bool true] = some (.int .u8 (sgn j)) :=
  cR_closed 300 (isU8_eq (List.all_eq_true.1 sgn_all j (List.mem_range.2 h)))
theorem sign_all : ((List.range 64).all fun j => isU8 ((scall ipU (run ipU gU 300) (.fn 167 [] []) [aURL, .int .u8 j] .empty).bind (fun x => rbE x.2 x.1)) (sgn j)) = true := by kernel_rfl
theorem r_sign {j : Nat} (h : j < 64) : cR 167 [aURL, .int .u8 j] = some (.int .u8 (sgn j)) :=
  cR_closed 300 (isU8_eq (List.all_eq_true.1 sign_all j (List.mem_range.2 h)))
/-- The number of a sign, from j on; 64 if there is none. -/
def nbF (c : Nat) : Nat → Nat → Nat
  | 0, _ => 64
  | n + 1, j => if sgn j = c then j else nbF c n (j + 1)
def numB (c : UInt8) : Nat := nbF c.toNat 64 0
theorem nbF_le (c : Nat) : ∀ n j : Nat, j + n = 64 → nbF c n j ≤ 64
  | 0, j, h => Nat.le_refl _
  | n + 1, j, h => by
    unfold nbF
    split
    · omega
    · exact nbF_le c n (j + 1) (by omega)
theorem numB_le (c : UInt8) : numB c ≤ 64 := nbF_le _ 64 0 rfl
theorem wsucc8 {j : Nat} (h : j < 64) : IntKind.wrap .u8 ((j : Int) + 1) = ((j + 1 : Nat) : Int) := by
  simp [IntKind.wrap, IntKind.bits, IntKind.signed]; omega
theorem nb_hit {c j : Nat} (h : sgn j = c) (hj : j < 64) : nbF c (64 - j) j = j := by
  obtain ⟨n, hn⟩ : ∃ n, 64 - j = n + 1 := ⟨63 - j, by omega⟩
  rw [hn]; unfold nbF; rw [if_pos h]
theorem nb_miss {c j : Nat} (h : ¬ sgn j = c) (hj : j < 64) : nbF c (64 - j) j = nbF c (64 - (j + 1)) (j + 1) := by
  obtain ⟨n, hn⟩ : ∃ n, 64 - j = n + 1 := ⟨63 - j, by omega⟩
  rw [hn, show 64 - (j + 1) = n by omega]
  show (if sgn j = c then j else nbF c n (j + 1)) = _
  rw [if_neg h]
theorem nb_end {c j : Nat} (hj : 64 ≤ j) : nbF c (64 - j) j = 64 := by rw [show 64 - j = 0 by omega]; rfl
theorem r_num64 (c : UInt8) : cR 163 [aURL, .int .u8 c.toNat] = some (.int .u8 (numB c)) := by
  refine cR_of (F := F163) rfl ?_
  unfold aURL
  simp only [F163_5, F163_16, F163, ex_loop, EXA, Nat.reduceEqDiff, reduceIte, reduceCtorEq, Nat.reduceAdd, Nat.reduceLeDiff, Nat.reduceSub, Nat.reduceMul, Int.reduceEq, Int.reduceBEq, Int.reduceBNe, Int.reduceLT, Int.reduceLE, Nat.reduceLT]
  refine ex_while (S := Nat) (fun j => [(1, .int .u8 c.toNat), (2, .vptr [.int .u8 45, .int .u8 95] 0), (5, .int .u8 (j : Int))]) (fun _ => .empty) (fun j => 64 - j) (fun j => nbF c.toNat (64 - j) j = numB c) ?_ 0 rfl
  intro b j hj ih
  by_cases hlt : j < 64
  · have hcall := r_sign hlt
    unfold aURL at hcall
    have hcond : decide ((j : Int) < 64) = true := by simp; omega
    have hw := wsucc8 hlt
    simp only [W1Fc, EXA, Nat.reduceEqDiff, reduceIte, reduceCtorEq, Nat.reduceAdd, Nat.reduceLeDiff, Nat.reduceSub, Nat.reduceMul, Int.reduceEq, Int.reduceBEq, Int.reduceBNe, Int.reduceLT, Int.reduceLE, Nat.reduceLT, readAt_some, hcond, hcall]
    by_cases hs : sgn j = c.toNat
    · have hb : ((sgn j : Int) == (c.toNat : Int)) = true := by simp [hs]
      simp only [W1Fc, EXA, Nat.reduceEqDiff, reduceIte, reduceCtorEq, Nat.reduceAdd, Nat.reduceLeDiff, Nat.reduceSub, Nat.reduceMul, Int.reduceEq, Int.reduceBEq, Int.reduceBNe, Int.reduceLT, Int.reduceLE, Nat.reduceLT, readAt_some, hb]
      rw [← hj, nb_hit hs hlt]
    · have hb : ((sgn j : Int) == (c.toNat : Int)) = false := by simp; omega
      simp only [W1Fc, EXA, Nat.reduceEqDiff, reduceIte, reduceCtorEq, Nat.reduceAdd, Nat.reduceLeDiff, Nat.reduceSub, Nat.reduceMul, Int.reduceEq, Int.reduceBEq, Int.reduceBNe, Int.reduceLT, Int.reduceLE, Nat.reduceLT, readAt_some, hb, hw]
      exact ih (j + 1) _ _ (by omega) (by rw [← nb_miss hs hlt]; exact hj) rfl rfl
  · have hcond : decide ((j : Int) < 64) = false := by simp; omega
    simp only [W1Fc, EXA, Nat.reduceEqDiff, reduceIte, reduceCtorEq, Nat.reduceAdd, Nat.reduceLeDiff, Nat.reduceSub, Nat.reduceMul, Int.reduceEq, Int.reduceBEq, Int.reduceBNe, Int.reduceLT, Int.reduceLE, Nat.reduceLT, hcond]
    rw [← hj, nb_end (by omega)]; rfl
theorem r_six (c : UInt8) : cR 152 [.int .u8 c.toNat, .bool true] = some (.int .i64 (if numB c = 64 then -1 else numB c)) := by
  refine cR_of (F := F152) rfl ?_
  simp only [F152_5, F152_16, F152, ex_loop, EXA, Nat.reduceEqDiff, reduceIte, reduceCtorEq, Nat.reduceAdd, Nat.reduceLeDiff, Nat.reduceSub, Nat.reduceMul, Int.reduceEq, Int.reduceBEq, Int.reduceBNe, Int.reduceLT, Int.reduceLE, Nat.reduceLT]
  refine ex_while (S := Nat) (fun j => [(0, .int .u8 c.toNat), (1, .bool true), (5, .int .i64 (j : Int))]) (fun _ => .empty) (fun j => 64 - j) (fun j => nbF c.toNat (64 - j) j = numB c) ?_ 0 rfl
  intro b j hj ih
  by_cases hlt : j < 64
  · have hcall := r_sgn hlt
    have hcond : decide ((j : Int) < 64) = true := by simp; omega
    have hw := wsucc hlt (by omega)
    simp only [W1Fa, EXA, Nat.reduceEqDiff, reduceIte, reduceCtorEq, Nat.reduceAdd, Nat.reduceLeDiff, Nat.reduceSub, Nat.reduceMul, Int.reduceEq, Int.reduceBEq, Int.reduceBNe, Int.reduceLT, Int.reduceLE, Nat.reduceLT, readAt_some, hcond, hcall]
    by_cases hs : sgn j = c.toNat
    · have hb : ((sgn j : Int) == (c.toNat : Int)) = true := by simp [hs]
      simp only [W1Fa, EXA, Nat.reduceEqDiff, reduceIte, reduceCtorEq, Nat.reduceAdd, Nat.reduceLeDiff, Nat.reduceSub, Nat.reduceMul, Int.reduceEq, Int.reduceBEq, Int.reduceBNe, Int.reduceLT, Int.reduceLE, Nat.reduceLT, readAt_some, hb]
      rw [← hj, nb_hit hs hlt, if_neg (by omega)]
    · have hb : ((sgn j : Int) == (c.toNat : Int)) = false := by simp; omega
      simp only [W1Fa, EXA, Nat.reduceEqDiff, reduceIte, reduceCtorEq, Nat.reduceAdd, Nat.reduceLeDiff, Nat.reduceSub, Nat.reduceMul, Int.reduceEq, Int.reduceBEq, Int.reduceBNe, Int.reduceLT, Int.reduceLE, Nat.reduceLT, readAt_some, hb, hw]
      exact ih (j + 1) _ _ (by omega) (by rw [← nb_miss hs hlt]; exact hj) rfl rfl
  · have hcond : decide ((j : Int) < 64) = false := by simp; omega
    simp only [W1Fa, EXA, Nat.reduceEqDiff, reduceIte, reduceCtorEq, Nat.reduceAdd, Nat.reduceLeDiff, Nat.reduceSub, Nat.reduceMul, Int.reduceEq, Int.reduceBEq, Int.reduceBNe, Int.reduceLT, Int.reduceLE, Nat.reduceLT, hcond]
    rw [← hj, nb_end (by omega), if_pos rfl]
end Go.Ab
