/- What functions of the program, and of the library, answer. Conditions: none. -/
import Derived.Test.YtgckcnggblomgaaDoorEx
import Derived.Test.YtgckcnggblomgaaDoorDraw
import Derived.Test.YtgckcnggblomgaaDoorLaw6
set_option linter.unusedVariables false
set_option linter.unusedSimpArgs false
set_option linter.defProp false
/- A region walked in pieces: what is asked no more is dropped from the frame. -/
namespace Go.Ab
section
variable {ip : Nat → Option IFunc} {G : Nat → List AV} {fr fr' : Fr} {σ : Store} {Q : Fr → Store → Prop} {k : List Item}

theorem cut_fwd {b : List IOper} : ∀ (a : List IOper) (n : Nat) (fr : Fr) (σ : Store) (x : Fr × Store), run ip G n (.ops (a ++ b) :: k) fr σ = some x → run ip G (n + 1) (.ops a :: .ops b :: k) fr σ = some x
  | [], n, fr, σ, x, h => by simpa [run] using h
  | o :: a, 0, fr, σ, x, h => by simp [run] at h
  | o :: a, n + 1, fr, σ, x, h => by
    rw [List.cons_append, run] at h
    rw [run]
    split at h
    · rename_i hw
      try rw [hw]
      split at h
      case h_2 => simp at h
      rename_i v σ' hd
      rw [doOp_mono (run_succ n) hd]
      exact cut_fwd a n _ _ _ h
    · rename_i hw
      try rw [hw]
      exact cut_fwd a n _ _ _ h
    · simp at h
theorem cut_bwd {b : List IOper} : ∀ (a : List IOper) (n : Nat) (fr : Fr) (σ : Store) (x : Fr × Store), run ip G n (.ops a :: .ops b :: k) fr σ = some x → run ip G n (.ops (a ++ b) :: k) fr σ = some x
  | [], 0, fr, σ, x, h => by simp [run] at h
  | [], n + 1, fr, σ, x, h => by
    rw [run] at h
    exact run_succ n _ _ _ _ h
  | o :: a, 0, fr, σ, x, h => by simp [run] at h
  | o :: a, n + 1, fr, σ, x, h => by
    rw [run] at h
    rw [List.cons_append, run]
    split at h
    · rename_i hw
      try rw [hw]
      split at h
      case h_2 => simp at h
      rename_i v σ' hd
      try rw [hd]
      exact cut_bwd a n _ _ _ h
    · rename_i hw
      try rw [hw]
      exact cut_bwd a n _ _ _ h
    · simp at h
theorem ex_cut (n : Nat) (os : List IOper) : Ex ip G (.ops os :: k) fr σ Q ↔ Ex ip G (.ops (os.take n) :: .ops (os.drop n) :: k) fr σ Q := by
  constructor
  · rintro ⟨m, a, b, h1, h2⟩
    exact ⟨m + 1, a, b, cut_fwd (b := os.drop n) (os.take n) m fr σ _ (by rw [List.take_append_drop]; exact h1), h2⟩
  · rintro ⟨m, a, b, h1, h2⟩
    exact ⟨m, a, b, by rw [← List.take_append_drop n os]; exact cut_bwd _ m fr σ _ h1, h2⟩

/-- What is asked of the frame. -/
def liveIn (L : List Nat) : List IOper → List Nat
  | [] => L
  | o :: os => o.names ++ (liveIn L os).filter fun t => o.dst != some t
def opsOf : ICode → List IOper
  | .region l => l
  | _ => []
theorem get_put (fr : Fr) (d : Option Nat) (v : AV) (t : Nat) : (fr.put d v).get t = if d = some t then v else fr.get t := by
  cases d with
  | none => simp [Fr.put]
  | some d =>
    simp only [Fr.put, Fr.get, look, Option.some.injEq]
    by_cases h : d = t
    · rw [if_pos h, if_pos h]; rfl
    · rw [if_neg h, if_neg h]
theorem run_congr {L : List Nat} {c : ICode} : ∀ (os : List IOper) (n : Nat) (fr fr' : Fr) (σ : Store), (∀ t ∈ liveIn L os, fr.get t = fr'.get t) →
    run ip G n (.ops os :: .code (.keep L c) :: k) fr σ = run ip G n (.ops os :: .code (.keep L c) :: k) fr' σ
  | _, 0, _, _, _, _ => rfl
  | [], 1, _, _, _, _ => rfl
  | [], n + 2, fr, fr', σ, h => by
    simp only [run]
    have : keep L fr = keep L fr' := by
      unfold keep
      exact List.map_congr_left fun t ht => by rw [h t (by simpa [liveIn] using ht)]
    rw [this]
  | o :: os, n + 1, fr, fr', σ, h => by
    have hn : ∀ t ∈ o.names, fr.get t = fr'.get t := fun t ht => h t (by simp [liveIn, ht])
    obtain ⟨h1, h2⟩ := oper_congr (ip := ip) (G := G) (r := run ip G n) (σ := σ) hn
    have put : ∀ (v : AV), ∀ t ∈ liveIn L os, (fr.put o.dst v).get t = (fr'.put o.dst v).get t := fun v t ht => by
      rw [get_put, get_put]
      split
      · rfl
      · rename_i hd
        exact h t (by simp only [liveIn, List.mem_append, List.mem_filter]; exact .inr ⟨ht, by simpa using hd⟩)
    simp only [run, h1, h2]
    split
    · split
      · exact run_congr os n _ _ _ (put _)
      · rfl
    · exact run_congr os n _ _ _ (put _)
    · rfl
theorem get_keepM {M : List Nat} {t : Nat} (h : t ∈ M) (fr : Fr) : (keep M fr).get t = fr.get t := by
  unfold keep
  induction M with
  | nil => simp at h
  | cons x M ih =>
    simp only [List.map_cons]
    unfold Fr.get
    simp only [look]
    by_cases hx : x = t
    · subst hx; rw [if_pos rfl]; rfl
    · rw [if_neg hx]
      exact ih (by simpa [Ne.symm hx] using h)
theorem ex_prune (M : List Nat) {os : List IOper} {L : List Nat} {c : ICode} (h : (liveIn L os).all (M.contains ·) = true) :
    Ex ip G (.ops os :: .code (.keep L c) :: k) fr σ Q ↔ Ex ip G (.ops os :: .code (.keep L c) :: k) (keep M fr) σ Q := by
  have hc : ∀ n, run ip G n (.ops os :: .code (.keep L c) :: k) fr σ = run ip G n (.ops os :: .code (.keep L c) :: k) (keep M fr) σ := fun n =>
    run_congr os n _ _ _ (fun t ht => by
      have := List.all_eq_true.1 h t ht
      exact (get_keepM (by simpa using this) fr).symm)
  unfold Ex
  simp only [hc]
end
end Go.Ab
/- Events that are light. -/
namespace Go.Ab
set_option linter.unusedSimpArgs false
set_option maxHeartbeats 1000000
set_option maxRecDepth 100000
set_option linter.defProp false
def lenSum (e : Ev) : Int := W (W (W ((e.type.length : Int) + (e.key.length : Int)) + (e.sender.length : Int)) + (e.room.length : Int))
def lightE (e : Ev) : Bool := lightV e.content 800 && (e.content.good && (!(e.content.kind != 5) && (!(decide (lenSum e > 1500)) && (!(decide ((e.prev.length : Int) > 30)) && !(decide ((e.auth.length : Int) > 30))))))
theorem lightE_eq (e : Ev) : lightE e = (lightV e.content 800 && (e.content.good && (!(e.content.kind != 5) && (!(decide (lenSum e > 1500)) && (!(decide ((e.prev.length : Int) > 30)) && !(decide ((e.auth.length : Int) > 30))))))) := rfl
theorem lenSum_eq (e : Ev) : lenSum e = W (W (W ((e.type.length : Int) + (e.key.length : Int)) + (e.sender.length : Int)) + (e.room.length : Int)) := rfl
/-- An event's cells, folded. -/
def evC (e : Ev) : List AV := (evE e).cells
theorem idx_evC {l : List Ev} {j : Nat} {e : Ev} {c : Option Nat} (h : l[j]? = some e) : idxOf 20 none (.vsl (l.map evE) c) (.int .i64 (j : Int)) = some (.vptr (evC e) 0) := idx_ev h
theorem evr_all (e : Ev) : readAt (evC e) 0 (some 20) = some (evE e) := rfl
theorem evr_id (e : Ev) : (evC e)[5]? = some (.str e.id) := rfl
theorem evr_room (e : Ev) : (evC e)[6]? = some (.str e.room) := rfl
theorem evr_type (e : Ev) : (evC e)[7]? = some (.str e.type) := rfl
theorem evr_sender (e : Ev) : (evC e)[8]? = some (.str e.sender) := rfl
theorem evr_key (e : Ev) : (evC e)[9]? = some (.str e.key) := rfl
theorem evr_isState (e : Ev) : (evC e)[10]? = some (.bool e.isState) := rfl
theorem evr_prev (e : Ev) : (evC e)[13]? = some (.vsl (e.prev.map .str) none) := rfl
theorem evr_auth (e : Ev) : (evC e)[14]? = some (.vsl (e.auth.map .str) none) := rfl
theorem evr_content (e : Ev) : readAt (evC e) 15 (some 5) = some e.content.enc := by rw [V.enc_eq]; rfl
theorem evr_kind (e : Ev) : (evC e)[15]? = some (.int .i64 e.content.kind) := rfl
def EVR := And.intro evr_all (And.intro evr_id (And.intro evr_room (And.intro evr_type (And.intro evr_sender (And.intro evr_key (And.intro evr_isState (And.intro evr_prev (And.intro evr_auth (And.intro evr_content evr_kind)))))))))
theorem allL_drop {α : Type} {p : α → Bool} {l : List α} {j : Nat} {x : α} (h : l[j]? = some x) : (l.drop j).all p = (p x && (l.drop (j + 1)).all p) := by
  rw [drop_cons h, List.all_cons]
section
variable {l : List Ev} {e : Ev} {j : Nat} {c : ICode} {k : List Item} {σ : Store} {Q : Fr → Store → Prop}
abbrev ltF (l : List Ev) (j : Nat) (t : Nat) (b : Bool) : Fr := [(0, .vsl (l.map evE) none), (5, .int .i64 (j : Int)), (t, .bool b)]
abbrev ltT (n : Nat) : List IOper := (opsOf F2_12).drop n
theorem lt1 (he : l[j]? = some e) (hb : e.content.sz < big) : Ex ipU gU (.ops (opsOf F2_12) :: .code (.keep [0, 5, 88] c) :: k) [(0, .vsl (l.map evE) none), (5, .int .i64 (j : Int))] σ Q ↔ Ex ipU gU (.ops (ltT 8) :: .code (.keep [0, 5, 88] c) :: k) (ltF l j 23 (!lightV e.content 800)) σ Q := by
  have hidx := idx_evC (c := none) he
  have c1 := r_lightV e.content 800 hb
  rw [ex_cut 8]
  have hl : (liveIn [0, 5, 88] (ltT 8)).all (([0, 5, 23] : List Nat).contains ·) = true := by kernel_rfl
  unfold ltT at hl ⊢
  generalize (opsOf F2_12).drop 8 = tl at hl ⊢
  simp only [opsOf, F2_0, F2_1, F2_2, F2_3, F2_4, F2_5, F2_6, F2_7, F2_8, F2_9, F2_10, F2_11, F2_12, F2_13, F2_14, F2_15, F2_16, F2_17, F2_18, F2_19, F2_20, F2_21, F2_22, F2_23, F2_24, F2_25, F2_26, F2_27, F2_28, F2_29, F2_30, F2_31, F2_32, F2_33, F2_34, F2_35, F2, EX0, EX1, EX2, EX3, EX4, EX5, if_true, if_false, implies_true, forall_const, ne_eq, Nat.reduceEqDiff, reduceIte, reduceCtorEq, Nat.reduceAdd, Nat.reduceLeDiff, Nat.reduceSub, Nat.reduceMul, Int.reduceEq, Int.reduceBEq, Int.reduceBNe, Int.reduceLT, Int.reduceLE, Nat.reduceLT, VX, EVR, hidx, c1]
  rw [ex_prune [0, 5, 23] hl]
  simp only [EX0, EX1, EX2, EX3, EX4, EX5, if_true, if_false, implies_true, forall_const, ne_eq, Nat.reduceEqDiff, reduceIte, reduceCtorEq, Nat.reduceAdd, Nat.reduceLeDiff, Nat.reduceSub, Nat.reduceMul, Int.reduceEq, Int.reduceBEq, Int.reduceBNe, Int.reduceLT, Int.reduceLE, Nat.reduceLT]
theorem lt2 (he : l[j]? = some e) (hb : e.content.sz < big) (a : Bool) : Ex ipU gU (.ops (ltT 8) :: .code (.keep [0, 5, 88] c) :: k) (ltF l j 23 a) σ Q ↔ Ex ipU gU (.ops (ltT 17) :: .code (.keep [0, 5, 88] c) :: k) (ltF l j 32 (a || !e.content.good)) σ Q := by
  have hidx := idx_evC (c := none) he
  have c2 := r_good e.content hb
  have hd : ltT 17 = (ltT 8).drop 9 := rfl
  rw [ex_cut 9, hd]
  have hl : (liveIn [0, 5, 88] ((ltT 8).drop 9)).all (([0, 5, 32] : List Nat).contains ·) = true := by kernel_rfl
  generalize (ltT 8).drop 9 = tl at hl ⊢
  cases a
  · simp only [ltT, opsOf, F2_0, F2_1, F2_2, F2_3, F2_4, F2_5, F2_6, F2_7, F2_8, F2_9, F2_10, F2_11, F2_12, F2_13, F2_14, F2_15, F2_16, F2_17, F2_18, F2_19, F2_20, F2_21, F2_22, F2_23, F2_24, F2_25, F2_26, F2_27, F2_28, F2_29, F2_30, F2_31, F2_32, F2_33, F2_34, F2_35, F2, EX0, EX1, EX2, EX3, EX4, EX5, if_true, if_false, implies_true, forall_const, ne_eq, Nat.reduceEqDiff, reduceIte, reduceCtorEq, Nat.reduceAdd, Nat.reduceLeDiff, Nat.reduceSub, Nat.reduceMul, Int.reduceEq, Int.reduceBEq, Int.reduceBNe, Int.reduceLT, Int.reduceLE, Nat.reduceLT, VX, EVR, hidx, c2, Bool.false_or]
    rw [ex_prune [0, 5, 32] hl]
    simp only [EX0, EX1, EX2, EX3, EX4, EX5, if_true, if_false, implies_true, forall_const, ne_eq, Nat.reduceEqDiff, reduceIte, reduceCtorEq, Nat.reduceAdd, Nat.reduceLeDiff, Nat.reduceSub, Nat.reduceMul, Int.reduceEq, Int.reduceBEq, Int.reduceBNe, Int.reduceLT, Int.reduceLE, Nat.reduceLT, Bool.false_or]
  · simp only [ltT, opsOf, F2_0, F2_1, F2_2, F2_3, F2_4, F2_5, F2_6, F2_7, F2_8, F2_9, F2_10, F2_11, F2_12, F2_13, F2_14, F2_15, F2_16, F2_17, F2_18, F2_19, F2_20, F2_21, F2_22, F2_23, F2_24, F2_25, F2_26, F2_27, F2_28, F2_29, F2_30, F2_31, F2_32, F2_33, F2_34, F2_35, F2, EX0, EX1, EX2, EX3, EX4, EX5, if_true, if_false, implies_true, forall_const, ne_eq, Nat.reduceEqDiff, reduceIte, reduceCtorEq, Nat.reduceAdd, Nat.reduceLeDiff, Nat.reduceSub, Nat.reduceMul, Int.reduceEq, Int.reduceBEq, Int.reduceBNe, Int.reduceLT, Int.reduceLE, Nat.reduceLT, VX, EVR, hidx, Bool.true_or]
    rw [ex_prune [0, 5, 32] hl]
    simp only [EX0, EX1, EX2, EX3, EX4, EX5, if_true, if_false, implies_true, forall_const, ne_eq, Nat.reduceEqDiff, reduceIte, reduceCtorEq, Nat.reduceAdd, Nat.reduceLeDiff, Nat.reduceSub, Nat.reduceMul, Int.reduceEq, Int.reduceBEq, Int.reduceBNe, Int.reduceLT, Int.reduceLE, Nat.reduceLT, Bool.true_or]
theorem lt3 (he : l[j]? = some e) (hb : e.content.sz < big) (a : Bool) : Ex ipU gU (.ops (ltT 17) :: .code (.keep [0, 5, 88] c) :: k) (ltF l j 32 a) σ Q ↔ Ex ipU gU (.ops (ltT 26) :: .code (.keep [0, 5, 88] c) :: k) (ltF l j 41 (a || (e.content.kind != 5))) σ Q := by
  have hidx := idx_evC (c := none) he
  have hd : ltT 26 = (ltT 17).drop 9 := rfl
  rw [ex_cut 9, hd]
  have hl : (liveIn [0, 5, 88] ((ltT 17).drop 9)).all (([0, 5, 41] : List Nat).contains ·) = true := by kernel_rfl
  generalize (ltT 17).drop 9 = tl at hl ⊢
  cases a
  · simp only [ltT, opsOf, F2_0, F2_1, F2_2, F2_3, F2_4, F2_5, F2_6, F2_7, F2_8, F2_9, F2_10, F2_11, F2_12, F2_13, F2_14, F2_15, F2_16, F2_17, F2_18, F2_19, F2_20, F2_21, F2_22, F2_23, F2_24, F2_25, F2_26, F2_27, F2_28, F2_29, F2_30, F2_31, F2_32, F2_33, F2_34, F2_35, F2, EX0, EX1, EX2, EX3, EX4, EX5, if_true, if_false, implies_true, forall_const, ne_eq, Nat.reduceEqDiff, reduceIte, reduceCtorEq, Nat.reduceAdd, Nat.reduceLeDiff, Nat.reduceSub, Nat.reduceMul, Int.reduceEq, Int.reduceBEq, Int.reduceBNe, Int.reduceLT, Int.reduceLE, Nat.reduceLT, VX, EVR, hidx, Bool.false_or]
    rw [ex_prune [0, 5, 41] hl]
    simp only [EX0, EX1, EX2, EX3, EX4, EX5, if_true, if_false, implies_true, forall_const, ne_eq, Nat.reduceEqDiff, reduceIte, reduceCtorEq, Nat.reduceAdd, Nat.reduceLeDiff, Nat.reduceSub, Nat.reduceMul, Int.reduceEq, Int.reduceBEq, Int.reduceBNe, Int.reduceLT, Int.reduceLE, Nat.reduceLT, Bool.false_or]
  · simp only [ltT, opsOf, F2_0, F2_1, F2_2, F2_3, F2_4, F2_5, F2_6, F2_7, F2_8, F2_9, F2_10, F2_11, F2_12, F2_13, F2_14, F2_15, F2_16, F2_17, F2_18, F2_19, F2_20, F2_21, F2_22, F2_23, F2_24, F2_25, F2_26, F2_27, F2_28, F2_29, F2_30, F2_31, F2_32, F2_33, F2_34, F2_35, F2, EX0, EX1, EX2, EX3, EX4, EX5, if_true, if_false, implies_true, forall_const, ne_eq, Nat.reduceEqDiff, reduceIte, reduceCtorEq, Nat.reduceAdd, Nat.reduceLeDiff, Nat.reduceSub, Nat.reduceMul, Int.reduceEq, Int.reduceBEq, Int.reduceBNe, Int.reduceLT, Int.reduceLE, Nat.reduceLT, VX, EVR, hidx, Bool.true_or]
    rw [ex_prune [0, 5, 41] hl]
    simp only [EX0, EX1, EX2, EX3, EX4, EX5, if_true, if_false, implies_true, forall_const, ne_eq, Nat.reduceEqDiff, reduceIte, reduceCtorEq, Nat.reduceAdd, Nat.reduceLeDiff, Nat.reduceSub, Nat.reduceMul, Int.reduceEq, Int.reduceBEq, Int.reduceBNe, Int.reduceLT, Int.reduceLE, Nat.reduceLT, Bool.true_or]
theorem lt4 (he : l[j]? = some e) (hb : e.content.sz < big) (a : Bool) : Ex ipU gU (.ops (ltT 26) :: .code (.keep [0, 5, 88] c) :: k) (ltF l j 41 a) σ Q ↔ Ex ipU gU (.ops (ltT 56) :: .code (.keep [0, 5, 88] c) :: k) (ltF l j 71 (a || decide (W (W (W ((e.type.length : Int) + (e.key.length : Int)) + (e.sender.length : Int)) + (e.room.length : Int)) > 1500))) σ Q := by
  have hidx := idx_evC (c := none) he
  have hd : ltT 56 = (ltT 26).drop 30 := rfl
  rw [ex_cut 30, hd]
  have hl : (liveIn [0, 5, 88] ((ltT 26).drop 30)).all (([0, 5, 71] : List Nat).contains ·) = true := by kernel_rfl
  generalize (ltT 26).drop 30 = tl at hl ⊢
  cases a
  · simp only [ltT, opsOf, F2_0, F2_1, F2_2, F2_3, F2_4, F2_5, F2_6, F2_7, F2_8, F2_9, F2_10, F2_11, F2_12, F2_13, F2_14, F2_15, F2_16, F2_17, F2_18, F2_19, F2_20, F2_21, F2_22, F2_23, F2_24, F2_25, F2_26, F2_27, F2_28, F2_29, F2_30, F2_31, F2_32, F2_33, F2_34, F2_35, F2, EX0, EX1, EX2, EX3, EX4, EX5, if_true, if_false, implies_true, forall_const, ne_eq, Nat.reduceEqDiff, reduceIte, reduceCtorEq, Nat.reduceAdd, Nat.reduceLeDiff, Nat.reduceSub, Nat.reduceMul, Int.reduceEq, Int.reduceBEq, Int.reduceBNe, Int.reduceLT, Int.reduceLE, Nat.reduceLT, VX, EVR, hidx, Bool.false_or]
    rw [ex_prune [0, 5, 71] hl]
    simp only [EX0, EX1, EX2, EX3, EX4, EX5, if_true, if_false, implies_true, forall_const, ne_eq, Nat.reduceEqDiff, reduceIte, reduceCtorEq, Nat.reduceAdd, Nat.reduceLeDiff, Nat.reduceSub, Nat.reduceMul, Int.reduceEq, Int.reduceBEq, Int.reduceBNe, Int.reduceLT, Int.reduceLE, Nat.reduceLT, Bool.false_or]
  · simp only [ltT, opsOf, F2_0, F2_1, F2_2, F2_3, F2_4, F2_5, F2_6, F2_7, F2_8, F2_9, F2_10, F2_11, F2_12, F2_13, F2_14, F2_15, F2_16, F2_17, F2_18, F2_19, F2_20, F2_21, F2_22, F2_23, F2_24, F2_25, F2_26, F2_27, F2_28, F2_29, F2_30, F2_31, F2_32, F2_33, F2_34, F2_35, F2, EX0, EX1, EX2, EX3, EX4, EX5, if_true, if_false, implies_true, forall_const, ne_eq, Nat.reduceEqDiff, reduceIte, reduceCtorEq, Nat.reduceAdd, Nat.reduceLeDiff, Nat.reduceSub, Nat.reduceMul, Int.reduceEq, Int.reduceBEq, Int.reduceBNe, Int.reduceLT, Int.reduceLE, Nat.reduceLT, VX, EVR, hidx, Bool.true_or]
    rw [ex_prune [0, 5, 71] hl]
    simp only [EX0, EX1, EX2, EX3, EX4, EX5, if_true, if_false, implies_true, forall_const, ne_eq, Nat.reduceEqDiff, reduceIte, reduceCtorEq, Nat.reduceAdd, Nat.reduceLeDiff, Nat.reduceSub, Nat.reduceMul, Int.reduceEq, Int.reduceBEq, Int.reduceBNe, Int.reduceLT, Int.reduceLE, Nat.reduceLT, Bool.true_or]
theorem lt5 (he : l[j]? = some e) (hb : e.content.sz < big) (a : Bool) : Ex ipU gU (.ops (ltT 56) :: .code (.keep [0, 5, 88] c) :: k) (ltF l j 71 a) σ Q ↔ Ex ipU gU (.ops (ltT 65) :: .code (.keep [0, 5, 88] c) :: k) (ltF l j 80 (a || decide ((e.prev.length : Int) > 30))) σ Q := by
  have hidx := idx_evC (c := none) he
  have hd : ltT 65 = (ltT 56).drop 9 := rfl
  rw [ex_cut 9, hd]
  have hl : (liveIn [0, 5, 88] ((ltT 56).drop 9)).all (([0, 5, 80] : List Nat).contains ·) = true := by kernel_rfl
  generalize (ltT 56).drop 9 = tl at hl ⊢
  cases a
  · simp only [ltT, opsOf, F2_0, F2_1, F2_2, F2_3, F2_4, F2_5, F2_6, F2_7, F2_8, F2_9, F2_10, F2_11, F2_12, F2_13, F2_14, F2_15, F2_16, F2_17, F2_18, F2_19, F2_20, F2_21, F2_22, F2_23, F2_24, F2_25, F2_26, F2_27, F2_28, F2_29, F2_30, F2_31, F2_32, F2_33, F2_34, F2_35, F2, EX0, EX1, EX2, EX3, EX4, EX5, if_true, if_false, implies_true, forall_const, ne_eq, Nat.reduceEqDiff, reduceIte, reduceCtorEq, Nat.reduceAdd, Nat.reduceLeDiff, Nat.reduceSub, Nat.reduceMul, Int.reduceEq, Int.reduceBEq, Int.reduceBNe, Int.reduceLT, Int.reduceLE, Nat.reduceLT, VX, EVR, hidx, Bool.false_or]
    rw [ex_prune [0, 5, 80] hl]
    simp only [EX0, EX1, EX2, EX3, EX4, EX5, if_true, if_false, implies_true, forall_const, ne_eq, Nat.reduceEqDiff, reduceIte, reduceCtorEq, Nat.reduceAdd, Nat.reduceLeDiff, Nat.reduceSub, Nat.reduceMul, Int.reduceEq, Int.reduceBEq, Int.reduceBNe, Int.reduceLT, Int.reduceLE, Nat.reduceLT, Bool.false_or]
  · simp only [ltT, opsOf, F2_0, F2_1, F2_2, F2_3, F2_4, F2_5, F2_6, F2_7, F2_8, F2_9, F2_10, F2_11, F2_12, F2_13, F2_14, F2_15, F2_16, F2_17, F2_18, F2_19, F2_20, F2_21, F2_22, F2_23, F2_24, F2_25, F2_26, F2_27, F2_28, F2_29, F2_30, F2_31, F2_32, F2_33, F2_34, F2_35, F2, EX0, EX1, EX2, EX3, EX4, EX5, if_true, if_false, implies_true, forall_const, ne_eq, Nat.reduceEqDiff, reduceIte, reduceCtorEq, Nat.reduceAdd, Nat.reduceLeDiff, Nat.reduceSub, Nat.reduceMul, Int.reduceEq, Int.reduceBEq, Int.reduceBNe, Int.reduceLT, Int.reduceLE, Nat.reduceLT, VX, EVR, hidx, Bool.true_or]
    rw [ex_prune [0, 5, 80] hl]
    simp only [EX0, EX1, EX2, EX3, EX4, EX5, if_true, if_false, implies_true, forall_const, ne_eq, Nat.reduceEqDiff, reduceIte, reduceCtorEq, Nat.reduceAdd, Nat.reduceLeDiff, Nat.reduceSub, Nat.reduceMul, Int.reduceEq, Int.reduceBEq, Int.reduceBNe, Int.reduceLT, Int.reduceLE, Nat.reduceLT, Bool.true_or]
theorem lt6 (he : l[j]? = some e) (hb : e.content.sz < big) (a : Bool) : Ex ipU gU (.ops (ltT 65) :: .code (.keep [0, 5, 88] c) :: k) (ltF l j 80 a) σ Q ↔ Ex ipU gU (.ops (ltT 73) :: .code (.keep [0, 5, 88] c) :: k) (ltF l j 88 (a || decide ((e.auth.length : Int) > 30))) σ Q := by
  have hidx := idx_evC (c := none) he
  have hd : ltT 73 = (ltT 65).drop 8 := rfl
  rw [ex_cut 8, hd]
  have hl : (liveIn [0, 5, 88] ((ltT 65).drop 8)).all (([0, 5, 88] : List Nat).contains ·) = true := by kernel_rfl
  generalize (ltT 65).drop 8 = tl at hl ⊢
  cases a
  · simp only [ltT, opsOf, F2_0, F2_1, F2_2, F2_3, F2_4, F2_5, F2_6, F2_7, F2_8, F2_9, F2_10, F2_11, F2_12, F2_13, F2_14, F2_15, F2_16, F2_17, F2_18, F2_19, F2_20, F2_21, F2_22, F2_23, F2_24, F2_25, F2_26, F2_27, F2_28, F2_29, F2_30, F2_31, F2_32, F2_33, F2_34, F2_35, F2, EX0, EX1, EX2, EX3, EX4, EX5, if_true, if_false, implies_true, forall_const, ne_eq, Nat.reduceEqDiff, reduceIte, reduceCtorEq, Nat.reduceAdd, Nat.reduceLeDiff, Nat.reduceSub, Nat.reduceMul, Int.reduceEq, Int.reduceBEq, Int.reduceBNe, Int.reduceLT, Int.reduceLE, Nat.reduceLT, VX, EVR, hidx, Bool.false_or]
    rw [ex_prune [0, 5, 88] hl]
    simp only [EX0, EX1, EX2, EX3, EX4, EX5, if_true, if_false, implies_true, forall_const, ne_eq, Nat.reduceEqDiff, reduceIte, reduceCtorEq, Nat.reduceAdd, Nat.reduceLeDiff, Nat.reduceSub, Nat.reduceMul, Int.reduceEq, Int.reduceBEq, Int.reduceBNe, Int.reduceLT, Int.reduceLE, Nat.reduceLT, Bool.false_or]
  · simp only [ltT, opsOf, F2_0, F2_1, F2_2, F2_3, F2_4, F2_5, F2_6, F2_7, F2_8, F2_9, F2_10, F2_11, F2_12, F2_13, F2_14, F2_15, F2_16, F2_17, F2_18, F2_19, F2_20, F2_21, F2_22, F2_23, F2_24, F2_25, F2_26, F2_27, F2_28, F2_29, F2_30, F2_31, F2_32, F2_33, F2_34, F2_35, F2, EX0, EX1, EX2, EX3, EX4, EX5, if_true, if_false, implies_true, forall_const, ne_eq, Nat.reduceEqDiff, reduceIte, reduceCtorEq, Nat.reduceAdd, Nat.reduceLeDiff, Nat.reduceSub, Nat.reduceMul, Int.reduceEq, Int.reduceBEq, Int.reduceBNe, Int.reduceLT, Int.reduceLE, Nat.reduceLT, VX, EVR, hidx, Bool.true_or]
    rw [ex_prune [0, 5, 88] hl]
    simp only [EX0, EX1, EX2, EX3, EX4, EX5, if_true, if_false, implies_true, forall_const, ne_eq, Nat.reduceEqDiff, reduceIte, reduceCtorEq, Nat.reduceAdd, Nat.reduceLeDiff, Nat.reduceSub, Nat.reduceMul, Int.reduceEq, Int.reduceBEq, Int.reduceBNe, Int.reduceLT, Int.reduceLE, Nat.reduceLT, Bool.true_or]
end
theorem lt_all {l : List Ev} {e : Ev} {j : Nat} {c : ICode} {k : List Item} {σ : Store} {Q : Fr → Store → Prop} (he : l[j]? = some e) (hb : e.content.sz < big) :
    Ex ipU gU (.code F2_12 :: .code (.keep [0, 5, 88] c) :: k) [(0, .vsl (l.map evE) none), (5, .int .i64 (j : Int))] σ Q ↔ Ex ipU gU (.code c :: k) [(0, .vsl (l.map evE) none), (5, .int .i64 (j : Int)), (88, .bool (!lightE e))] σ Q := by
  have h0 : Ex ipU gU (.code F2_12 :: .code (.keep [0, 5, 88] c) :: k) [(0, .vsl (l.map evE) none), (5, .int .i64 (j : Int))] σ Q ↔ Ex ipU gU (.ops (opsOf F2_12) :: .code (.keep [0, 5, 88] c) :: k) [(0, .vsl (l.map evE) none), (5, .int .i64 (j : Int))] σ Q := ex_region
  rw [h0, lt1 he hb, lt2 he hb, lt3 he hb, lt4 he hb, lt5 he hb, lt6 he hb]
  have hn : ltT 73 = [] := rfl
  rw [hn, ex_ops_nil, ex_keep]
  have hB : ((((((!lightV e.content 800) || !e.content.good) || (e.content.kind != 5)) || decide (W (W (W ((e.type.length : Int) + (e.key.length : Int)) + (e.sender.length : Int)) + (e.room.length : Int)) > 1500)) || decide ((e.prev.length : Int) > 30)) || decide ((e.auth.length : Int) > 30)) = !lightE e := by
    rw [lightE_eq, lenSum_eq]
    simp only [Bool.not_and, Bool.not_not, Bool.or_assoc]
  rw [hB]
  rfl
theorem r_light (l : List Ev) (t : Int) (hb : ∀ e ∈ l, e.content.sz < big) (hlen : l.length < big) : cR 2 [.vsl (l.map evE) none, .int .i64 t] = some (.bool (!(decide ((l.length : Int) > t)) && l.all lightE)) := by
  unfold big at hlen
  refine cR_of (F := F2) rfl ?_
  obtain ⟨r, hr⟩ : ∃ r, r = AV.bool (!(decide ((l.length : Int) > t)) && l.all lightE) := ⟨_, rfl⟩
  rw [← hr]
  cases hd : decide ((l.length : Int) > t) with
  | true =>
    rw [hd] at hr
    simp only [Bool.not_true, Bool.false_and] at hr
    simp only [F2_0, F2_1, F2_2, F2_3, F2_4, F2_5, F2_6, F2_7, F2_8, F2_9, F2_10, F2_11, F2_12, F2_13, F2_14, F2_15, F2_16, F2_17, F2_18, F2_19, F2_20, F2_21, F2_22, F2_24, F2_25, F2_26, F2_27, F2_28, F2_29, F2_30, F2_31, F2_32, F2_33, F2_34, F2_35, F2, EX0, EX1, EX2, EX3, EX4, EX5, if_true, if_false, implies_true, forall_const, ne_eq, Nat.reduceEqDiff, reduceIte, reduceCtorEq, Nat.reduceAdd, Nat.reduceLeDiff, Nat.reduceSub, Nat.reduceMul, Int.reduceEq, Int.reduceBEq, Int.reduceBNe, Int.reduceLT, Int.reduceLE, Nat.reduceLT, VX, hd, hr]
  | false =>
  rw [hd] at hr
  simp only [Bool.not_false, Bool.true_and] at hr
  simp only [F2_0, F2_1, F2_2, F2_3, F2_4, F2_5, F2_6, F2_7, F2_8, F2_9, F2_10, F2_11, F2_12, F2_13, F2_14, F2_15, F2_16, F2_17, F2_18, F2_19, F2_20, F2_21, F2_22, F2_24, F2_25, F2_26, F2_27, F2_28, F2_29, F2_30, F2_31, F2_32, F2_33, F2_34, F2_35, F2, ex_loop, EX0, EX1, EX2, EX3, EX4, EX5, if_true, if_false, implies_true, forall_const, ne_eq, Nat.reduceEqDiff, reduceIte, reduceCtorEq, Nat.reduceAdd, Nat.reduceLeDiff, Nat.reduceSub, Nat.reduceMul, Int.reduceEq, Int.reduceBEq, Int.reduceBNe, Int.reduceLT, Int.reduceLE, Nat.reduceLT, VX, hd]
  refine ex_while (S := Nat) (fun j => [(0, .vsl (l.map evE) none), (5, .int .i64 (j : Int))]) (fun _ => .empty) (fun j => l.length - j) (fun j => (l.drop j).all lightE = l.all lightE) ?_ 0 rfl
  intro b j hj ih
  by_cases hlt : j < l.length
  · obtain ⟨e, he⟩ := get_lt hlt
    have hcond := dlt hlt
    have hw := wsucc hlt (by omega)
    have hbe := hb e (List.mem_of_getElem? he)
    rw [allL_drop he] at hj
    simp only [F2_0, F2_1, F2_2, F2_3, F2_4, F2_5, F2_6, F2_7, F2_8, F2_9, F2_10, F2_11, F2_13, F2_14, F2_16, F2_17, F2_18, F2_19, F2_20, F2_21, F2_22, F2_23, F2_24, F2_25, F2_26, F2_27, F2_28, F2_29, F2_30, F2_31, F2_32, F2_33, F2_34, F2_35, F2, EX0, EX1, EX2, EX3, EX4, EX5, if_true, if_false, implies_true, forall_const, ne_eq, Nat.reduceEqDiff, reduceIte, reduceCtorEq, Nat.reduceAdd, Nat.reduceLeDiff, Nat.reduceSub, Nat.reduceMul, Int.reduceEq, Int.reduceBEq, Int.reduceBNe, Int.reduceLT, Int.reduceLE, Nat.reduceLT, VX, hcond]
    rw [lt_all he hbe]
    cases h1 : lightE e with
    | false =>
      rw [h1, Bool.false_and] at hj
      rw [← hj] at hr
      simp only [F2_0, F2_1, F2_2, F2_3, F2_4, F2_5, F2_6, F2_7, F2_8, F2_9, F2_10, F2_11, F2_13, F2_14, F2_15, F2_16, F2_17, F2_18, F2_19, F2_20, F2_21, F2_22, F2_23, F2_24, F2_25, F2_26, F2_27, F2_28, F2_29, F2_30, F2_31, F2_32, F2_33, F2_34, F2_35, F2, EX0, EX1, EX2, EX3, EX4, EX5, if_true, if_false, implies_true, forall_const, ne_eq, Nat.reduceEqDiff, reduceIte, reduceCtorEq, Nat.reduceAdd, Nat.reduceLeDiff, Nat.reduceSub, Nat.reduceMul, Int.reduceEq, Int.reduceBEq, Int.reduceBNe, Int.reduceLT, Int.reduceLE, Nat.reduceLT, VX, hr]
    | true =>
      rw [h1, Bool.true_and] at hj
      simp only [F2_0, F2_1, F2_2, F2_3, F2_4, F2_5, F2_6, F2_7, F2_8, F2_9, F2_10, F2_11, F2_13, F2_14, F2_15, F2_16, F2_17, F2_18, F2_19, F2_20, F2_21, F2_22, F2_23, F2_24, F2_25, F2_26, F2_27, F2_28, F2_29, F2_30, F2_31, F2_32, F2_33, F2_34, F2_35, F2, EX0, EX1, EX2, EX3, EX4, EX5, if_true, if_false, implies_true, forall_const, ne_eq, Nat.reduceEqDiff, reduceIte, reduceCtorEq, Nat.reduceAdd, Nat.reduceLeDiff, Nat.reduceSub, Nat.reduceMul, Int.reduceEq, Int.reduceBEq, Int.reduceBNe, Int.reduceLT, Int.reduceLE, Nat.reduceLT, VX, hw]
      exact ih (j + 1) _ _ (by omega) hj rfl rfl
  · have hcond := dge (Nat.not_lt.1 hlt)
    rw [List.drop_eq_nil_of_le (by omega), List.all_nil] at hj
    rw [← hj] at hr
    simp only [F2_0, F2_1, F2_2, F2_3, F2_4, F2_5, F2_6, F2_7, F2_8, F2_9, F2_10, F2_11, F2_12, F2_13, F2_14, F2_15, F2_16, F2_17, F2_18, F2_19, F2_20, F2_21, F2_22, F2_23, F2_24, F2_25, F2_26, F2_27, F2_28, F2_29, F2_30, F2_31, F2_32, F2_33, F2_34, F2_35, F2, EX0, EX1, EX2, EX3, EX4, EX5, if_true, if_false, implies_true, forall_const, ne_eq, Nat.reduceEqDiff, reduceIte, reduceCtorEq, Nat.reduceAdd, Nat.reduceLeDiff, Nat.reduceSub, Nat.reduceMul, Int.reduceEq, Int.reduceBEq, Int.reduceBNe, Int.reduceLT, Int.reduceLE, Nat.reduceLT, VX, hcond, hr]
theorem r_awake19 : cR 1 [] = some (.bool true) := cR_closed 3000 (by kernel_rfl)
end Go.Ab
/- PickFits: events whose numbers are all their own. -/
namespace Go.Ab
set_option linter.unusedSimpArgs false
set_option maxHeartbeats 1000000
set_option maxRecDepth 100000
theorem pf_idin {l : List Ev} {a2 a4 r : AV} {j : Nat} {x : Ev} {σ : Store} {K : List Item} (hll : l.length < big) (hx : l[j]? = some x) (hr : r = .bool true)
    (hk : (∀ (a : Nat) (y : Ev), a < j → l[a]? = some y → (x.id == y.id) = false) →
      Ex ipU gU (.code F14_40 :: K) [(0, .vsl (l.map evE) none), (2, a2), (4, a4), (7, .int .i64 (j : Int))] σ fun fr' σ1 => (resAll fr' σ1 F14.res).bind (rbE σ1) = some r) :
    Ex ipU gU (.code F14_38 :: .inBlock 1 :: .code F14_41 :: K) [(0, .vsl (l.map evE) none), (2, a2), (4, a4), (7, .int .i64 (j : Int))] σ fun fr' σ1 => (resAll fr' σ1 F14.res).bind (rbE σ1) = some r := by
  unfold big at hll
  have hjl : j < l.length := (List.getElem?_eq_some_iff.1 hx).1
  have hidx := idx_evC (c := none) hx
  simp only [F14_0, F14_1, F14_2, F14_3, F14_4, F14_5, F14_6, F14_7, F14_8, F14_9, F14_10, F14_11, F14_12, F14_13, F14_14, F14_15, F14_16, F14_17, F14_18, F14_19, F14_20, F14_21, F14_22, F14_23, F14_24, F14_25, F14_26, F14_27, F14_28, F14_29, F14_30, F14_31, F14_32, F14_33, F14_35, F14_36, F14_37, F14_38, F14_39, F14_41, F14_42, F14_43, F14_44, F14_45, F14_46, F14_47, F14_48, F14_49, F14_50, F14_51, F14_52, F14_53, F14_54, F14_55, F14_56, F14_57, F14_58, F14_59, F14_60, F14_61, F14_62, F14_63, F14_64, F14_65, F14_66, F14_67, F14_68, F14_69, F14_70, F14_71, F14_72, F14_73, F14_74, F14_75, F14_76, F14_77, F14_78, F14_79, F14_80, F14_81, F14_82, F14_83, F14_84, F14_85, F14_86, F14_87, F14_88, F14_89, F14_90, F14_91, F14_92, F14_93, F14_94, F14_95, F14_96, F14_97, F14_98, F14_99, F14_100, F14_101, F14_102, F14_103, F14_104, F14_105, F14_106, F14_107, F14_108, F14_109, F14_110, F14_111, F14_112, F14_113, F14_114, F14_115, F14_116, F14_117, F14_118, F14_119, F14_120, F14_121, F14_122, F14_123, F14_124, F14_125, F14_126, F14_127, F14_128, F14_129, F14_130, F14_131, F14_132, F14_133, F14_134, F14_135, F14_136, F14_137, F14_138, F14_139, F14_140, F14_141, F14_142, F14_143, F14_144, F14_145, F14_146, F14_147, F14_148, F14, ex_loop, EX0, EX1, EX2, EX3, EX4, EX5, if_true, if_false, implies_true, forall_const, ne_eq, Nat.reduceEqDiff, reduceIte, reduceCtorEq, Nat.reduceAdd, Nat.reduceLeDiff, Nat.reduceSub, Nat.reduceMul, Int.reduceEq, Int.reduceBEq, Int.reduceBNe, Int.reduceLT, Int.reduceLE, Nat.reduceLT, VX, EVR]
  refine ex_while (S := Nat) (fun i => [(0, .vsl (l.map evE) none), (2, a2), (4, a4), (7, .int .i64 (j : Int)), (8, .int .i64 (i : Int))]) (fun _ => σ) (fun i => j - i) (fun i => ∀ (a : Nat) (y : Ev), a < i → l[a]? = some y → (x.id == y.id) = false) ?_ 0 (fun a y h => absurd h (Nat.not_lt_zero _))
  intro b i hi ih
  by_cases hlt : i < j
  · obtain ⟨y, hy⟩ := get_lt (show i < l.length by omega)
    have hidx2 := idx_evC (c := none) hy
    have hcond := dlt hlt
    have hw := wsucc hlt (by omega)
    cases hxy : x.id == y.id with
    | true =>
      simp only [F14_0, F14_1, F14_2, F14_3, F14_4, F14_5, F14_6, F14_7, F14_8, F14_9, F14_10, F14_11, F14_12, F14_13, F14_14, F14_15, F14_16, F14_17, F14_18, F14_19, F14_20, F14_21, F14_22, F14_23, F14_24, F14_25, F14_26, F14_27, F14_28, F14_29, F14_30, F14_31, F14_32, F14_33, F14_34, F14_35, F14_36, F14_37, F14_38, F14_39, F14_41, F14_42, F14_43, F14_44, F14_45, F14_46, F14_47, F14_48, F14_49, F14_50, F14_51, F14_52, F14_53, F14_54, F14_55, F14_56, F14_57, F14_58, F14_59, F14_60, F14_61, F14_62, F14_63, F14_64, F14_65, F14_66, F14_67, F14_68, F14_69, F14_70, F14_71, F14_72, F14_73, F14_74, F14_75, F14_76, F14_77, F14_78, F14_79, F14_80, F14_81, F14_82, F14_83, F14_84, F14_85, F14_86, F14_87, F14_88, F14_89, F14_90, F14_91, F14_92, F14_93, F14_94, F14_95, F14_96, F14_97, F14_98, F14_99, F14_100, F14_101, F14_102, F14_103, F14_104, F14_105, F14_106, F14_107, F14_108, F14_109, F14_110, F14_111, F14_112, F14_113, F14_114, F14_115, F14_116, F14_117, F14_118, F14_119, F14_120, F14_121, F14_122, F14_123, F14_124, F14_125, F14_126, F14_127, F14_128, F14_129, F14_130, F14_131, F14_132, F14_133, F14_134, F14_135, F14_136, F14_137, F14_138, F14_139, F14_140, F14_141, F14_142, F14_143, F14_144, F14_145, F14_146, F14_147, F14_148, F14, EX0, EX1, EX2, EX3, EX4, EX5, if_true, if_false, implies_true, forall_const, ne_eq, Nat.reduceEqDiff, reduceIte, reduceCtorEq, Nat.reduceAdd, Nat.reduceLeDiff, Nat.reduceSub, Nat.reduceMul, Int.reduceEq, Int.reduceBEq, Int.reduceBNe, Int.reduceLT, Int.reduceLE, Nat.reduceLT, VX, EVR, hcond, hidx, hidx2, hxy, hr]
    | false =>
      simp only [F14_0, F14_1, F14_2, F14_3, F14_4, F14_5, F14_6, F14_7, F14_8, F14_9, F14_10, F14_11, F14_12, F14_13, F14_14, F14_15, F14_16, F14_17, F14_18, F14_19, F14_20, F14_21, F14_22, F14_23, F14_24, F14_25, F14_26, F14_27, F14_28, F14_29, F14_30, F14_31, F14_32, F14_33, F14_34, F14_35, F14_36, F14_37, F14_38, F14_39, F14_41, F14_42, F14_43, F14_44, F14_45, F14_46, F14_47, F14_48, F14_49, F14_50, F14_51, F14_52, F14_53, F14_54, F14_55, F14_56, F14_57, F14_58, F14_59, F14_60, F14_61, F14_62, F14_63, F14_64, F14_65, F14_66, F14_67, F14_68, F14_69, F14_70, F14_71, F14_72, F14_73, F14_74, F14_75, F14_76, F14_77, F14_78, F14_79, F14_80, F14_81, F14_82, F14_83, F14_84, F14_85, F14_86, F14_87, F14_88, F14_89, F14_90, F14_91, F14_92, F14_93, F14_94, F14_95, F14_96, F14_97, F14_98, F14_99, F14_100, F14_101, F14_102, F14_103, F14_104, F14_105, F14_106, F14_107, F14_108, F14_109, F14_110, F14_111, F14_112, F14_113, F14_114, F14_115, F14_116, F14_117, F14_118, F14_119, F14_120, F14_121, F14_122, F14_123, F14_124, F14_125, F14_126, F14_127, F14_128, F14_129, F14_130, F14_131, F14_132, F14_133, F14_134, F14_135, F14_136, F14_137, F14_138, F14_139, F14_140, F14_141, F14_142, F14_143, F14_144, F14_145, F14_146, F14_147, F14_148, F14, EX0, EX1, EX2, EX3, EX4, EX5, if_true, if_false, implies_true, forall_const, ne_eq, Nat.reduceEqDiff, reduceIte, reduceCtorEq, Nat.reduceAdd, Nat.reduceLeDiff, Nat.reduceSub, Nat.reduceMul, Int.reduceEq, Int.reduceBEq, Int.reduceBNe, Int.reduceLT, Int.reduceLE, Nat.reduceLT, VX, EVR, hcond, hidx, hidx2, hxy, hw]
      refine ih (i + 1) _ _ (by omega) (fun a z ha hz => ?_) rfl rfl
      rcases Nat.lt_or_ge a i with h | h
      · exact hi a z h hz
      · obtain rfl : a = i := by omega
        rw [hy] at hz; cases hz; exact hxy
  · have hcond := dge (Nat.not_lt.1 hlt)
    simp only [F14_0, F14_1, F14_2, F14_3, F14_4, F14_5, F14_6, F14_7, F14_8, F14_9, F14_10, F14_11, F14_12, F14_13, F14_14, F14_15, F14_16, F14_17, F14_18, F14_19, F14_20, F14_21, F14_22, F14_23, F14_24, F14_25, F14_26, F14_27, F14_28, F14_29, F14_30, F14_31, F14_32, F14_33, F14_34, F14_35, F14_36, F14_37, F14_38, F14_39, F14_41, F14_42, F14_43, F14_44, F14_45, F14_46, F14_47, F14_48, F14_49, F14_50, F14_51, F14_52, F14_53, F14_54, F14_55, F14_56, F14_57, F14_58, F14_59, F14_60, F14_61, F14_62, F14_63, F14_64, F14_65, F14_66, F14_67, F14_68, F14_69, F14_70, F14_71, F14_72, F14_73, F14_74, F14_75, F14_76, F14_77, F14_78, F14_79, F14_80, F14_81, F14_82, F14_83, F14_84, F14_85, F14_86, F14_87, F14_88, F14_89, F14_90, F14_91, F14_92, F14_93, F14_94, F14_95, F14_96, F14_97, F14_98, F14_99, F14_100, F14_101, F14_102, F14_103, F14_104, F14_105, F14_106, F14_107, F14_108, F14_109, F14_110, F14_111, F14_112, F14_113, F14_114, F14_115, F14_116, F14_117, F14_118, F14_119, F14_120, F14_121, F14_122, F14_123, F14_124, F14_125, F14_126, F14_127, F14_128, F14_129, F14_130, F14_131, F14_132, F14_133, F14_134, F14_135, F14_136, F14_137, F14_138, F14_139, F14_140, F14_141, F14_142, F14_143, F14_144, F14_145, F14_146, F14_147, F14_148, F14, EX0, EX1, EX2, EX3, EX4, EX5, if_true, if_false, implies_true, forall_const, ne_eq, Nat.reduceEqDiff, reduceIte, reduceCtorEq, Nat.reduceAdd, Nat.reduceLeDiff, Nat.reduceSub, Nat.reduceMul, Int.reduceEq, Int.reduceBEq, Int.reduceBNe, Int.reduceLT, Int.reduceLE, Nat.reduceLT, VX, hcond]
    exact hk (fun a y ha hy => hi a y (by omega) hy)
theorem pf_ids {l : List Ev} {a2 a4 r : AV} {σ : Store} (hll : l.length < big) (hr : r = .bool true)
    (hk : (∀ (a b : Nat) (x y : Ev), a < b → l[a]? = some x → l[b]? = some y → (y.id == x.id) = false) →
      Ex ipU gU [.code F14_140] [(0, .vsl (l.map evE) none), (2, a2), (4, a4)] σ fun fr' σ1 => (resAll fr' σ1 F14.res).bind (rbE σ1) = some r) :
    Ex ipU gU [.code F14_142] [(0, .vsl (l.map evE) none), (2, a2), (4, a4)] σ fun fr' σ1 => (resAll fr' σ1 F14.res).bind (rbE σ1) = some r := by
  have hll2 := hll
  unfold big at hll2
  simp only [F14_0, F14_1, F14_2, F14_3, F14_4, F14_5, F14_6, F14_7, F14_8, F14_9, F14_10, F14_11, F14_12, F14_13, F14_14, F14_15, F14_16, F14_17, F14_18, F14_19, F14_20, F14_21, F14_22, F14_23, F14_24, F14_25, F14_26, F14_27, F14_28, F14_29, F14_30, F14_31, F14_32, F14_33, F14_34, F14_35, F14_36, F14_37, F14_39, F14_41, F14_42, F14_43, F14_45, F14_46, F14_47, F14_48, F14_49, F14_50, F14_51, F14_52, F14_53, F14_54, F14_55, F14_56, F14_57, F14_58, F14_59, F14_60, F14_61, F14_62, F14_63, F14_64, F14_65, F14_66, F14_67, F14_68, F14_69, F14_70, F14_71, F14_72, F14_73, F14_74, F14_75, F14_76, F14_77, F14_78, F14_79, F14_80, F14_81, F14_82, F14_83, F14_84, F14_85, F14_86, F14_87, F14_88, F14_89, F14_90, F14_91, F14_92, F14_93, F14_94, F14_95, F14_96, F14_97, F14_98, F14_99, F14_100, F14_101, F14_102, F14_103, F14_104, F14_105, F14_106, F14_107, F14_108, F14_109, F14_110, F14_111, F14_112, F14_113, F14_114, F14_115, F14_116, F14_117, F14_118, F14_119, F14_120, F14_121, F14_122, F14_123, F14_124, F14_125, F14_126, F14_127, F14_128, F14_129, F14_130, F14_131, F14_132, F14_133, F14_134, F14_135, F14_136, F14_137, F14_138, F14_139, F14_141, F14_142, F14_143, F14_144, F14_145, F14_146, F14_147, F14_148, F14, ex_loop, EX0, EX1, EX2, EX3, EX4, EX5, if_true, if_false, implies_true, forall_const, ne_eq, Nat.reduceEqDiff, reduceIte, reduceCtorEq, Nat.reduceAdd, Nat.reduceLeDiff, Nat.reduceSub, Nat.reduceMul, Int.reduceEq, Int.reduceBEq, Int.reduceBNe, Int.reduceLT, Int.reduceLE, Nat.reduceLT, VX]
  refine ex_while (S := Nat) (fun j => [(0, .vsl (l.map evE) none), (2, a2), (4, a4), (7, .int .i64 (j : Int))]) (fun _ => σ) (fun j => l.length - j) (fun j => ∀ (a b : Nat) (x y : Ev), a < b → b < j → l[a]? = some x → l[b]? = some y → (y.id == x.id) = false) ?_ 0 (fun a b x y _ h => absurd h (Nat.not_lt_zero _))
  intro b j hj ih
  by_cases hlt : j < l.length
  · obtain ⟨x, hx⟩ := get_lt hlt
    have hcond := dlt hlt
    have hw := wsucc hlt (by omega)
    simp only [F14_0, F14_1, F14_2, F14_3, F14_4, F14_5, F14_6, F14_7, F14_8, F14_9, F14_10, F14_11, F14_12, F14_13, F14_14, F14_15, F14_16, F14_17, F14_18, F14_19, F14_20, F14_21, F14_22, F14_23, F14_24, F14_25, F14_26, F14_27, F14_28, F14_29, F14_30, F14_31, F14_32, F14_33, F14_34, F14_35, F14_36, F14_37, F14_39, F14_41, F14_42, F14_43, F14_44, F14_45, F14_46, F14_47, F14_48, F14_49, F14_50, F14_51, F14_52, F14_53, F14_54, F14_55, F14_56, F14_57, F14_58, F14_59, F14_60, F14_61, F14_62, F14_63, F14_64, F14_65, F14_66, F14_67, F14_68, F14_69, F14_70, F14_71, F14_72, F14_73, F14_74, F14_75, F14_76, F14_77, F14_78, F14_79, F14_80, F14_81, F14_82, F14_83, F14_84, F14_85, F14_86, F14_87, F14_88, F14_89, F14_90, F14_91, F14_92, F14_93, F14_94, F14_95, F14_96, F14_97, F14_98, F14_99, F14_100, F14_101, F14_102, F14_103, F14_104, F14_105, F14_106, F14_107, F14_108, F14_109, F14_110, F14_111, F14_112, F14_113, F14_114, F14_115, F14_116, F14_117, F14_118, F14_119, F14_120, F14_121, F14_122, F14_123, F14_124, F14_125, F14_126, F14_127, F14_128, F14_129, F14_130, F14_131, F14_132, F14_133, F14_134, F14_135, F14_136, F14_137, F14_138, F14_139, F14_141, F14_142, F14_143, F14_144, F14_145, F14_146, F14_147, F14_148, F14, EX0, EX1, EX2, EX3, EX4, EX5, if_true, if_false, implies_true, forall_const, ne_eq, Nat.reduceEqDiff, reduceIte, reduceCtorEq, Nat.reduceAdd, Nat.reduceLeDiff, Nat.reduceSub, Nat.reduceMul, Int.reduceEq, Int.reduceBEq, Int.reduceBNe, Int.reduceLT, Int.reduceLE, Nat.reduceLT, VX, hcond]
    refine pf_idin hll hx hr (fun hd => ?_)
    simp only [F14_0, F14_1, F14_2, F14_3, F14_4, F14_5, F14_6, F14_7, F14_8, F14_9, F14_10, F14_11, F14_12, F14_13, F14_14, F14_15, F14_16, F14_17, F14_18, F14_19, F14_20, F14_21, F14_22, F14_23, F14_24, F14_25, F14_26, F14_27, F14_28, F14_29, F14_30, F14_31, F14_32, F14_33, F14_34, F14_35, F14_36, F14_37, F14_39, F14_40, F14_41, F14_42, F14_43, F14_44, F14_45, F14_46, F14_47, F14_48, F14_49, F14_50, F14_51, F14_52, F14_53, F14_54, F14_55, F14_56, F14_57, F14_58, F14_59, F14_60, F14_61, F14_62, F14_63, F14_64, F14_65, F14_66, F14_67, F14_68, F14_69, F14_70, F14_71, F14_72, F14_73, F14_74, F14_75, F14_76, F14_77, F14_78, F14_79, F14_80, F14_81, F14_82, F14_83, F14_84, F14_85, F14_86, F14_87, F14_88, F14_89, F14_90, F14_91, F14_92, F14_93, F14_94, F14_95, F14_96, F14_97, F14_98, F14_99, F14_100, F14_101, F14_102, F14_103, F14_104, F14_105, F14_106, F14_107, F14_108, F14_109, F14_110, F14_111, F14_112, F14_113, F14_114, F14_115, F14_116, F14_117, F14_118, F14_119, F14_120, F14_121, F14_122, F14_123, F14_124, F14_125, F14_126, F14_127, F14_128, F14_129, F14_130, F14_131, F14_132, F14_133, F14_134, F14_135, F14_136, F14_137, F14_138, F14_139, F14_141, F14_142, F14_143, F14_144, F14_145, F14_146, F14_147, F14_148, F14, EX0, EX1, EX2, EX3, EX4, EX5, if_true, if_false, implies_true, forall_const, ne_eq, Nat.reduceEqDiff, reduceIte, reduceCtorEq, Nat.reduceAdd, Nat.reduceLeDiff, Nat.reduceSub, Nat.reduceMul, Int.reduceEq, Int.reduceBEq, Int.reduceBNe, Int.reduceLT, Int.reduceLE, Nat.reduceLT, VX, hw]
    refine ih (j + 1) _ _ (by omega) (fun a c y z hac hc hy hz => ?_) rfl rfl
    rcases Nat.lt_or_ge c j with h | h
    · exact hj a c y z hac h hy hz
    · obtain rfl : c = j := by omega
      rw [hx] at hz; cases hz; exact hd a y hac hy
  · have hcond := dge (Nat.not_lt.1 hlt)
    simp only [F14_0, F14_1, F14_2, F14_3, F14_4, F14_5, F14_6, F14_7, F14_8, F14_9, F14_10, F14_11, F14_12, F14_13, F14_14, F14_15, F14_16, F14_17, F14_18, F14_19, F14_20, F14_21, F14_22, F14_23, F14_24, F14_25, F14_26, F14_27, F14_28, F14_29, F14_30, F14_31, F14_32, F14_33, F14_34, F14_35, F14_36, F14_37, F14_39, F14_41, F14_42, F14_43, F14_44, F14_45, F14_46, F14_47, F14_48, F14_49, F14_50, F14_51, F14_52, F14_53, F14_54, F14_55, F14_56, F14_57, F14_58, F14_59, F14_60, F14_61, F14_62, F14_63, F14_64, F14_65, F14_66, F14_67, F14_68, F14_69, F14_70, F14_71, F14_72, F14_73, F14_74, F14_75, F14_76, F14_77, F14_78, F14_79, F14_80, F14_81, F14_82, F14_83, F14_84, F14_85, F14_86, F14_87, F14_88, F14_89, F14_90, F14_91, F14_92, F14_93, F14_94, F14_95, F14_96, F14_97, F14_98, F14_99, F14_100, F14_101, F14_102, F14_103, F14_104, F14_105, F14_106, F14_107, F14_108, F14_109, F14_110, F14_111, F14_112, F14_113, F14_114, F14_115, F14_116, F14_117, F14_118, F14_119, F14_120, F14_121, F14_122, F14_123, F14_124, F14_125, F14_126, F14_127, F14_128, F14_129, F14_130, F14_131, F14_132, F14_133, F14_134, F14_135, F14_136, F14_137, F14_138, F14_139, F14_141, F14_142, F14_143, F14_144, F14_145, F14_146, F14_147, F14_148, F14, EX0, EX1, EX2, EX3, EX4, EX5, if_true, if_false, implies_true, forall_const, ne_eq, Nat.reduceEqDiff, reduceIte, reduceCtorEq, Nat.reduceAdd, Nat.reduceLeDiff, Nat.reduceSub, Nat.reduceMul, Int.reduceEq, Int.reduceBEq, Int.reduceBNe, Int.reduceLT, Int.reduceLE, Nat.reduceLT, VX, hcond]
    refine hk (fun a c y z hac hy hz => hj a c y z hac ?_ hy hz)
    have := (List.getElem?_eq_some_iff.1 hz).1
    omega
end Go.Ab
/- PickFits. -/
namespace Go.Ab
set_option linter.unusedSimpArgs false
set_option maxHeartbeats 1000000
set_option maxRecDepth 100000
theorem sEq_false {x y : Slt} (h : x ≠ y) : sEq x y = false := by
  cases hs : sEq x y with
  | false => rfl
  | true => exact absurd (sEq_iff.1 hs) h
theorem addT_nodup {l : List Slt} {s : Slt} (h : l.Nodup) : (addT l s).Nodup := by
  unfold addT
  split
  · exact h
  · rename_i hh
    have hn : s ∉ l := fun hm => hh (hasT_iff.2 hm)
    rw [List.nodup_append]
    refine ⟨h, by simp, fun a ha b hb hab => ?_⟩
    simp only [List.mem_singleton] at hb
    subst hb; subst hab
    exact hn ha
theorem addIf_nodup {c : Bool} {l : List Slt} {s : Slt} (h : l.Nodup) : (addIf c l s).Nodup := by
  unfold addIf
  split
  · exact addT_nodup h
  · exact h
theorem base3_nodup (e : Ev) : (base3 e).Nodup := by
  unfold base3
  have h1 : (⟨kCreate, []⟩ : Slt) ≠ ⟨kPower, []⟩ := by decide
  have h2 : (⟨kCreate, []⟩ : Slt) ≠ ⟨kMember, e.sender⟩ := fun h => by injection h with h _; exact absurd h (by decide)
  have h3 : (⟨kPower, []⟩ : Slt) ≠ ⟨kMember, e.sender⟩ := fun h => by injection h with h _; exact absurd h (by decide)
  simp only [List.nodup_cons, List.mem_cons, List.not_mem_nil, or_false, not_or, not_false_eq_true, List.nodup_nil, and_true]
  exact ⟨⟨h1, h2⟩, h3⟩
theorem needs_nodup (e : Ev) : (needs e).Nodup := by
  unfold needs
  split
  · simp
  · split
    · exact base3_nodup e
    · exact addIf_nodup (addIf_nodup (addIf_nodup (addT_nodup (base3_nodup e))))
/-- The events of the slots. -/
def evsF (l : List Ev) (ns : List Slt) : List Ev := ns.filterMap fun s => l.find? (isAt s)
theorem pickF_evs (l : List Ev) (ns : List Slt) : pickF l ns = (evsF l ns).map (·.id) := by
  unfold pickF evsF
  rw [List.map_filterMap]
theorem cnt_evs (l : List Ev) : ∀ ns : List Slt, cnt l ns = (evsF l ns).length
  | [] => rfl
  | s :: ns => by
    have ih := cnt_evs l ns
    unfold cnt evsF at ih ⊢
    rw [List.filter_cons, List.filterMap_cons]
    cases h : l.find? (isAt s) <;> simp [ih]
theorem evs_mem {l : List Ev} {ns : List Slt} {x : Ev} (h : x ∈ evsF l ns) : x ∈ l ∧ x.isState = true ∧ x.slot ∈ ns := by
  unfold evsF at h
  rw [List.mem_filterMap] at h
  obtain ⟨s, hs, hf⟩ := h
  have h1 := List.mem_of_find?_eq_some hf
  have h2 := List.find?_some hf
  unfold isAt at h2
  simp only [Bool.and_eq_true] at h2
  rw [sEq_iff] at h2
  exact ⟨h1, h2.1, by rw [h2.2]; exact hs⟩
theorem evs_slots {l : List Ev} : ∀ {ns : List Slt}, ns.Nodup → ((evsF l ns).map Ev.slot).Nodup
  | [], _ => by simp [evsF]
  | s :: ns, h => by
    rw [List.nodup_cons] at h
    have ih := evs_slots (l := l) h.2
    unfold evsF at ih ⊢
    rw [List.filterMap_cons]
    cases hf : l.find? (isAt s) with
    | none => exact ih
    | some x =>
      have h2 := List.find?_some hf
      unfold isAt at h2
      simp only [Bool.and_eq_true] at h2
      rw [sEq_iff] at h2
      simp only [List.map_cons, List.nodup_cons]
      refine ⟨fun hm => ?_, ih⟩
      rw [List.mem_map] at hm
      obtain ⟨y, hy, he⟩ := hm
      have := (evs_mem (l := l) (ns := ns) hy).2.2
      rw [he, h2.2] at this
      exact h.1 this
theorem find_own {l : List Ev} {x : Ev} (hx : x ∈ l) (hd : ∀ (a b : Nat) (x y : Ev), a < b → l[a]? = some x → l[b]? = some y → (y.id == x.id) = false) : findE l x.id = (x, true) := by
  obtain ⟨i, hi, rfl⟩ := List.mem_iff_getElem.1 hx
  have hf : l.find? (fun y => y.id == l[i].id) = some l[i] := by
    rw [List.find?_eq_some_iff_getElem]
    refine ⟨by simp, i, hi, rfl, fun j hj => ?_⟩
    have := hd j i l[j] l[i] hj (by simp) (by simp)
    have h2 : (l[j].id == l[i].id) = false := by
      rw [beq_eq_false_iff_ne] at this ⊢
      exact fun h => this h.symm
    simp [h2]
  simp [findE, hf]
theorem fitsF_ok {ns : List Slt} : ∀ (L : List Ev) (had : List Slt), (∀ x ∈ L, x.isState = true ∧ x.slot ∈ ns) → (had ++ L.map Ev.slot).Nodup → fitsF ns had L = true
  | [], _, _, _ => rfl
  | x :: L, had, h, hn => by
    obtain ⟨h1, h2⟩ := h x (by simp)
    have hn1 : x.slot ∉ had := by
      rw [List.nodup_append] at hn
      intro hm
      exact hn.2.2 x.slot hm x.slot (by simp) rfl
    have h3 : hasT had x.slot = false := by
      cases hh : hasT had x.slot with
      | false => rfl
      | true => exact absurd (hasT_iff.1 hh) hn1
    rw [fitsF, h1, h3, hasT_iff.2 h2]
    simp only [Bool.not_false, Bool.and_self, if_true]
    exact fitsF_ok L _ (fun y hy => h y (by simp [hy])) (by simpa using hn)
theorem fitsF_bad {ns : List Slt} {y : Ev} : ∀ (L : List Ev) (had : List Slt), y.slot ∈ had ++ L.map Ev.slot → fitsF ns had (L ++ [y]) = false
  | [], had, h => by
    have : hasT had y.slot = true := hasT_iff.2 (by simpa using h)
    simp [fitsF, this]
  | x :: L, had, h => by
    rw [List.cons_append, fitsF]
    split
    · exact fitsF_bad L _ (by simpa [or_assoc] using h)
    · rfl
theorem rot_slots {evs : List Ev} (rr : Nat) (h : (evs.map Ev.slot).Nodup) : ((rotT evs rr evs.length).map Ev.slot).Nodup := by
  unfold List.Nodup
  rw [List.pairwise_iff_getElem]
  intro i j hi hj hij
  simp only [List.length_map, rotT_len] at hi hj
  simp only [rotT, List.map_map, List.getElem_map, List.getElem_range, Function.comp]
  have hn : 0 < evs.length := by omega
  have h1 : (i + rr) % evs.length < evs.length := Nat.mod_lt _ hn
  have h2 : (j + rr) % evs.length < evs.length := Nat.mod_lt _ hn
  have hne : (i + rr) % evs.length ≠ (j + rr) % evs.length := by
    intro he
    have := Nat.sub_mod_eq_zero_of_mod_eq he.symm
    rw [show j + rr - (i + rr) = j - i by omega, Nat.mod_eq_of_lt (by omega)] at this
    omega
  have e1 : evs.getD ((i + rr) % evs.length) Ev.zero = evs[(i + rr) % evs.length] := by simp [List.getD, h1]
  have e2 : evs.getD ((j + rr) % evs.length) Ev.zero = evs[(j + rr) % evs.length] := by simp [List.getD, h2]
  rw [e1, e2]
  unfold List.Nodup at h
  rw [List.pairwise_iff_getElem] at h
  rcases Nat.lt_or_ge ((i + rr) % evs.length) ((j + rr) % evs.length) with hl | hl
  · have := h _ _ (by simpa using h1) (by simpa using h2) hl
    simpa using this
  · have := h _ _ (by simpa using h2) (by simpa using h1) (by omega)
    intro he
    simp only [List.getElem_map] at this
    exact this he.symm
theorem rot_mem {evs : List Ev} {rr : Nat} {x : Ev} (h : x ∈ rotT evs rr evs.length) : x ∈ evs := by
  unfold rotT at h
  rw [List.mem_map] at h
  obtain ⟨i, hi, rfl⟩ := h
  have hn : i < evs.length := by simpa using hi
  have h1 : (i + rr) % evs.length < evs.length := Nat.mod_lt _ (by omega)
  have e1 : evs.getD ((i + rr) % evs.length) Ev.zero = evs[(i + rr) % evs.length] := by simp [List.getD, h1]
  rw [e1]; exact List.getElem_mem h1
end Go.Ab
/- PickFits: true of any state and any event. -/
namespace Go.Ab
set_option linter.unusedSimpArgs false
set_option maxHeartbeats 1000000
set_option maxRecDepth 100000
theorem pf_main {e : Ev} {l : List Ev} {t : Int} {r : AV} {σ : Store} (hb : e.content.sz < big) (hll : l.length < big) (hls : ∀ x ∈ l, x.prev.length < lim ∧ x.auth.length < lim)
    (hd : ∀ (a b : Nat) (x y : Ev), a < b → l[a]? = some x → l[b]? = some y → (y.id == x.id) = false) (hr : r = .bool true) :
    Ex ipU gU [.code F14_140] [(0, .vsl (l.map evE) none), (2, .int .i64 t), (4, .vptr (evE e).cells 0)] σ fun fr' σ1 => (resAll fr' σ1 F14.res).bind (rbE σ1) = some r := by
  have h8 := r_pick l e hb hll hls
  have h5 := r_needs e hb
  have hn7 := needs_len e
  have hnd := needs_nodup e
  rw [pickF_evs] at h8
  have hlen : (evsF l (needs e)).length ≤ (needs e).length := List.length_filterMap_le _ _
  have hslots := evs_slots (l := l) hnd
  have hmem : ∀ x ∈ evsF l (needs e), x.isState = true ∧ x.slot ∈ needs e := fun x hx => (evs_mem hx).2
  have f1 : ∀ rr, fits e (rotT (evsF l (needs e)) rr (evsF l (needs e)).length) = true := fun rr =>
    fitsF_ok _ [] (fun x hx => hmem x (rot_mem hx)) (by simpa using rot_slots rr hslots)
  have f2 : ∀ rr, fits e ((rotT (evsF l (needs e)) rr (evsF l (needs e)).length).take ((evsF l (needs e)).length / 2)) = true := fun rr =>
    fitsF_ok _ [] (fun x hx => hmem x (rot_mem (List.mem_of_mem_take hx))) (by
      have := rot_slots rr hslots
      simp only [List.nil_append]
      exact this.sublist ((List.take_sublist _ _).map _))
  have f3 : ∀ rr y l', rotT (evsF l (needs e)) rr (evsF l (needs e)).length = y :: l' → fits e (rotT (evsF l (needs e)) rr (evsF l (needs e)).length ++ [y]) = false := fun rr y l' h => by
    rw [h]
    exact fitsF_bad (y :: l') [] (by simp)
  simp only [F14_0, F14_1, F14_2, F14_3, F14_4, F14_5, F14_6, F14_7, F14_8, F14_9, F14_10, F14_11, F14_12, F14_13, F14_14, F14_15, F14_16, F14_17, F14_18, F14_19, F14_20, F14_21, F14_22, F14_23, F14_24, F14_25, F14_26, F14_27, F14_28, F14_29, F14_30, F14_31, F14_32, F14_33, F14_34, F14_35, F14_36, F14_37, F14_38, F14_39, F14_40, F14_41, F14_42, F14_43, F14_44, F14_45, F14_46, F14_47, F14_48, F14_49, F14_50, F14_51, F14_52, F14_53, F14_54, F14_55, F14_56, F14_57, F14_58, F14_59, F14_60, F14_61, F14_62, F14_63, F14_64, F14_65, F14_66, F14_67, F14_68, F14_69, F14_70, F14_71, F14_72, F14_73, F14_74, F14_75, F14_76, F14_77, F14_78, F14_79, F14_80, F14_81, F14_82, F14_83, F14_84, F14_85, F14_86, F14_87, F14_88, F14_89, F14_90, F14_91, F14_92, F14_93, F14_94, F14_95, F14_96, F14_97, F14_98, F14_99, F14_100, F14_101, F14_102, F14_103, F14_104, F14_105, F14_106, F14_107, F14_108, F14_109, F14_110, F14_111, F14_112, F14_113, F14_114, F14_115, F14_116, F14_117, F14_118, F14_119, F14_120, F14_121, F14_122, F14_123, F14_124, F14_125, F14_126, F14_127, F14_128, F14_129, F14_130, F14_131, F14_132, F14_133, F14_134, F14_135, F14_137, F14_138, F14_139, F14_140, F14_141, F14_142, F14_143, F14_144, F14_145, F14_146, F14_147, F14_148, F14, EX0, EX1, EX2, EX3, EX4, EX5, if_true, if_false, implies_true, forall_const, ne_eq, Nat.reduceEqDiff, reduceIte, reduceCtorEq, Nat.reduceAdd, Nat.reduceLeDiff, Nat.reduceSub, Nat.reduceMul, Int.reduceEq, Int.reduceBEq, Int.reduceBNe, Int.reduceLT, Int.reduceLE, Nat.reduceLT, VX, readAt_some, evE_eta, h8, h5]
  exact pf_build hb hll hls (by omega) (by omega) (fun x hx => find_own (evs_mem hx).1 hd)
    (fun i j x y hij hx hy => sEq_false (fun he => by
      subst he
      have h1 : (needs e)[i]? = (needs e)[j]? := by rw [hx, hy]
      have hi := (List.getElem?_eq_some_iff.1 hx).1
      exact absurd ((List.getElem?_inj hi hnd).1 h1) (by omega)))
    (cnt_evs l (needs e)) f1 f2 f3 hr
theorem r_PickFits (l : List Ev) (e : Ev) (t : Int) (hb : e.content.sz < big) (hbl : ∀ x ∈ l, x.content.sz < big) (hll : l.length < big) (hls : ∀ x ∈ l, x.prev.length < lim ∧ x.auth.length < lim) :
    cR 14 [.vsl (l.map evE) none, evE e, .int .i64 t] = some (.bool true) := by
  have h2 := r_light l 30 hbl hll
  have h3 := r_light [e] 1 (fun x hx => by simp only [List.mem_singleton] at hx; subst hx; exact hb) (by simp [big])
  simp only [List.map_cons, List.map_nil] at h3
  refine cR_of (F := F14) rfl ?_
  obtain ⟨r, hr⟩ : ∃ r, r = AV.bool true := ⟨_, rfl⟩
  rw [← hr]
  cases hl2 : (!(decide ((l.length : Int) > 30)) && l.all lightE) with
  | false =>
    rw [hl2] at h2
    simp only [F14_0, F14_1, F14_2, F14_3, F14_4, F14_5, F14_6, F14_7, F14_8, F14_9, F14_10, F14_11, F14_12, F14_13, F14_14, F14_15, F14_16, F14_17, F14_18, F14_19, F14_20, F14_21, F14_22, F14_23, F14_24, F14_25, F14_26, F14_27, F14_28, F14_29, F14_30, F14_31, F14_32, F14_33, F14_34, F14_35, F14_36, F14_37, F14_38, F14_39, F14_40, F14_41, F14_42, F14_43, F14_44, F14_45, F14_46, F14_47, F14_48, F14_49, F14_50, F14_51, F14_52, F14_53, F14_54, F14_55, F14_56, F14_57, F14_58, F14_59, F14_60, F14_61, F14_62, F14_63, F14_64, F14_65, F14_66, F14_67, F14_68, F14_69, F14_70, F14_71, F14_72, F14_73, F14_74, F14_75, F14_76, F14_77, F14_78, F14_79, F14_80, F14_81, F14_82, F14_83, F14_84, F14_85, F14_86, F14_87, F14_88, F14_89, F14_90, F14_91, F14_92, F14_93, F14_94, F14_95, F14_96, F14_97, F14_98, F14_99, F14_100, F14_101, F14_102, F14_103, F14_104, F14_105, F14_106, F14_107, F14_108, F14_109, F14_110, F14_111, F14_112, F14_113, F14_114, F14_115, F14_116, F14_117, F14_118, F14_119, F14_120, F14_121, F14_122, F14_123, F14_124, F14_125, F14_126, F14_127, F14_128, F14_129, F14_130, F14_131, F14_132, F14_133, F14_134, F14_135, F14_136, F14_137, F14_138, F14_139, F14_140, F14_141, F14_143, F14_144, F14_145, F14_146, F14_147, F14_148, F14, EX0, EX1, EX2, EX3, EX4, EX5, if_true, if_false, implies_true, forall_const, ne_eq, Nat.reduceEqDiff, reduceIte, reduceCtorEq, Nat.reduceAdd, Nat.reduceLeDiff, Nat.reduceSub, Nat.reduceMul, Int.reduceEq, Int.reduceBEq, Int.reduceBNe, Int.reduceLT, Int.reduceLE, Nat.reduceLT, VX, readAt_some, evE_eta, r_awake19, h2, hr]
  | true =>
  rw [hl2] at h2
  cases hl3 : (!(decide ((([e].length : Nat) : Int) > 1)) && [e].all lightE) with
  | false =>
    rw [hl3] at h3
    simp only [F14_0, F14_1, F14_2, F14_3, F14_4, F14_5, F14_6, F14_7, F14_8, F14_9, F14_10, F14_11, F14_12, F14_13, F14_14, F14_15, F14_16, F14_17, F14_18, F14_19, F14_20, F14_21, F14_22, F14_23, F14_24, F14_25, F14_26, F14_27, F14_28, F14_29, F14_30, F14_31, F14_32, F14_33, F14_34, F14_35, F14_36, F14_37, F14_38, F14_39, F14_40, F14_41, F14_42, F14_43, F14_44, F14_45, F14_46, F14_47, F14_48, F14_49, F14_50, F14_51, F14_52, F14_53, F14_54, F14_55, F14_56, F14_57, F14_58, F14_59, F14_60, F14_61, F14_62, F14_63, F14_64, F14_65, F14_66, F14_67, F14_68, F14_69, F14_70, F14_71, F14_72, F14_73, F14_74, F14_75, F14_76, F14_77, F14_78, F14_79, F14_80, F14_81, F14_82, F14_83, F14_84, F14_85, F14_86, F14_87, F14_88, F14_89, F14_90, F14_91, F14_92, F14_93, F14_94, F14_95, F14_96, F14_97, F14_98, F14_99, F14_100, F14_101, F14_102, F14_103, F14_104, F14_105, F14_106, F14_107, F14_108, F14_109, F14_110, F14_111, F14_112, F14_113, F14_114, F14_115, F14_116, F14_117, F14_118, F14_119, F14_120, F14_121, F14_122, F14_123, F14_124, F14_125, F14_126, F14_127, F14_128, F14_129, F14_130, F14_131, F14_132, F14_133, F14_134, F14_135, F14_136, F14_137, F14_138, F14_139, F14_140, F14_141, F14_143, F14_144, F14_145, F14_146, F14_147, F14_148, F14, EX0, EX1, EX2, EX3, EX4, EX5, if_true, if_false, implies_true, forall_const, ne_eq, Nat.reduceEqDiff, reduceIte, reduceCtorEq, Nat.reduceAdd, Nat.reduceLeDiff, Nat.reduceSub, Nat.reduceMul, Int.reduceEq, Int.reduceBEq, Int.reduceBNe, Int.reduceLT, Int.reduceLE, Nat.reduceLT, VX, readAt_some, evE_eta, r_awake19, h2, h3, hr]
  | true =>
    rw [hl3] at h3
    simp only [F14_0, F14_1, F14_2, F14_3, F14_4, F14_5, F14_6, F14_7, F14_8, F14_9, F14_10, F14_11, F14_12, F14_13, F14_14, F14_15, F14_16, F14_17, F14_18, F14_19, F14_20, F14_21, F14_22, F14_23, F14_24, F14_25, F14_26, F14_27, F14_28, F14_29, F14_30, F14_31, F14_32, F14_33, F14_34, F14_35, F14_36, F14_37, F14_38, F14_39, F14_40, F14_41, F14_42, F14_43, F14_44, F14_45, F14_46, F14_47, F14_48, F14_49, F14_50, F14_51, F14_52, F14_53, F14_54, F14_55, F14_56, F14_57, F14_58, F14_59, F14_60, F14_61, F14_62, F14_63, F14_64, F14_65, F14_66, F14_67, F14_68, F14_69, F14_70, F14_71, F14_72, F14_73, F14_74, F14_75, F14_76, F14_77, F14_78, F14_79, F14_80, F14_81, F14_82, F14_83, F14_84, F14_85, F14_86, F14_87, F14_88, F14_89, F14_90, F14_91, F14_92, F14_93, F14_94, F14_95, F14_96, F14_97, F14_98, F14_99, F14_100, F14_101, F14_102, F14_103, F14_104, F14_105, F14_106, F14_107, F14_108, F14_109, F14_110, F14_111, F14_112, F14_113, F14_114, F14_115, F14_116, F14_117, F14_118, F14_119, F14_120, F14_121, F14_122, F14_123, F14_124, F14_125, F14_126, F14_127, F14_128, F14_129, F14_130, F14_131, F14_132, F14_133, F14_134, F14_135, F14_136, F14_137, F14_138, F14_139, F14_140, F14_141, F14_143, F14_144, F14_145, F14_146, F14_147, F14_148, F14, EX0, EX1, EX2, EX3, EX4, EX5, if_true, if_false, implies_true, forall_const, ne_eq, Nat.reduceEqDiff, reduceIte, reduceCtorEq, Nat.reduceAdd, Nat.reduceLeDiff, Nat.reduceSub, Nat.reduceMul, Int.reduceEq, Int.reduceBEq, Int.reduceBNe, Int.reduceLT, Int.reduceLE, Nat.reduceLT, VX, readAt_some, evE_eta, r_awake19, h2, h3]
    exact pf_ids hll hr (fun hd => pf_main hb hll hls hd hr)
end Go.Ab
