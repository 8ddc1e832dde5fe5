/- What functions of the program, and of the library, answer. Conditions: none. -/
import Derived.Test.YtgckcnggblomgaaGreatDoorEx
import Derived.Test.YtgckcnggblomgaaGreatDoorDraw
import Derived.Test.YtgckcnggblomgaaGreatDoorLaw5
import Derived.Test.YtgckcnggblomgaaGreatDoorLaw4
set_option linter.unusedVariables false
set_option linter.unusedSimpArgs false
set_option linter.defProp false
/- A region walked in pieces: what is asked no more is dropped from the frame. -/
namespace Go.Ab
section
variable {ip : Nat → Option IFunc} {G : Nat → List AV} {fr fr' : Fr} {σ : Store} {Q : Fr → Store → Prop} {k : List Item}
theorem cut_fwd {b : List IOper} : ∀ (a : List IOper) (n : Nat) (fr : Fr) (σ : Store) (x : Fr × Store), run ip G n (.ops (a ++ b) :: k) fr σ = some x → run ip G (n + 1) (.ops a :: .ops b :: k) fr σ = some x
  | [], n, fr, σ, x, h => by simpa [run] using h
  | o :: a, 0, fr, σ, x, h => by simp [run] at h
  | o :: a, n + 1, fr, σ, x, h => by
    rw [List.cons_append, run] at h
    rw [run]
    split at h
    · rename_i hw
      try rw [hw]
      split at h
      case h_2 => simp at h
      rename_i v σ' hd
      rw [doOp_mono (run_succ n) hd]
      exact cut_fwd a n _ _ _ h
    · rename_i hw
      try rw [hw]
      exact cut_fwd a n _ _ _ h
    · simp at h
theorem cut_bwd {b : List IOper} : ∀ (a : List IOper) (n : Nat) (fr : Fr) (σ : Store) (x : Fr × Store), run ip G n (.ops a :: .ops b :: k) fr σ = some x → run ip G n (.ops (a ++ b) :: k) fr σ = some x
  | [], 0, fr, σ, x, h => by simp [run] at h
  | [], n + 1, fr, σ, x, h => by
    rw [run] at h
    exact run_succ n _ _ _ _ h
  | o :: a, 0, fr, σ, x, h => by simp [run] at h
  | o :: a, n + 1, fr, σ, x, h => by
    rw [run] at h
    rw [List.cons_append, run]
    split at h
    · rename_i hw
      try rw [hw]
      split at h
      case h_2 => simp at h
      rename_i v σ' hd
      try rw [hd]
      exact cut_bwd a n _ _ _ h
    · rename_i hw
      try rw [hw]
      exact cut_bwd a n _ _ _ h
    · simp at h
theorem ex_cut (n : Nat) (os : List IOper) : Ex ip G (.ops os :: k) fr σ Q ↔ Ex ip G (.ops (os.take n) :: .ops (os.drop n) :: k) fr σ Q := by
  constructor
  · rintro ⟨m, a, b, h1, h2⟩
    exact ⟨m + 1, a, b, cut_fwd (b := os.drop n) (os.take n) m fr σ _ (by rw [List.take_append_drop]; exact h1), h2⟩
  · rintro ⟨m, a, b, h1, h2⟩
    exact ⟨m, a, b, by rw [← List.take_append_drop n os]; exact cut_bwd _ m fr σ _ h1, h2⟩
/-- What is asked of the frame. -/
def liveIn (L : List Nat) : List IOper → List Nat
  | [] => L
  | o :: os => o.names ++ (liveIn L os).filter fun t => o.dst != some t
def opsOf : ICode → List IOper
  | .region l => l
  | _ => []
theorem get_put (fr : Fr) (d : Option Nat) (v : AV) (t : Nat) : (fr.put d v).get t = if d = some t then v else fr.get t := by
  cases d with
  | none => simp [Fr.put]
  | some d =>
    simp only [Fr.put, Fr.get, look, Option.some.injEq]
    by_cases h : d = t
    · rw [if_pos h, if_pos h]; rfl
    · rw [if_neg h, if_neg h]
theorem run_congr {L : List Nat} {c : ICode} : ∀ (os : List IOper) (n : Nat) (fr fr' : Fr) (σ : Store), (∀ t ∈ liveIn L os, fr.get t = fr'.get t) →
    run ip G n (.ops os :: .code (.keep L c) :: k) fr σ = run ip G n (.ops os :: .code (.keep L c) :: k) fr' σ
  | _, 0, _, _, _, _ => rfl
  | [], 1, _, _, _, _ => rfl
  | [], n + 2, fr, fr', σ, h => by
    simp only [run]
    have : keep L fr = keep L fr' := by
      unfold keep
      exact List.map_congr_left fun t ht => by rw [h t (by simpa [liveIn] using ht)]
    rw [this]
  | o :: os, n + 1, fr, fr', σ, h => by
    have hn : ∀ t ∈ o.names, fr.get t = fr'.get t := fun t ht => h t (by simp [liveIn, ht])
    obtain ⟨h1, h2⟩ := oper_congr (ip := ip) (G := G) (r := run ip G n) (σ := σ) hn
    have put : ∀ (v : AV), ∀ t ∈ liveIn L os, (fr.put o.dst v).get t = (fr'.put o.dst v).get t := fun v t ht => by
      rw [get_put, get_put]
      split
      · rfl
      · rename_i hd
        exact h t (by simp only [liveIn, List.mem_append, List.mem_filter]; exact .inr ⟨ht, by simpa using hd⟩)
    simp only [run, h1, h2]
    split
    · split
      · exact run_congr os n _ _ _ (put _)
      · rfl
    · exact run_congr os n _ _ _ (put _)
    · rfl
theorem get_keepM {M : List Nat} {t : Nat} (h : t ∈ M) (fr : Fr) : (keep M fr).get t = fr.get t := by
  unfold keep
  induction M with
  | nil => simp at h
  | cons x M ih =>
    simp only [List.map_cons]
    unfold Fr.get
    simp only [look]
    by_cases hx : x = t
    · subst hx; rw [if_pos rfl]; rfl
    · rw [if_neg hx]
      exact ih (by simpa [Ne.symm hx] using h)
theorem ex_prune (M : List Nat) {os : List IOper} {L : List Nat} {c : ICode} (h : (liveIn L os).all (M.contains ·) = true) :
    Ex ip G (.ops os :: .code (.keep L c) :: k) fr σ Q ↔ Ex ip G (.ops os :: .code (.keep L c) :: k) (keep M fr) σ Q := by
  have hc : ∀ n, run ip G n (.ops os :: .code (.keep L c) :: k) fr σ = run ip G n (.ops os :: .code (.keep L c) :: k) (keep M fr) σ := fun n =>
    run_congr os n _ _ _ (fun t ht => by
      have := List.all_eq_true.1 h t ht
      exact (get_keepM (by simpa using this) fr).symm)
  unfold Ex
  simp only [hc]
end
end Go.Ab
/- Events that are light. -/
namespace Go.Ab
set_option maxHeartbeats 1000000
def N8Fa := J @F2_11.eq_1 (J @F2_12.eq_1 (J @F2_14.eq_1 (J @F2_15.eq_1 (J @F2_22.eq_1 (J @F2_23.eq_1 (@F2.eq_1))))))
def N8Fb := J @F2_11.eq_1 (J @F2_14.eq_1 (J @F2_15.eq_1 (J @F2_22.eq_1 (J @F2_23.eq_1 (@F2.eq_1)))))
def N8Fd := J @F2_11.eq_1 (J @F2_12.eq_1 (J @F2_14.eq_1 (J @F2_15.eq_1 (J @F2_22.eq_1 (@F2.eq_1)))))
set_option maxRecDepth 100000
def lenSum (e : Ev) : Int := W (W (W ((e.type.length : Int) + (e.key.length : Int)) + (e.sender.length : Int)) + (e.room.length : Int))
def lightE (e : Ev) : Bool := lightV e.content 800 && (e.content.good && (!(e.content.kind != 5) && (!(decide (lenSum e > 1500)) && (!(decide ((e.prev.length : Int) > 30)) && !(decide ((e.auth.length : Int) > 30))))))
theorem lightE_eq (e : Ev) : lightE e = (lightV e.content 800 && (e.content.good && (!(e.content.kind != 5) && (!(decide (lenSum e > 1500)) && (!(decide ((e.prev.length : Int) > 30)) && !(decide ((e.auth.length : Int) > 30))))))) := rfl
theorem lenSum_eq (e : Ev) : lenSum e = W (W (W ((e.type.length : Int) + (e.key.length : Int)) + (e.sender.length : Int)) + (e.room.length : Int)) := rfl
/-- An event's cells, folded. -/
def evC (e : Ev) : List AV := (evE e).cells
theorem idx_evC {l : List Ev} {j : Nat} {e : Ev} {c : Option Nat} (h : l[j]? = some e) : idxOf 20 none (.vsl (l.map evE) c) (.int .i64 (j : Int)) = some (.vptr (evC e) 0) := idx_ev h
theorem evr_all (e : Ev) : readAt (evC e) 0 (some 20) = some (evE e) := rfl
theorem evr_id (e : Ev) : (evC e)[5]? = some (.str e.id) := rfl
theorem evr_room (e : Ev) : (evC e)[6]? = some (.str e.room) := rfl
theorem evr_type (e : Ev) : (evC e)[7]? = some (.str e.type) := rfl
theorem evr_sender (e : Ev) : (evC e)[8]? = some (.str e.sender) := rfl
theorem evr_key (e : Ev) : (evC e)[9]? = some (.str e.key) := rfl
theorem evr_isState (e : Ev) : (evC e)[10]? = some (.bool e.isState) := rfl
theorem evr_prev (e : Ev) : (evC e)[13]? = some (.vsl (e.prev.map .str) none) := rfl
theorem evr_auth (e : Ev) : (evC e)[14]? = some (.vsl (e.auth.map .str) none) := rfl
theorem evr_content (e : Ev) : readAt (evC e) 15 (some 5) = some e.content.enc := by rw [V.enc_eq]; rfl
theorem evr_kind (e : Ev) : (evC e)[15]? = some (.int .i64 e.content.kind) := rfl
def EVR := J evr_all (J evr_id (J evr_room (J evr_type (J evr_sender (J evr_key (J evr_isState (J evr_prev (J evr_auth (J evr_content evr_kind)))))))))
theorem allL_drop {α : Type} {p : α → Bool} {l : List α} {j : Nat} {x : α} (h : l[j]? = some x) : (l.drop j).all p = (p x && (l.drop (j + 1)).all p) := by
  rw [drop_cons h, List.all_cons]
section
variable {l : List Ev} {e : Ev} {j : Nat} {c : ICode} {k : List Item} {σ : Store} {Q : Fr → Store → Prop}
abbrev ltF (l : List Ev) (j : Nat) (t : Nat) (b : Bool) : Fr := [(0, .vsl (l.map evE) none), (5, .int .i64 (j : Int)), (t, .bool b)]
abbrev ltT (n : Nat) : List IOper := (opsOf F2_12).drop n
theorem lt1 (he : l[j]? = some e) (hb : e.content.sz < big) : Ex ipU gU (.ops (opsOf F2_12) :: .code (.keep [0, 5, 88] c) :: k) [(0, .vsl (l.map evE) none), (5, .int .i64 (j : Int))] σ Q ↔ Ex ipU gU (.ops (ltT 8) :: .code (.keep [0, 5, 88] c) :: k) (ltF l j 23 (!lightV e.content 800)) σ Q := by
  have hidx := idx_evC (c := none) he
  have c1 := r_lightV e.content 800 hb
  rw [ex_cut 8]
  have hl : (liveIn [0, 5, 88] (ltT 8)).all (([0, 5, 23] : List Nat).contains ·) = true := by kernel_rfl
  unfold ltT at hl ⊢
  generalize (opsOf F2_12).drop 8 = tl at hl ⊢
  simp only [opsOf, N8Fa, EXA, Nat.reduceEqDiff, reduceIte, reduceCtorEq, Nat.reduceAdd, Nat.reduceLeDiff, Nat.reduceSub, Nat.reduceMul, Int.reduceEq, Int.reduceBEq, Int.reduceBNe, Int.reduceLT, Int.reduceLE, Nat.reduceLT, VX, EVR, hidx, c1]
  rw [ex_prune [0, 5, 23] hl]
  simp only [EXA, Nat.reduceEqDiff, reduceIte, reduceCtorEq, Nat.reduceAdd, Nat.reduceLeDiff, Nat.reduceSub, Nat.reduceMul, Int.reduceEq, Int.reduceBEq, Int.reduceBNe, Int.reduceLT, Int.reduceLE, Nat.reduceLT]
theorem lt2 (he : l[j]? = some e) (hb : e.content.sz < big) (a : Bool) : Ex ipU gU (.ops (ltT 8) :: .code (.keep [0, 5, 88] c) :: k) (ltF l j 23 a) σ Q ↔ Ex ipU gU (.ops (ltT 17) :: .code (.keep [0, 5, 88] c) :: k) (ltF l j 32 (a || !e.content.good)) σ Q := by
  have hidx := idx_evC (c := none) he
  have c2 := r_good e.content hb
  have hd : ltT 17 = (ltT 8).drop 9 := rfl
  rw [ex_cut 9, hd]
  have hl : (liveIn [0, 5, 88] ((ltT 8).drop 9)).all (([0, 5, 32] : List Nat).contains ·) = true := by kernel_rfl
  generalize (ltT 8).drop 9 = tl at hl ⊢
  cases a
  · simp only [ltT, opsOf, N8Fa, EXA, Nat.reduceEqDiff, reduceIte, reduceCtorEq, Nat.reduceAdd, Nat.reduceLeDiff, Nat.reduceSub, Nat.reduceMul, Int.reduceEq, Int.reduceBEq, Int.reduceBNe, Int.reduceLT, Int.reduceLE, Nat.reduceLT, VX, EVR, hidx, c2, Bool.false_or]
    rw [ex_prune [0, 5, 32] hl]
    simp only [EXA, Nat.reduceEqDiff, reduceIte, reduceCtorEq, Nat.reduceAdd, Nat.reduceLeDiff, Nat.reduceSub, Nat.reduceMul, Int.reduceEq, Int.reduceBEq, Int.reduceBNe, Int.reduceLT, Int.reduceLE, Nat.reduceLT, Bool.false_or]
  · simp only [ltT, opsOf, N8Fa, EXA, Nat.reduceEqDiff, reduceIte, reduceCtorEq, Nat.reduceAdd, Nat.reduceLeDiff, Nat.reduceSub, Nat.reduceMul, Int.reduceEq, Int.reduceBEq, Int.reduceBNe, Int.reduceLT, Int.reduceLE, Nat.reduceLT, VX, EVR, hidx, Bool.true_or]
    rw [ex_prune [0, 5, 32] hl]
    simp only [EXA, Nat.reduceEqDiff, reduceIte, reduceCtorEq, Nat.reduceAdd, Nat.reduceLeDiff, Nat.reduceSub, Nat.reduceMul, Int.reduceEq, Int.reduceBEq, Int.reduceBNe, Int.reduceLT, Int.reduceLE, Nat.reduceLT, Bool.true_or]
theorem lt3 (he : l[j]? = some e) (hb : e.content.sz < big) (a : Bool) : Ex ipU gU (.ops (ltT 17) :: .code (.keep [0, 5, 88] c) :: k) (ltF l j 32 a) σ Q ↔ Ex ipU gU (.ops (ltT 26) :: .code (.keep [0, 5, 88] c) :: k) (ltF l j 41 (a || (e.content.kind != 5))) σ Q := by
  have hidx := idx_evC (c := none) he
  have hd : ltT 26 = (ltT 17).drop 9 := rfl
  rw [ex_cut 9, hd]
  have hl : (liveIn [0, 5, 88] ((ltT 17).drop 9)).all (([0, 5, 41] : List Nat).contains ·) = true := by kernel_rfl
  generalize (ltT 17).drop 9 = tl at hl ⊢
  cases a
  · simp only [ltT, opsOf, N8Fa, EXA, Nat.reduceEqDiff, reduceIte, reduceCtorEq, Nat.reduceAdd, Nat.reduceLeDiff, Nat.reduceSub, Nat.reduceMul, Int.reduceEq, Int.reduceBEq, Int.reduceBNe, Int.reduceLT, Int.reduceLE, Nat.reduceLT, VX, EVR, hidx, Bool.false_or]
    rw [ex_prune [0, 5, 41] hl]
    simp only [EXA, Nat.reduceEqDiff, reduceIte, reduceCtorEq, Nat.reduceAdd, Nat.reduceLeDiff, Nat.reduceSub, Nat.reduceMul, Int.reduceEq, Int.reduceBEq, Int.reduceBNe, Int.reduceLT, Int.reduceLE, Nat.reduceLT, Bool.false_or]
  · simp only [ltT, opsOf, N8Fa, EXA, Nat.reduceEqDiff, reduceIte, reduceCtorEq, Nat.reduceAdd, Nat.reduceLeDiff, Nat.reduceSub, Nat.reduceMul, Int.reduceEq, Int.reduceBEq, Int.reduceBNe, Int.reduceLT, Int.reduceLE, Nat.reduceLT, VX, EVR, hidx, Bool.true_or]
    rw [ex_prune [0, 5, 41] hl]
    simp only [EXA, Nat.reduceEqDiff, reduceIte, reduceCtorEq, Nat.reduceAdd, Nat.reduceLeDiff, Nat.reduceSub, Nat.reduceMul, Int.reduceEq, Int.reduceBEq, Int.reduceBNe, Int.reduceLT, Int.reduceLE, Nat.reduceLT, Bool.true_or]
theorem lt4 (he : l[j]? = some e) (hb : e.content.sz < big) (a : Bool) : Ex ipU gU (.ops (ltT 26) :: .code (.keep [0, 5, 88] c) :: k) (ltF l j 41 a) σ Q ↔ Ex ipU gU (.ops (ltT 56) :: .code (.keep [0, 5, 88] c) :: k) (ltF l j 71 (a || decide (W (W (W ((e.type.length : Int) + (e.key.length : Int)) + (e.sender.length : Int)) + (e.room.length : Int)) > 1500))) σ Q := by
  have hidx := idx_evC (c := none) he
  have hd : ltT 56 = (ltT 26).drop 30 := rfl
  rw [ex_cut 30, hd]
  have hl : (liveIn [0, 5, 88] ((ltT 26).drop 30)).all (([0, 5, 71] : List Nat).contains ·) = true := by kernel_rfl
  generalize (ltT 26).drop 30 = tl at hl ⊢
  cases a
  · simp only [ltT, opsOf, N8Fa, EXA, Nat.reduceEqDiff, reduceIte, reduceCtorEq, Nat.reduceAdd, Nat.reduceLeDiff, Nat.reduceSub, Nat.reduceMul, Int.reduceEq, Int.reduceBEq, Int.reduceBNe, Int.reduceLT, Int.reduceLE, Nat.reduceLT, VX, EVR, hidx, Bool.false_or]
    rw [ex_prune [0, 5, 71] hl]
    simp only [EXA, Nat.reduceEqDiff, reduceIte, reduceCtorEq, Nat.reduceAdd, Nat.reduceLeDiff, Nat.reduceSub, Nat.reduceMul, Int.reduceEq, Int.reduceBEq, Int.reduceBNe, Int.reduceLT, Int.reduceLE, Nat.reduceLT, Bool.false_or]
  · simp only [ltT, opsOf, N8Fa, EXA, Nat.reduceEqDiff, reduceIte, reduceCtorEq, Nat.reduceAdd, Nat.reduceLeDiff, Nat.reduceSub, Nat.reduceMul, Int.reduceEq, Int.reduceBEq, Int.reduceBNe, Int.reduceLT, Int.reduceLE, Nat.reduceLT, VX, EVR, hidx, Bool.true_or]
    rw [ex_prune [0, 5, 71] hl]
    simp only [EXA, Nat.reduceEqDiff, reduceIte, reduceCtorEq, Nat.reduceAdd, Nat.reduceLeDiff, Nat.reduceSub, Nat.reduceMul, Int.reduceEq, Int.reduceBEq, Int.reduceBNe, Int.reduceLT, Int.reduceLE, Nat.reduceLT, Bool.true_or]
theorem lt5 (he : l[j]? = some e) (hb : e.content.sz < big) (a : Bool) : Ex ipU gU (.ops (ltT 56) :: .code (.keep [0, 5, 88] c) :: k) (ltF l j 71 a) σ Q ↔ Ex ipU gU (.ops (ltT 65) :: .code (.keep [0, 5, 88] c) :: k) (ltF l j 80 (a || decide ((e.prev.length : Int) > 30))) σ Q := by
  have hidx := idx_evC (c := none) he
  have hd : ltT 65 = (ltT 56).drop 9 := rfl
  rw [ex_cut 9, hd]
  have hl : (liveIn [0, 5, 88] ((ltT 56).drop 9)).all (([0, 5, 80] : List Nat).contains ·) = true := by kernel_rfl
  generalize (ltT 56).drop 9 = tl at hl ⊢
  cases a
  · simp only [ltT, opsOf, N8Fa, EXA, Nat.reduceEqDiff, reduceIte, reduceCtorEq, Nat.reduceAdd, Nat.reduceLeDiff, Nat.reduceSub, Nat.reduceMul, Int.reduceEq, Int.reduceBEq, Int.reduceBNe, Int.reduceLT, Int.reduceLE, Nat.reduceLT, VX, EVR, hidx, Bool.false_or]
    rw [ex_prune [0, 5, 80] hl]
    simp only [EXA, Nat.reduceEqDiff, reduceIte, reduceCtorEq, Nat.reduceAdd, Nat.reduceLeDiff, Nat.reduceSub, Nat.reduceMul, Int.reduceEq, Int.reduceBEq, Int.reduceBNe, Int.reduceLT, Int.reduceLE, Nat.reduceLT, Bool.false_or]
  · simp only [ltT, opsOf, N8Fa, EXA, Nat.reduceEqDiff, reduceIte, reduceCtorEq, Nat.reduceAdd, Nat.reduceLeDiff, Nat.reduceSub, Nat.reduceMul, Int.reduceEq, Int.reduceBEq, Int.reduceBNe, Int.reduceLT, Int.reduceLE, Nat.reduceLT, VX, EVR, hidx, Bool.true_or]
    rw [ex_prune [0, 5, 80] hl]
    simp only [EXA, Nat.reduceEqDiff, reduceIte, reduceCtorEq, Nat.reduceAdd, Nat.reduceLeDiff, Nat.reduceSub, Nat.reduceMul, Int.reduceEq, Int.reduceBEq, Int.reduceBNe, Int.reduceLT, Int.reduceLE, Nat.reduceLT, Bool.true_or]
theorem lt6 (he : l[j]? = some e) (hb : e.content.sz < big) (a : Bool) : Ex ipU gU (.ops (ltT 65) :: .code (.keep [0, 5, 88] c) :: k) (ltF l j 80 a) σ Q ↔ Ex ipU gU (.ops (ltT 73) :: .code (.keep [0, 5, 88] c) :: k) (ltF l j 88 (a || decide ((e.auth.length : Int) > 30))) σ Q := by
  have hidx := idx_evC (c := none) he
  have hd : ltT 73 = (ltT 65).drop 8 := rfl
  rw [ex_cut 8, hd]
  have hl : (liveIn [0, 5, 88] ((ltT 65).drop 8)).all (([0, 5, 88] : List Nat).contains ·) = true := by kernel_rfl
  generalize (ltT 65).drop 8 = tl at hl ⊢
  cases a
  · simp only [ltT, opsOf, N8Fa, EXA, Nat.reduceEqDiff, reduceIte, reduceCtorEq, Nat.reduceAdd, Nat.reduceLeDiff, Nat.reduceSub, Nat.reduceMul, Int.reduceEq, Int.reduceBEq, Int.reduceBNe, Int.reduceLT, Int.reduceLE, Nat.reduceLT, VX, EVR, hidx, Bool.false_or]
    rw [ex_prune [0, 5, 88] hl]
    simp only [EXA, Nat.reduceEqDiff, reduceIte, reduceCtorEq, Nat.reduceAdd, Nat.reduceLeDiff, Nat.reduceSub, Nat.reduceMul, Int.reduceEq, Int.reduceBEq, Int.reduceBNe, Int.reduceLT, Int.reduceLE, Nat.reduceLT, Bool.false_or]
  · simp only [ltT, opsOf, N8Fa, EXA, Nat.reduceEqDiff, reduceIte, reduceCtorEq, Nat.reduceAdd, Nat.reduceLeDiff, Nat.reduceSub, Nat.reduceMul, Int.reduceEq, Int.reduceBEq, Int.reduceBNe, Int.reduceLT, Int.reduceLE, Nat.reduceLT, VX, EVR, hidx, Bool.true_or]
    rw [ex_prune [0, 5, 88] hl]
    simp only [EXA, Nat.reduceEqDiff, reduceIte, reduceCtorEq, Nat.reduceAdd, Nat.reduceLeDiff, Nat.reduceSub, Nat.reduceMul, Int.reduceEq, Int.reduceBEq, Int.reduceBNe, Int.reduceLT, Int.reduceLE, Nat.reduceLT, Bool.true_or]
end
theorem lt_all {l : List Ev} {e : Ev} {j : Nat} {c : ICode} {k : List Item} {σ : Store} {Q : Fr → Store → Prop} (he : l[j]? = some e) (hb : e.content.sz < big) :
    Ex ipU gU (.code F2_12 :: .code (.keep [0, 5, 88] c) :: k) [(0, .vsl (l.map evE) none), (5, .int .i64 (j : Int))] σ Q ↔ Ex ipU gU (.code c :: k) [(0, .vsl (l.map evE) none), (5, .int .i64 (j : Int)), (88, .bool (!lightE e))] σ Q := by
  have h0 : Ex ipU gU (.code F2_12 :: .code (.keep [0, 5, 88] c) :: k) [(0, .vsl (l.map evE) none), (5, .int .i64 (j : Int))] σ Q ↔ Ex ipU gU (.ops (opsOf F2_12) :: .code (.keep [0, 5, 88] c) :: k) [(0, .vsl (l.map evE) none), (5, .int .i64 (j : Int))] σ Q := ex_region
  rw [h0, lt1 he hb, lt2 he hb, lt3 he hb, lt4 he hb, lt5 he hb, lt6 he hb]
  have hn : ltT 73 = [] := rfl
  rw [hn, ex_ops_nil, ex_keep]
  have hB : ((((((!lightV e.content 800) || !e.content.good) || (e.content.kind != 5)) || decide (W (W (W ((e.type.length : Int) + (e.key.length : Int)) + (e.sender.length : Int)) + (e.room.length : Int)) > 1500)) || decide ((e.prev.length : Int) > 30)) || decide ((e.auth.length : Int) > 30)) = !lightE e := by
    rw [lightE_eq, lenSum_eq]
    simp only [Bool.not_and, Bool.not_not, Bool.or_assoc]
  rw [hB]
  rfl
theorem r_light (l : List Ev) (t : Int) (hb : ∀ e ∈ l, e.content.sz < big) (hlen : l.length < big) : cR 2 [.vsl (l.map evE) none, .int .i64 t] = some (.bool (!(decide ((l.length : Int) > t)) && l.all lightE)) := by
  unfold big at hlen
  refine cR_of (F := F2) rfl ?_
  obtain ⟨r, hr⟩ : ∃ r, r = AV.bool (!(decide ((l.length : Int) > t)) && l.all lightE) := ⟨_, rfl⟩
  rw [← hr]
  cases hd : decide ((l.length : Int) > t) with
  | true =>
    rw [hd] at hr
    simp only [Bool.not_true, Bool.false_and] at hr
    simp only [N8Fd, EXA, Nat.reduceEqDiff, reduceIte, reduceCtorEq, Nat.reduceAdd, Nat.reduceLeDiff, Nat.reduceSub, Nat.reduceMul, Int.reduceEq, Int.reduceBEq, Int.reduceBNe, Int.reduceLT, Int.reduceLE, Nat.reduceLT, VX, hd, hr]
  | false =>
  rw [hd] at hr
  simp only [Bool.not_false, Bool.true_and] at hr
  simp only [N8Fd, ex_loop, EXA, Nat.reduceEqDiff, reduceIte, reduceCtorEq, Nat.reduceAdd, Nat.reduceLeDiff, Nat.reduceSub, Nat.reduceMul, Int.reduceEq, Int.reduceBEq, Int.reduceBNe, Int.reduceLT, Int.reduceLE, Nat.reduceLT, VX, hd]
  refine ex_while (S := Nat) (fun j => [(0, .vsl (l.map evE) none), (5, .int .i64 (j : Int))]) (fun _ => .empty) (fun j => l.length - j) (fun j => (l.drop j).all lightE = l.all lightE) ?_ 0 rfl
  intro b j hj ih
  by_cases hlt : j < l.length
  · obtain ⟨e, he⟩ := get_lt hlt
    have hcond := dlt hlt
    have hw := wsucc hlt (by omega)
    have hbe := hb e (List.mem_of_getElem? he)
    rw [allL_drop he] at hj
    simp only [F2_11, F2_14, F2_22, F2_23, F2, EXA, Nat.reduceEqDiff, reduceIte, reduceCtorEq, Nat.reduceAdd, Nat.reduceLeDiff, Nat.reduceSub, Nat.reduceMul, Int.reduceEq, Int.reduceBEq, Int.reduceBNe, Int.reduceLT, Int.reduceLE, Nat.reduceLT, VX, hcond]
    rw [lt_all he hbe]
    cases h1 : lightE e with
    | false =>
      rw [h1, Bool.false_and] at hj
      rw [← hj] at hr
      simp only [N8Fb, EXA, Nat.reduceEqDiff, reduceIte, reduceCtorEq, Nat.reduceAdd, Nat.reduceLeDiff, Nat.reduceSub, Nat.reduceMul, Int.reduceEq, Int.reduceBEq, Int.reduceBNe, Int.reduceLT, Int.reduceLE, Nat.reduceLT, VX, hr]
    | true =>
      rw [h1, Bool.true_and] at hj
      simp only [N8Fb, EXA, Nat.reduceEqDiff, reduceIte, reduceCtorEq, Nat.reduceAdd, Nat.reduceLeDiff, Nat.reduceSub, Nat.reduceMul, Int.reduceEq, Int.reduceBEq, Int.reduceBNe, Int.reduceLT, Int.reduceLE, Nat.reduceLT, VX, hw]
      exact ih (j + 1) _ _ (by omega) hj rfl rfl
  · have hcond := dge (Nat.not_lt.1 hlt)
    rw [List.drop_eq_nil_of_le (by omega), List.all_nil] at hj
    rw [← hj] at hr
    simp only [N8Fa, EXA, Nat.reduceEqDiff, reduceIte, reduceCtorEq, Nat.reduceAdd, Nat.reduceLeDiff, Nat.reduceSub, Nat.reduceMul, Int.reduceEq, Int.reduceBEq, Int.reduceBNe, Int.reduceLT, Int.reduceLE, Nat.reduceLT, VX, hcond, hr]
end Go.Ab
/- Sorting of members. -/
namespace Go.Ab
set_option maxHeartbeats 1000000
def T13Fa := J @F72_4.eq_1 (J @F72_9.eq_1 (J @F72_15.eq_1 (J @F72_16.eq_1 (J @F72_25.eq_1 (J @F72_26.eq_1 (@F72.eq_1))))))
def T13Fb := J @F72_4.eq_1 (J @F72_9.eq_1 (J @F72_15.eq_1 (J @F72_25.eq_1 (J @F72_26.eq_1 (@F72.eq_1)))))
set_option maxRecDepth 100000
def insR (x : Mem) : List Mem → List Mem
  | [] => [x]
  | y :: r => if bytesLess x.1 y.1 = true then y :: insR x r else x :: y :: r
def sortR : List Mem → List Mem → List Mem
  | acc, [] => acc
  | acc, x :: r => sortR (insR x acc) r
def sortM (l : List Mem) : List Mem := (sortR [] l).reverse
theorem insR_len (x : Mem) : ∀ l, (insR x l).length = l.length + 1
  | [] => rfl
  | y :: r => by simp only [insR]; split <;> simp [insR_len x r]
theorem sortR_len : ∀ (l acc : List Mem), (sortR acc l).length = acc.length + l.length
  | [], acc => by simp [sortR]
  | x :: r, acc => by rw [sortR, sortR_len r, insR_len]; simp; omega
section
variable {α : Type} (L : Lay α)
theorem Lay.cells_append (l m : List α) : L.cells (l ++ m) = L.cells l ++ L.cells m := by simp [Lay.cells]
theorem Lay.cells_cons (a : α) (l : List α) : L.cells (a :: l) = (L.f a).cells ++ L.cells l := by simp [Lay.cells]
theorem Lay.take {l : List α} {j : Nat} (h : j ≤ l.length) : (L.cells l).take (j * L.sz) = L.cells (l.take j) := by
  have e : L.cells l = L.cells (l.take j) ++ L.cells (l.drop j) := by rw [← L.cells_append, List.take_append_drop]
  have hl : (L.cells (l.take j)).length = j * L.sz := by rw [L.cells_len, List.length_take, Nat.min_eq_left h]
  rw [e, ← hl, List.take_left]
theorem Lay.drop {l : List α} {j : Nat} (h : j ≤ l.length) : (L.cells l).drop (j * L.sz) = L.cells (l.drop j) := by
  have e : L.cells l = L.cells (l.take j) ++ L.cells (l.drop j) := by rw [← L.cells_append, List.take_append_drop]
  have hl : (L.cells (l.take j)).length = j * L.sz := by rw [L.cells_len, List.length_take, Nat.min_eq_left h]
  rw [e, ← hl, List.drop_left]
theorem Lay.read {l : List α} {j : Nat} {a : α} (h : l[j]? = some a) (hs : L.sz ≠ 1) : readAt (L.cells l) (j * L.sz) (some L.sz) = some (L.f a) := by
  have hlt := lt_of_get h
  have hcl := L.cells_len l
  have hle : j * L.sz + L.sz ≤ (L.cells l).length := by
    rw [hcl]
    have := Nat.mul_le_mul_right L.sz (Nat.succ_le_of_lt hlt)
    rw [Nat.succ_mul] at this
    exact this
  show (if j * L.sz + L.sz ≤ (L.cells l).length then some (AV.agg (((L.cells l).drop (j * L.sz)).take L.sz)) else none) = _
  rw [if_pos hle, L.drop (Nat.le_of_lt hlt), drop_cons h, L.cells_cons]
  have ha := L.agg a
  rw [if_neg hs] at ha
  obtain ⟨cs, hcs⟩ := ha
  have hl := L.len a
  rw [hcs] at hl ⊢
  simp only [AV.cells] at hl ⊢
  rw [← hl, List.take_left]
theorem Lay.splice {l : List α} {j : Nat} (a : α) (h : j < l.length) : (L.cells l).take (j * L.sz) ++ (L.f a).cells ++ (L.cells l).drop (j * L.sz + L.sz) = L.cells (l.set j a) := by
  have e : j * L.sz + L.sz = (j + 1) * L.sz := by rw [Nat.add_mul]; simp
  rw [e, L.take (Nat.le_of_lt h), L.drop h, List.set_eq_take_append_cons_drop, if_pos h, L.cells_append, L.cells_cons, List.append_assoc]
end
theorem swap_set {α : Type} (A B : List α) (x y : α) : ((A ++ y :: x :: B).set (A.length + 1) y).set A.length x = A ++ x :: y :: B := by
  induction A with
  | nil => rfl
  | cons a A ih => simp [ih]
theorem Own.blk {α : Type} {L : Lay α} {σ : Store} {b : Nat} {l : List α} (h : Own L σ (some b) l) : look σ.m b = some (.own (L.cells l)) := h.1
def InsQ (σ : Store) (b : Nat) (l : List Mem) (τ : Store) : Prop := Own LMem τ (some b) l ∧ τ.next = σ.next ∧ ∀ b', b' ≠ b → τ.get b' = σ.get b'
theorem c_ins (b N : Nat) (l : List Mem) (σ : Store) (hN : l.length = N) (hlt : N < 64) (ho : Own LMem σ (some b) l) :
    ∃ σ', callS ipU gU (.fn 72 [] []) [.sl b 0 N 6 none, .int .i64 0, .int .i64 (N : Int), .fn 40 [] []] σ = some (.tup [], σ') ∧ InsQ σ b (sortM l) σ' := by
  have main : Ex ipU gU [.code F72.body] (initFr [.sl b 0 N 6 none, .int .i64 0, .int .i64 (N : Int), .fn 40 [] []]) σ fun fr' σ1 => resAll fr' σ1 F72.res = some (.tup []) ∧ InsQ σ b (sortM l) σ1 := by
    have w1 : IntKind.wrap .i64 (0 + 1) = ((1 : Nat) : Int) := by decide
    cases l with
    | nil =>
      subst hN
      have d0 : decide (((1 : Nat) : Int) < (([] : List Mem).length : Int)) = false := rfl
      simp only [T13Fb, ex_loop, EXA, Nat.reduceEqDiff, reduceIte, reduceCtorEq, Nat.reduceAdd, Nat.reduceLeDiff, Nat.reduceSub, Nat.reduceMul, Int.reduceEq, Int.reduceBEq, Int.reduceBNe, Int.reduceLT, Int.reduceLE, Nat.reduceLT, w1, d0]
      exact ⟨ho, rfl, fun _ _ => rfl⟩
    | cons x0 r0 =>
    simp only [F72_4, F72_9, F72_15, F72_25, F72, ex_loop, EXA, Nat.reduceEqDiff, reduceIte, reduceCtorEq, Nat.reduceAdd, Nat.reduceLeDiff, Nat.reduceSub, Nat.reduceMul, Int.reduceEq, Int.reduceBEq, Int.reduceBNe, Int.reduceLT, Int.reduceLE, Nat.reduceLT, w1]
    refine ex_whileI (S := List Mem × List Mem) (fun p => [(0, .sl b 0 N 6 none), (1, .int .i64 0), (2, .int .i64 (N : Int)), (3, .fn 40 [] []), (8, .int .i64 (p.1.length : Int))]) (fun p => p.2.length)
      (fun p τ => 0 < p.1.length ∧ p.1.length + p.2.length = N ∧ sortR p.1 p.2 = sortR [] (x0 :: r0) ∧ Own LMem τ (some b) (p.1.reverse ++ p.2) ∧ τ.next = σ.next ∧ ∀ b', b' ≠ b → τ.get b' = σ.get b') ?_ ([x0], r0) σ ⟨by simp, by simp at hN ⊢; omega, rfl, ho, rfl, fun _ _ => rfl⟩
    rintro bd ⟨acc, rest⟩ τ ⟨k1, k2, k3, k4, k5, k6⟩ ih
    simp only at k1 k2 k3 k4 k5 k6 ih ⊢
    cases rest with
    | nil =>
      have d0 : decide ((acc.length : Int) < (N : Int)) = false := by simp at k2 ⊢; omega
      simp only [T13Fb, EXA, Nat.reduceEqDiff, reduceIte, reduceCtorEq, Nat.reduceAdd, Nat.reduceLeDiff, Nat.reduceSub, Nat.reduceMul, Int.reduceEq, Int.reduceBEq, Int.reduceBNe, Int.reduceLT, Int.reduceLE, Nat.reduceLT, d0]
      have k3' : acc = sortR [] (x0 :: r0) := k3
      refine ⟨?_, k5, k6⟩
      unfold sortM
      rw [← k3']; simpa using k4
    | cons x rest =>
      have d0 : decide ((acc.length : Int) < (N : Int)) = true := by simp at k2 ⊢; omega
      simp only [T13Fb, ex_loop, EXA, Nat.reduceEqDiff, reduceIte, reduceCtorEq, Nat.reduceAdd, Nat.reduceLeDiff, Nat.reduceSub, Nat.reduceMul, Int.reduceEq, Int.reduceBEq, Int.reduceBNe, Int.reduceLT, Int.reduceLE, Nat.reduceLT, d0]
      have k3' : sortR (insR x acc) rest = sortR [] (x0 :: r0) := k3
      refine ex_whileI (S := List Mem × List Mem) (fun p => [(0, .sl b 0 N 6 none), (1, .int .i64 0), (2, .int .i64 (N : Int)), (3, .fn 40 [] []), (8, .int .i64 (acc.length : Int)), (9, .int .i64 (p.1.length : Int))]) (fun p => p.1.length)
        (fun p ρ => p.1.length + p.2.length = acc.length ∧ p.2 ++ insR x p.1 = insR x acc ∧ Own LMem ρ (some b) (p.1.reverse ++ x :: (p.2.reverse ++ rest)) ∧ ρ.next = σ.next ∧ ∀ b', b' ≠ b → ρ.get b' = σ.get b') ?_ (acc, []) τ ⟨by simp, rfl, by simpa using k4, k5, k6⟩
      rintro bd2 ⟨left, passed⟩ ρ ⟨q1, q2, q3, q4, q5⟩ ih2
      simp only at q1 q2 q3 q4 q5 ih2 ⊢
      -- how the outer loop goes on
      have fin : ∀ (fr' : Fr) (ρ' : Store), passed ++ x :: left = insR x acc → Own LMem ρ' (some b) (left.reverse ++ x :: (passed.reverse ++ rest)) → ρ'.next = σ.next → (∀ b', b' ≠ b → ρ'.get b' = σ.get b') →
          keep [0, 1, 2, 3, 8] fr' = [(0, .sl b 0 N 6 none), (1, .int .i64 0), (2, .int .i64 (N : Int)), (3, .fn 40 [] []), (8, .int .i64 ((acc.length + 1 : Nat) : Int))] → _ := fun fr' ρ' e1 e2 e3 e4 e5 =>
        ih (passed ++ x :: left, rest) fr' ρ' (by simp) ⟨by simp; omega, by simp at k2 ⊢; omega, by rw [e1]; exact k3', by simpa using e2, e3, e4⟩ (by
          have hh : (passed ++ x :: left).length = acc.length + 1 := by
            simp; omega
          rw [e5, hh])
      have hwi := wsucc (j := acc.length) (n := 64) (by simp at k2; omega) (by omega)
      cases left with
      | nil =>
        have d1 : decide (((([] : List Mem).length : Nat) : Int) > 0) = false := rfl
        have d1' : decide (0 < ((([] : List Mem).length : Nat) : Int)) = false := rfl
        have d1'' : decide (0 < ((0 : Nat) : Int)) = false := rfl
        simp only [T13Fa, EXA, Nat.reduceEqDiff, reduceIte, reduceCtorEq, Nat.reduceAdd, Nat.reduceLeDiff, Nat.reduceSub, Nat.reduceMul, Int.reduceEq, Int.reduceBEq, Int.reduceBNe, Int.reduceLT, Int.reduceLE, Nat.reduceLT, d1, d1', d1'', hwi]
        exact fin _ _ q2 q3 q4 q5 (by simp only [EXA, Nat.reduceEqDiff, reduceIte, reduceCtorEq, Nat.reduceAdd, Nat.reduceLeDiff, Nat.reduceSub, Nat.reduceMul, Int.reduceEq, Int.reduceBEq, Int.reduceBNe, Int.reduceLT, Int.reduceLE, Nat.reduceLT])
      | cons y r =>
        have hD : (y :: r).reverse ++ x :: (passed.reverse ++ rest) = r.reverse ++ y :: x :: (passed.reverse ++ rest) := by simp
        rw [hD] at q3
        have g0 : (r.reverse ++ y :: x :: (passed.reverse ++ rest))[r.length]? = some y := by
          rw [List.getElem?_append_right (by simp)]; simp
        have g1 : (r.reverse ++ y :: x :: (passed.reverse ++ rest))[r.length + 1]? = some x := by
          rw [List.getElem?_append_right (by simp)]; simp
        have hrN : r.length + 1 < N := by simp at q1 k2; omega
        have d1 : decide (((r.length + 1 : Nat) : Int) > 0) = true := by simp
        have d1' : decide (0 < ((r.length + 1 : Nat) : Int)) = true := by simp
        have i1 : idxOf 6 none (.sl b 0 N 6 none) (.int .i64 ((r.length + 1 : Nat) : Int)) = some (.ptr b ((r.length + 1) * 6)) := by
          simp [idxOf]
          omega
        have i0 : idxOf 6 none (.sl b 0 N 6 none) (.int .i64 ((r.length : Nat) : Int)) = some (.ptr b (r.length * 6)) := by
          have : r.length < N := by omega
          simp [idxOf, this]
        have wp : IntKind.wrap .i64 (((r.length + 1 : Nat) : Int) - 1) = ((r.length : Nat) : Int) := by
          have := wpred (j := r.length + 1) (by omega) (by omega)
          simpa using this
        have hlk := q3.blk
        have hlen : (r.reverse ++ y :: x :: (passed.reverse ++ rest)).length = N := by simp at q1 k2 ⊢; omega
        have rd1 : readAt (LMem.cells _) ((r.length + 1) * 6) (some 6) = some (memE x) := LMem.read g1 (by decide)
        have rd0 : readAt (LMem.cells _) (r.length * 6) (some 6) = some (memE y) := LMem.read g0 (by decide)
        have hk := r_key x y
        cases hb : bytesLess x.1 y.1
        · simp only [T13Fa, EXA, Nat.reduceEqDiff, reduceIte, reduceCtorEq, Nat.reduceAdd, Nat.reduceLeDiff, Nat.reduceSub, Nat.reduceMul, Int.reduceEq, Int.reduceBEq, Int.reduceBNe, Int.reduceLT, Int.reduceLE, Nat.reduceLT, VX, d1, d1', i1, i0, wp, hlk, rd1, rd0, hk, keyC_lt, hb, hwi]
          simp only [insR, hb, Bool.false_eq_true, if_false] at q2
          exact fin _ _ q2 (by rw [hD]; exact q3) q4 q5 (by simp only [EXA, Nat.reduceEqDiff, reduceIte, reduceCtorEq, Nat.reduceAdd, Nat.reduceLeDiff, Nat.reduceSub, Nat.reduceMul, Int.reduceEq, Int.reduceBEq, Int.reduceBNe, Int.reduceLT, Int.reduceLE, Nat.reduceLT])
        · simp only [insR, hb, if_true] at q2
          have hCl := LMem.cells_len (r.reverse ++ y :: x :: (passed.reverse ++ rest))
          rw [hlen] at hCl
          have sw := swap_set r.reverse (passed.reverse ++ rest) x y
          rw [List.length_reverse] at sw
          have sp1 := LMem.splice (l := r.reverse ++ y :: x :: (passed.reverse ++ rest)) (j := r.length + 1) y (by omega)
          generalize hD1 : (r.reverse ++ y :: x :: (passed.reverse ++ rest)).set (r.length + 1) y = D1 at sp1 sw
          have hl1 : D1.length = N := by rw [← hD1, List.length_set, hlen]
          have sp2 := LMem.splice (l := D1) (j := r.length) x (by omega)
          rw [sw] at sp2
          simp only [show ∀ z, LMem.f z = memE z from fun _ => rfl, memE_cells, show LMem.sz = 6 from rfl] at sp1 sp2
          have hc1 : ((r.length + 1) * 6 + 6 ≤ (LMem.cells (r.reverse ++ y :: x :: (passed.reverse ++ rest))).length) = True := eq_true (by rw [hCl]; show _ ≤ N * 6; omega)
          have hc2 : (r.length * 6 + 6 ≤ (LMem.cells D1).length) = True := eq_true (by rw [LMem.cells_len, hl1]; show _ ≤ N * 6; omega)
          simp only [T13Fa, EXA, Nat.reduceEqDiff, reduceIte, reduceCtorEq, Nat.reduceAdd, Nat.reduceLeDiff, Nat.reduceSub, Nat.reduceMul, Int.reduceEq, Int.reduceBEq, Int.reduceBNe, Int.reduceLT, Int.reduceLE, Nat.reduceLT, VX, d1, d1', i1, i0, wp, hlk, rd1, rd0, hk, keyC_lt, hb, hwi, hc1, sp1, hc2, sp2]
          refine ih2 (r, passed ++ [y]) _ _ (by simp) ⟨by simp at q1 ⊢; omega, by simpa using q2, ?_, q4, ?_⟩ (by simp only [EXA, Nat.reduceEqDiff, reduceIte, reduceCtorEq, Nat.reduceAdd, Nat.reduceLeDiff, Nat.reduceSub, Nat.reduceMul, Int.reduceEq, Int.reduceBEq, Int.reduceBNe, Int.reduceLT, Int.reduceLE, Nat.reduceLT])
          · obtain ⟨o1, o2, o3, o4⟩ := q3
            refine ⟨?_, by simpa using LMem.cells_len (r.reverse ++ x :: ((passed ++ [y]).reverse ++ rest)), o3, by simp; omega⟩
            simp [Store.get, look]
          · intro b' hb'
            rw [← q5 b' hb']
            simp only [Store.get, look]
            rw [if_neg (fun hh => hb' hh.symm), if_neg (fun hh => hb' hh.symm)]
  obtain ⟨n, fr', σ1, h1, h2, h3⟩ := main
  exact ⟨σ1, callS_of (F := F72) rfl (first := []) (caps := []) ⟨n, fr', σ1, h1, h2, rfl⟩, h3⟩
end Go.Ab
/- Sorting, maps. -/
namespace Go.Ab
set_option maxHeartbeats 1000000
def T14Fb := @F39.eq_1
set_option maxRecDepth 100000
theorem c_ins0 (v : AV) (σ : Store) : callS ipU gU (.fn 72 [] []) [v, .int .i64 0, .int .i64 0, .fn 40 [] []] σ = some (.tup [], σ) := by
  refine callS_of (F := F72) rfl (first := []) (caps := []) ?_
  have w1 : IntKind.wrap .i64 (0 + 1) = ((1 : Nat) : Int) := by decide
  have d0 : decide (((1 : Nat) : Int) < 0) = false := rfl
  simp only [F72_4, F72_9, F72_15, F72_25, F72_26, F72, ex_loop, EXA, Nat.reduceEqDiff, reduceIte, reduceCtorEq, Nat.reduceAdd, Nat.reduceLeDiff, Nat.reduceSub, Nat.reduceMul, Int.reduceEq, Int.reduceBEq, Int.reduceBNe, Int.reduceLT, Int.reduceLE, Nat.reduceLT, w1, d0]
/-- What a copy of some members is. -/
def cpy (σ : Store) (l : List Mem) : AV := if l = [] then .vsl [] (some 0) else .sl σ.next 0 l.length 6 none
def cpyS (σ : Store) (l : List Mem) : Store := if l = [] then σ else σ.alloc (LMem.cells l)
theorem c_clone2 (l : List Mem) (c : Option Nat) (σ : Store) (hb : l.length < lim) : callM ipU gU .split (.fn 38 [] []) [.vsl (l.map memE) c] σ = some (cpy σ l, cpyS σ l) := by
  unfold lim at hb
  cases l with
  | nil =>
    have hb2 : both ipU gU (.fn 38 [] []) σ = true := both_of 100 (by kernel_rfl) (by kernel_rfl)
    simp only [callM, List.map_nil, noItems, if_true, hb2, cpy, cpyS]
  | cons x l =>
    have hro : ∀ σ', rowOf σ' 6 (.vsl ((x :: l).map memE) c) = some (LMem.cells (x :: l)) := fun σ' => LMem.rowOf σ' (x :: l) c
    have ha : appendTo σ 6 96 (.vsl [] (some 0)) (LMem.cells (x :: l)) (l.length + 1) = some (.sl σ.next 0 (l.length + 1) 6 none, σ.alloc (LMem.cells (x :: l))) :=
      app00 (by omega) (by omega) (by unfold maxBytes; simp at hb; omega) (LMem.cells_len (x :: l)) (LMem.cells_one _) (by omega)
    have hn : noItems [.vsl ((x :: l).map memE) c] = false := rfl
    simp only [callM, hn, Bool.false_eq_true, if_false]
    refine callS_of (F := F38) rfl (first := []) (caps := []) ?_
    simp only [List.map_cons] at hro
    simp only [F38, EXA, Nat.reduceEqDiff, reduceIte, reduceCtorEq, Nat.reduceAdd, Nat.reduceLeDiff, Nat.reduceSub, Nat.reduceMul, Int.reduceEq, Int.reduceBEq, Int.reduceBNe, Int.reduceLT, Int.reduceLE, Nat.reduceLT, VX, lenOf_vsl, hro, ha]
    simp [Store.alloc, cpy, cpyS]
theorem cpy_own {σ : Store} {l : List Mem} (h : l ≠ []) : Own LMem (cpyS σ l) (some σ.next) l := by
  have hl : 0 < l.length := List.length_pos_iff.2 h
  rw [cpyS, if_neg h]
  exact ⟨get_alloc_next, LMem.cells_len l, by simp [next_alloc], hl⟩
theorem sortM_len (l : List Mem) : (sortM l).length = l.length := by simp [sortM, sortR_len]
theorem c_sort (l : List Mem) (σ : Store) (hb : l.length < 20) : ∃ σ', callS ipU gU (.fn 39 [] []) [cpy σ l, .fn 40 [] []] (cpyS σ l) = some (.tup [], σ') ∧
    (if l = [] then σ' = σ else Own LMem σ' (some σ.next) (sortM l)) ∧ Grown σ σ' ∧ σ'.next ≤ σ.next + 1 := by
  have d1 : decide ((20 : Int) ≤ (l.length : Int)) = false := by simp; omega
  have d2 : decide ((20 : Int) < (l.length : Int)) = false := by simp; omega
  have h60 : ∀ (v : AV) (τ τ' : Store), callS ipU gU (.fn 72 [] []) [v, .int .i64 0, .int .i64 (l.length : Int), .fn 40 [] []] τ = some (.tup [], τ') →
      callS ipU gU (.fn 60 [] []) [v, .int .i64 (l.length : Int), .fn 40 [] []] τ = some (.tup [], τ') := by
    intro v τ τ' hc
    refine callS_of (F := F60) rfl (first := []) (caps := []) ?_
    simp only [F60_27, F60_36, F60, ex_loop, EXA, Nat.reduceEqDiff, reduceIte, reduceCtorEq, Nat.reduceAdd, Nat.reduceLeDiff, Nat.reduceSub, Nat.reduceMul, Int.reduceEq, Int.reduceBEq, Int.reduceBNe, Int.reduceLT, Int.reduceLE, Nat.reduceLT, d1, d2, hc]
  by_cases h0 : l = []
  · subst h0
    refine ⟨σ, ?_, by rw [if_pos rfl], Grown.refl _, by omega⟩
    have h := h60 (.vsl [] (some 0)) σ σ (c_ins0 _ _)
    refine callS_of (F := F39) rfl (first := []) (caps := []) ?_
    simp only [cpy, cpyS, if_true]
    simp only [T14Fb, EXA, Nat.reduceEqDiff, reduceIte, reduceCtorEq, Nat.reduceAdd, Nat.reduceLeDiff, Nat.reduceSub, Nat.reduceMul, Int.reduceEq, Int.reduceBEq, Int.reduceBNe, Int.reduceLT, Int.reduceLE, Nat.reduceLT, VX] at h ⊢
    simp only [h, EXA, Nat.reduceEqDiff, reduceIte, reduceCtorEq, Nat.reduceAdd, Nat.reduceLeDiff, Nat.reduceSub, Nat.reduceMul, Int.reduceEq, Int.reduceBEq, Int.reduceBNe, Int.reduceLT, Int.reduceLE, Nat.reduceLT]
  · have ho := cpy_own (σ := σ) h0
    obtain ⟨σ', h1, h2, h3, h4⟩ := c_ins σ.next l.length l (cpyS σ l) rfl (by omega) ho
    have h := h60 _ _ _ h1
    have hn : (cpyS σ l).next = σ.next + 1 := by rw [cpyS, if_neg h0]; rfl
    refine ⟨σ', ?_, by rw [if_neg h0]; exact h2, ⟨by omega, fun b hb' => ?_⟩, by omega⟩
    · refine callS_of (F := F39) rfl (first := []) (caps := []) ?_
      simp only [cpy, if_neg h0]
      simp only [T14Fb, EXA, Nat.reduceEqDiff, reduceIte, reduceCtorEq, Nat.reduceAdd, Nat.reduceLeDiff, Nat.reduceSub, Nat.reduceMul, Int.reduceEq, Int.reduceBEq, Int.reduceBNe, Int.reduceLT, Int.reduceLE, Nat.reduceLT, VX, h]
    · rw [h4 b (by omega), cpyS, if_neg h0, get_alloc hb']
end Go.Ab
/- value.Map. -/
namespace Go.Ab
set_option maxHeartbeats 1000000
def T15Fa := J @F20_5.eq_1 (J @F20_21.eq_1 (J @F20_22.eq_1 (@F20.eq_1)))
set_option maxRecDepth 100000
/-- A slice that was begun behind σ0 holds a list; what was at σ0 is as it was. -/
structure Acc {α : Type} (L : Lay α) (σ0 σ : Store) (v : AV) (l : List α) : Prop where
  gr : Gr L σ v l
  far : ∀ b o len sz c, v = .sl b o len sz c → σ0.next ≤ b
  grown : Grown σ0 σ
theorem Acc.newset {α : Type} {L : Lay α} {σ0 σ : Store} {v : AV} {l : List α} (h : Acc L σ0 σ v l) (cs cs' : List AV) : Acc L σ0 { next := σ.next + 1, m := (σ.next, .own cs) :: (σ.next, .own cs') :: σ.m } v l where
  gr := h.gr.newset cs cs'
  far := h.far
  grown := ⟨by have := h.grown.1; simp; omega, fun b hb => by
    rw [← h.grown.2 b hb]
    have := h.grown.1
    show look ((σ.next, Blk.own cs) :: (σ.next, .own cs') :: σ.m) b = look σ.m b
    simp only [look]; rw [if_neg (by omega), if_neg (by omega)]⟩
theorem Acc.app {α : Type} {L : Lay α} {σ0 σ : Store} {v : AV} {l m : List α} (h : Acc L σ0 σ v l) (hm : 0 < m.length) : Acc L σ0 (grNext L σ v l m) (.sl σ.next 0 (l ++ m).length L.sz none) (l ++ m) where
  gr := Gr.own (h.gr.next hm)
  far := fun b o len sz c he => by simp only [AV.sl.injEq] at he; have := h.grown.1; omega
  grown := ⟨by rw [grNext_next]; have := h.grown.1; omega, fun b hb => by
    have h1 := h.grown.1
    rw [grNext_get h.gr (by omega) (fun len sz c he => by have := h.far _ _ _ _ _ he; omega)]
    exact h.grown.2 b hb⟩
def dedupM : List Mem → List Mem
  | [] => []
  | [x] => [x]
  | x :: y :: r => if y.1 = x.1 then dedupM (y :: r) else x :: dedupM (y :: r)
def mapOf (l : List Mem) : V := V.mk 5 0 [] [] (dedupM (sortM l))
theorem dedupM_len : ∀ l : List Mem, (dedupM l).length ≤ l.length
  | [] => by simp [dedupM]
  | [x] => by simp [dedupM]
  | x :: y :: r => by
    have := dedupM_len (y :: r)
    simp only [dedupM]
    split <;> simp at this ⊢ <;> omega
theorem r_Map (l : List Mem) (hb : l.length < 20) : cR 20 [.vsl (l.map memE) none] = some (mapOf l).enc := by
  refine cR_of (F := F20) rfl ?_
  simp only [F20_5, F20_21, F20, ex_loop, EXA, Nat.reduceEqDiff, reduceIte, reduceCtorEq, Nat.reduceAdd, Nat.reduceLeDiff, Nat.reduceSub, Nat.reduceMul, Int.reduceEq, Int.reduceBEq, Int.reduceBNe, Int.reduceLT, Int.reduceLE, Nat.reduceLT, VX]
  have h1 := c_clone2 l none ⟨1, [(0, .own [.int .i64 0, .int .i64 0, .str [], .nils, .nils])]⟩ (by unfold lim; omega)
  obtain ⟨σ1, h2, h3, h4, h5⟩ := c_sort l ⟨1, [(0, .own [.int .i64 0, .int .i64 0, .str [], .nils, .nils])]⟩ hb
  have hN := sortM_len l
  have hlen : lenL (cpy ⟨1, [(0, .own [.int .i64 0, .int .i64 0, .str [], .nils, .nils])]⟩ l) = some (.int .i64 (l.length : Int)) := by
    unfold cpy
    split
    · rename_i h; subst h; rfl
    · rfl
  have hidx : ∀ j : Nat, j < l.length → idxOf 6 none (cpy ⟨1, [(0, .own [.int .i64 0, .int .i64 0, .str [], .nils, .nils])]⟩ l) (.int .i64 (j : Int)) = some (.ptr 1 (j * 6)) := by
    intro j hj
    have h0 : l ≠ [] := by rintro rfl; simp at hj
    unfold cpy
    rw [if_neg h0]
    simp [idxOf, hj]
  generalize cpy ⟨1, [(0, .own [.int .i64 0, .int .i64 0, .str [], .nils, .nils])]⟩ l = cv at h1 h2 hlen hidx
  simp only [h1]
  simp only [ex_loop, EXA, Nat.reduceEqDiff, reduceIte, reduceCtorEq, Nat.reduceAdd, Nat.reduceLeDiff, Nat.reduceSub, Nat.reduceMul, Int.reduceEq, Int.reduceBEq, Int.reduceBNe, Int.reduceLT, Int.reduceLE, Nat.reduceLT, VX, h2, hlen]
  unfold mapOf
  generalize hS : sortM l = S at h3 hN ⊢
  have z0 : σ1.get 0 = some (.own [.int .i64 0, .int .i64 0, .str [], .nils, .nils]) := h4.2 0 (by simp)
  have hnx : 1 ≤ σ1.next := h4.1
  have own1 : ∀ j : Nat, j < l.length → Own LMem σ1 (some 1) S := by
    intro j hj
    have h0 : l ≠ [] := by rintro rfl; simp at hj
    rw [if_neg h0] at h3
    exact h3
  refine ex_whileI (S := Nat × List Mem × AV) (fun p => [(0, cv), (2, .ptr 0 0), (3, p.2.2), (10, cv), (11, .int .i64 (l.length : Int)), (12, .int .i64 (p.1 : Int))]) (fun p => l.length - p.1)
    (fun p τ => Acc LMem σ1 τ p.2.2 p.2.1 ∧ p.2.1 ++ dedupM (S.drop p.1) = dedupM S ∧ p.2.1.length ≤ p.1) ?_ (0, [], .nils) σ1 ⟨⟨Gr.nil _ _, fun b o len sz c h => by simp at h, Grown.refl _⟩, by simp, by simp⟩
  rintro b ⟨j, acc, ov⟩ τ ⟨k1, k2, k3⟩ ih
  simp only at k1 k2 k3 ih ⊢
  by_cases hlt : j < l.length
  · obtain ⟨x, hx⟩ := get_lt (l := S) (j := j) (by omega)
    have hcond := dlt hlt
    have ho := own1 j hlt
    have hb1 : 1 < σ1.next := ho.lt
    have hg1 : τ.get 1 = some (.own (LMem.cells S)) := by rw [k1.grown.2 1 hb1]; exact ho.1
    have hlk := look_get hg1
    have hne : (τ.next = 1) = False := eq_false (by have := k1.grown.1; omega)
    have rd : readAt (LMem.cells S) (j * 6) (some 6) = some (memE x) := LMem.read hx (by decide)
    have hi := hidx j hlt
    have hw := wsucc (j := j) (n := 64) (by omega) (by omega)
    have hns := k1.newset
    have hlo : lenOf (.vsl [memE x] (some 1)) = some 1 := rfl
    have hro : ∀ σ', rowOf σ' 6 (.vsl [memE x] (some 1)) = some (memE x).cells := fun σ' => by
      have := LMem.rowOf σ' [x] (some 1)
      simpa [Lay.cells, LMem] using this
    rw [drop_cons hx] at k2
    by_cases hlast : j + 1 = l.length
    · have q1 : (((j + 1 : Nat) : Int) == (l.length : Int)) = true := by simp; omega
      have hd : S.drop (j + 1) = [] := List.drop_eq_nil_of_le (by omega)
      rw [hd] at k2
      have happ : ∀ cs cs', appendTo _ 6 96 ov (memE x).cells 1 = some _ := fun cs cs' => (hns cs cs').gr.push (a := x) (bytes := 96) (by omega) (by unfold maxBytes; omega)
      simp only [memE_cells] at happ hro
      simp only [T15Fa, EXA, Nat.reduceEqDiff, reduceIte, reduceCtorEq, Nat.reduceAdd, Nat.reduceLeDiff, Nat.reduceSub, Nat.reduceMul, Int.reduceEq, Int.reduceBEq, Int.reduceBNe, Int.reduceLT, Int.reduceLE, Nat.reduceLT, VX, readAt_some, hcond, hi, hlk, hne, rd, hw, hlen, q1, hlo, hro, happ]
      refine ih (j + 1, acc ++ [x], _) _ _ (by simp; omega) ⟨(hns _ _).app (by simp), ?_, by simp; omega⟩ (by simp only [EXA, Nat.reduceEqDiff, reduceIte, reduceCtorEq, Nat.reduceAdd, Nat.reduceLeDiff, Nat.reduceSub, Nat.reduceMul, Int.reduceEq, Int.reduceBEq, Int.reduceBNe, Int.reduceLT, Int.reduceLE, Nat.reduceLT])
      rw [hd]
      simpa [dedupM] using k2
    · have q1 : (((j + 1 : Nat) : Int) == (l.length : Int)) = false := by
        rw [beq_eq_false_iff_ne]; omega
      obtain ⟨y, hy⟩ := get_lt (l := S) (j := j + 1) (by omega)
      have hi2 := hidx (j + 1) (by omega)
      have hy0 : readAt (LMem.cells S) ((j + 1) * 6) none = some (.str y.1) := by
        have := LMem.read hy (by decide)
        show (LMem.cells S)[(j + 1) * 6]? = _
        have e := LMem.drop (l := S) (j := j + 1) (by omega)
        rw [drop_cons hy, LMem.cells_cons] at e
        have e2 : ((LMem.cells S).drop ((j + 1) * 6))[0]? = some (.str y.1) := by
          show ((LMem.cells S).drop ((j + 1) * LMem.sz))[0]? = _
          rw [e]
          show ((memE y).cells ++ _)[0]? = _
          rw [memE_cells]; rfl
        rw [List.getElem?_drop] at e2
        simpa using e2
      rw [drop_cons hy] at k2
      have hy1 : (LMem.cells S)[(j + 1) * 6]? = some (.str y.1) := hy0
      by_cases hxy : y.1 = x.1
      · have q2 : (!(y.1 == x.1)) = false := by simp [hxy]
        simp only [dedupM, hxy, if_true] at k2
        simp only [T15Fa, EXA, Nat.reduceEqDiff, reduceIte, reduceCtorEq, Nat.reduceAdd, Nat.reduceLeDiff, Nat.reduceSub, Nat.reduceMul, Int.reduceEq, Int.reduceBEq, Int.reduceBNe, Int.reduceLT, Int.reduceLE, Nat.reduceLT, VX, readAt_some, hcond, hi, hlk, hne, rd, hw, hlen, q1, hi2, hy1, q2]
        refine ih (j + 1, acc, ov) _ _ (by simp; omega) ⟨hns _ _, ?_, by simp; omega⟩ (by simp only [EXA, Nat.reduceEqDiff, reduceIte, reduceCtorEq, Nat.reduceAdd, Nat.reduceLeDiff, Nat.reduceSub, Nat.reduceMul, Int.reduceEq, Int.reduceBEq, Int.reduceBNe, Int.reduceLT, Int.reduceLE, Nat.reduceLT])
        rw [drop_cons hy]; exact k2
      · have q2 : (!(y.1 == x.1)) = true := by simp [hxy]
        simp only [dedupM, hxy, if_false] at k2
        have happ : ∀ cs cs', appendTo _ 6 96 ov (memE x).cells 1 = some _ := fun cs cs' => (hns cs cs').gr.push (a := x) (bytes := 96) (by omega) (by unfold maxBytes; omega)
        simp only [memE_cells] at happ hro
        simp only [T15Fa, EXA, Nat.reduceEqDiff, reduceIte, reduceCtorEq, Nat.reduceAdd, Nat.reduceLeDiff, Nat.reduceSub, Nat.reduceMul, Int.reduceEq, Int.reduceBEq, Int.reduceBNe, Int.reduceLT, Int.reduceLE, Nat.reduceLT, VX, readAt_some, hcond, hi, hlk, hne, rd, hw, hlen, q1, hi2, hy1, q2, hlo, hro, happ]
        refine ih (j + 1, acc ++ [x], _) _ _ (by simp; omega) ⟨(hns _ _).app (by simp), ?_, by simp; omega⟩ (by simp only [EXA, Nat.reduceEqDiff, reduceIte, reduceCtorEq, Nat.reduceAdd, Nat.reduceLeDiff, Nat.reduceSub, Nat.reduceMul, Int.reduceEq, Int.reduceBEq, Int.reduceBNe, Int.reduceLT, Int.reduceLE, Nat.reduceLT])
        rw [drop_cons hy]
        simpa using k2
  · have hcond := dge (Nat.not_lt.1 hlt)
    have hd : S.drop j = [] := List.drop_eq_nil_of_le (by omega)
    rw [hd] at k2
    simp only [dedupM, List.append_nil] at k2
    obtain ⟨p1, p2, p3, p4⟩ := k1.gr.plain
    have hlk0 := look_get ((k1.grown.2 0 (by omega)).trans z0)
    have hg2 : Gr LMem { next := τ.next, m := (0, .own [.int .i64 5, .int .i64 0, .str [], .nils, ov]) :: τ.m } ov acc := by
      rcases k1.gr with h | ⟨b', rfl, h⟩ | h
      · exact .inl h
      · have hb1 := k1.far b' _ _ _ _ rfl
        exact Gr.own (h.frame (by show look ((0, _) :: τ.m) b' = _; simp only [look]; rw [if_neg (by omega)]; rfl) (Nat.le_refl _))
      · exact .inr (.inr h)
    have hrb := RbL.agg (RbL.clo (x := .int .i64 5) rfl (RbL.clo (x := .int .i64 0) rfl (RbL.clo (x := .str []) rfl (RbL.clo (x := .nils) rfl (RbL.gr hg2 (RbL.nil _ 23))))))
    simp only [T15Fa, EXA, Nat.reduceEqDiff, reduceIte, reduceCtorEq, Nat.reduceAdd, Nat.reduceLeDiff, Nat.reduceSub, Nat.reduceMul, Int.reduceEq, Int.reduceBEq, Int.reduceBNe, Int.reduceLT, Int.reduceLE, Nat.reduceLT, VX, readAt_some, hcond, p1, p2, p3, p4, hlk0, hrb]
    rw [← k2]
    exact V.fold1 5 0 [] acc
end Go.Ab
/- Members looked up, in order. -/
namespace Go.Ab
set_option maxHeartbeats 1000000
set_option maxRecDepth 100000
def lookM : List Mem → Bs → Option V
  | [], _ => none
  | x :: r, k => if x.1 = k then some x.2 else lookM r k
def Rises (m : List Mem) : Prop := m.Pairwise fun x y => bytesLess x.1 y.1 = true
theorem keyAt_of {m : List Mem} {i : Nat} {x : Mem} (h : m[i]? = some x) : keyAt m i = x.1 := by simp [keyAt, h]
theorem rises_get {m : List Mem} (h : Rises m) {i j : Nat} (hij : i < j) (hj : j < m.length) : bytesLess (keyAt m i) (keyAt m j) = true := by
  have hi : i < m.length := by omega
  rw [keyAt_of (List.getElem?_eq_getElem hi), keyAt_of (List.getElem?_eq_getElem hj)]
  exact List.pairwise_iff_getElem.1 h i j hi hj hij
theorem bsF_spec {m : List Mem} {k : Bs} (h : Rises m) : ∀ (n i j : Nat), j - i ≤ n → i ≤ j → j ≤ m.length → (∀ t, t < i → bytesLess (keyAt m t) k = true) → (∀ t, j ≤ t → t < m.length → bytesLess (keyAt m t) k = false) →
    i ≤ bsF m k i j ∧ bsF m k i j ≤ j ∧ (∀ t, t < bsF m k i j → bytesLess (keyAt m t) k = true) ∧ (∀ t, bsF m k i j ≤ t → t < m.length → bytesLess (keyAt m t) k = false) := by
  intro n
  induction n with
  | zero =>
    intro i j h1 h2 h3 h4 h5
    have : i = j := by omega
    subst this
    have e : bsF m k i i = i := by rw [bsF, if_neg (Nat.lt_irrefl _)]
    rw [e]; exact ⟨Nat.le_refl _, Nat.le_refl _, h4, h5⟩
  | succ n ih =>
    intro i j h1 h2 h3 h4 h5
    by_cases hij : i < j
    · obtain ⟨c, hc⟩ : ∃ c, c = (i + j) / 2 := ⟨_, rfl⟩
      have hstep : bsF m k i j = if bytesLess (keyAt m c) k = true then bsF m k (c + 1) j else bsF m k i c := by rw [bsF, if_pos hij, ← hc]
      rw [hstep]
      by_cases hb : bytesLess (keyAt m c) k = true
      · rw [if_pos hb]
        obtain ⟨g1, g2, g3, g4⟩ := ih (c + 1) j (by omega) (by omega) h3 (fun t ht => by
          by_cases htc : t = c
          · rw [htc]; exact hb
          · exact bl_trans (rises_get h (show t < c by omega) (by omega)) hb) h5
        exact ⟨by omega, g2, g3, g4⟩
      · rw [if_neg hb]
        have hb' : bytesLess (keyAt m c) k = false := by simpa using hb
        obtain ⟨g1, g2, g3, g4⟩ := ih i c (by omega) (by omega) (by omega) h4 (fun t ht htl => by
          by_cases htc : t = c
          · rw [htc]; exact hb'
          · cases hh : bytesLess (keyAt m t) k
            · rfl
            · rw [bl_trans (rises_get h (show c < t by omega) htl) hh] at hb'; simp at hb')
        exact ⟨g1, by omega, g3, g4⟩
    · have : i = j := by omega
      subst this
      have e : bsF m k i i = i := by rw [bsF, if_neg (Nat.lt_irrefl _)]
      rw [e]; exact ⟨Nat.le_refl _, Nat.le_refl _, h4, h5⟩
theorem lookM_some {k : Bs} {v : V} : ∀ {m : List Mem}, lookM m k = some v → ∃ i : Nat, m[i]? = some (k, v)
  | x :: r, h => by
    simp only [lookM] at h
    split at h
    · rename_i hk
      obtain ⟨a, b⟩ := x
      simp only [Option.some.injEq] at h hk
      exact ⟨0, by simp [h, hk]⟩
    · obtain ⟨i, hi⟩ := lookM_some h
      exact ⟨i + 1, by simpa using hi⟩
theorem lookM_none {k : Bs} : ∀ {m : List Mem}, lookM m k = none → ∀ (i : Nat) (x : Mem), m[i]? = some x → x.1 ≠ k
  | [], _, i, x, h => by simp at h
  | y :: r, h, i, x, hx => by
    simp only [lookM] at h
    split at h
    · simp at h
    · rename_i hk
      cases i with
      | zero => simp at hx; rw [← hx]; exact hk
      | succ i => exact lookM_none h i x (by simpa using hx)
/-- Get, where keys rise: the member of that key. -/
theorem getV_rises {v : V} (k : Bs) (h5 : v.kind = 5) (hr : Rises v.m) : getV v k = match lookM v.m k with | some x => (x, true) | none => (V.zero, false) := by
  obtain ⟨g1, g2, g3, g4⟩ := bsF_spec (k := k) hr v.m.length 0 v.m.length (by omega) (by omega) (Nat.le_refl _) (fun t ht => by omega) (fun t h1 h2 => by omega)
  unfold getV placeV
  rw [if_pos h5]
  simp only
  generalize bsF v.m k 0 v.m.length = i at g1 g2 g3 g4
  cases hl : lookM v.m k with
  | some x =>
    obtain ⟨j, hj⟩ := lookM_some hl
    have lj := lt_of_get hj
    have hji : j = i := by
      rcases Nat.lt_trichotomy j i with h1 | h1 | h1
      · have := g3 j h1
        rw [keyAt_of hj, bl_irrefl] at this; simp at this
      · exact h1
      · have h2 := rises_get hr h1 lj
        rw [keyAt_of hj] at h2
        have h3 := g4 i (Nat.le_refl _) (by omega)
        rw [h2] at h3; simp at h3
    subst hji
    have hk : keyAt v.m j = k := keyAt_of hj
    simp only [lj, decide_true, Bool.true_and, hk, beq_self_eq_true, hj]
  | none =>
    by_cases hi : i < v.m.length
    · obtain ⟨x, hx⟩ := get_lt hi
      have hne : (keyAt v.m i == k) = false := by
        rw [beq_eq_false_iff_ne, keyAt_of hx]; exact lookM_none hl i x hx
      simp only [hne, Bool.and_false]
    · simp only [hi, decide_false, Bool.false_and]
theorem getV_other {v : V} (k : Bs) (h5 : v.kind ≠ 5) : getV v k = (V.zero, false) := by
  unfold getV placeV
  rw [if_neg h5]
/-- Keys of a good map rise. -/
theorem fineM_rises : ∀ (m : List Mem) (p : Option Bs), fineM p m = true → Rises m ∧ ∀ q, p = some q → ∀ x ∈ m, bytesLess q x.1 = true
  | [], p, _ => ⟨List.Pairwise.nil, fun q _ x hx => by simp at hx⟩
  | (k, v) :: r, p, h => by
    rw [fineM_cons] at h
    simp only [Bool.and_eq_true] at h
    obtain ⟨h1, h2, h3, h4⟩ := h
    obtain ⟨i1, i2⟩ := fineM_rises r (some k) h4
    refine ⟨List.Pairwise.cons (fun x hx => i2 k rfl x hx) i1, fun q hq x hx => ?_⟩
    subst hq
    rcases List.mem_cons.1 hx with rfl | hx
    · exact h2
    · exact bl_trans h2 (i2 k rfl x hx)
theorem fine_rises {v : V} (h5 : v.kind = 5) (h : v.fine = true) : Rises v.m := by
  rw [V.fine_eq, h5] at h
  simp at h
  exact (fineM_rises v.m none h.2).1
theorem fineM_mem : ∀ {m : List Mem} {p : Option Bs}, fineM p m = true → ∀ x ∈ m, x.2.fine = true ∧ vu x.1 = true
  | (k, v) :: r, p, h, x, hx => by
    rw [fineM_cons] at h
    simp only [Bool.and_eq_true] at h
    obtain ⟨h1, h2, h3, h4⟩ := h
    rcases List.mem_cons.1 hx with rfl | hx
    · exact ⟨h3, h1⟩
    · exact fineM_mem h4 x hx
end Go.Ab
/- Lists of texts held against each other; what RulesAllows makes. -/
namespace Go.Ab
set_option maxHeartbeats 1000000
def T16Fa := J @F10_11.eq_1 (J @F10_22.eq_1 (J @F10_23.eq_1 (@F10.eq_1)))
def T16Fb := J @F10_11.eq_1 (J @F10_22.eq_1 (@F10.eq_1))
set_option maxRecDepth 100000
theorem idx_str {l : List Bs} {j : Nat} {s : Bs} {c : Option Nat} (h : l[j]? = some s) : idxOf 1 none (.vsl (l.map AV.str) c) (.int .i64 (j : Int)) = some (.vptr [.str s] 0) := idx_map (f := AV.str) h rfl
theorem neLen {a b : Nat} : ((a : Int) != (b : Int)) = !(decide (a = b)) := by
  by_cases h : a = b
  · simp [h]
  · have : (a : Int) ≠ (b : Int) := by omega
    simp [h, this]
theorem r_Texts (l m : List Bs) (hb : l.length < big) : cR 10 [.vsl (l.map .str) none, .vsl (m.map .str) none] = some (.bool (l == m)) := by
  unfold big at hb
  refine cR_of (F := F10) rfl ?_
  by_cases hl : l.length = m.length
  · have hd : (!decide (l.length = m.length)) = false := by simp [hl]
    simp only [T16Fb, ex_loop, EXA, Nat.reduceEqDiff, reduceIte, reduceCtorEq, Nat.reduceAdd, Nat.reduceLeDiff, Nat.reduceSub, Nat.reduceMul, Int.reduceEq, Int.reduceBEq, Int.reduceBNe, Int.reduceLT, Int.reduceLE, Nat.reduceLT, VX, neLen, hd]
    refine ex_while (S := Nat) (fun j => [(0, .vsl (l.map .str) none), (1, .vsl (m.map .str) none), (5, .int .i64 (j : Int))]) (fun _ => .empty) (fun j => l.length - j) (fun j => (l.drop j == m.drop j) = (l == m)) ?_ 0 rfl
    intro b j hj ih
    by_cases hlt : j < l.length
    · obtain ⟨x, hx⟩ := get_lt hlt
      obtain ⟨y, hy⟩ := get_lt (l := m) (j := j) (by omega)
      have i1 := idx_str (c := none) hx
      have i2 := idx_str (c := none) hy
      have hcond := dlt hlt
      rw [drop_cons hx, drop_cons hy] at hj
      by_cases hxy : x = y
      · subst hxy
        have hxx : (!(x == x)) = false := by simp
        simp only [T16Fa, EXA, Nat.reduceEqDiff, reduceIte, reduceCtorEq, Nat.reduceAdd, Nat.reduceLeDiff, Nat.reduceSub, Nat.reduceMul, Int.reduceEq, Int.reduceBEq, Int.reduceBNe, Int.reduceLT, Int.reduceLE, Nat.reduceLT, VX, hcond, i1, i2, hxx]
        refine ih (j + 1) _ _ (by omega) ?_ ?_ rfl
        · rw [← hj]; simp
        · rw [wsucc hlt (by omega)]; simp only [EXA, Nat.reduceEqDiff, reduceIte, reduceCtorEq, Nat.reduceAdd, Nat.reduceLeDiff, Nat.reduceSub, Nat.reduceMul, Int.reduceEq, Int.reduceBEq, Int.reduceBNe, Int.reduceLT, Int.reduceLE, Nat.reduceLT]
      · have hxx : (!(x == y)) = true := by simp [hxy]
        have hb : (l == m) = false := by rw [← hj]; simp [hxy]
        simp only [T16Fa, EXA, Nat.reduceEqDiff, reduceIte, reduceCtorEq, Nat.reduceAdd, Nat.reduceLeDiff, Nat.reduceSub, Nat.reduceMul, Int.reduceEq, Int.reduceBEq, Int.reduceBNe, Int.reduceLT, Int.reduceLE, Nat.reduceLT, VX, hcond, i1, i2, hxx, hb]
    · have hcond := dge (Nat.not_lt.1 hlt)
      have hb : (l == m) = true := by
        rw [← hj, List.drop_eq_nil_of_le (by omega), List.drop_eq_nil_of_le (by omega)]; rfl
      simp only [T16Fa, EXA, Nat.reduceEqDiff, reduceIte, reduceCtorEq, Nat.reduceAdd, Nat.reduceLeDiff, Nat.reduceSub, Nat.reduceMul, Int.reduceEq, Int.reduceBEq, Int.reduceBNe, Int.reduceLT, Int.reduceLE, Nat.reduceLT, VX, hcond, hb]
  · have hd : (!decide (l.length = m.length)) = true := by simp [hl]
    have hb : (l == m) = false := by
      rw [beq_eq_false_iff_ne]; rintro rfl; exact hl rfl
    simp only [T16Fb, EXA, Nat.reduceEqDiff, reduceIte, reduceCtorEq, Nat.reduceAdd, Nat.reduceLeDiff, Nat.reduceSub, Nat.reduceMul, Int.reduceEq, Int.reduceBEq, Int.reduceBNe, Int.reduceLT, Int.reduceLE, Nat.reduceLT, VX, neLen, hd, hb]
end Go.Ab
/- The document's: the event of a slot, slots alike, a slot among others. -/
namespace Go.Ab
set_option maxHeartbeats 1000000
set_option maxRecDepth 100000
end Go.Ab
/- The document's depth of a value. -/
namespace Go.Ab
set_option maxHeartbeats 1000000
set_option maxRecDepth 100000
end Go.Ab
/- The document's: what a value may be. -/
namespace Go.Ab
set_option maxHeartbeats 1000000
set_option maxRecDepth 100000
end Go.Ab
/- The document's: what a list, a map may be. -/
namespace Go.Ab
set_option maxHeartbeats 1000000
set_option maxRecDepth 100000
end Go.Ab
/- The document's: what a map may be. -/
namespace Go.Ab
set_option maxHeartbeats 1000000
set_option maxRecDepth 100000
end Go.Ab
/- What is the same is found the same. -/
namespace Go.Ab
set_option maxHeartbeats 1000000
def S2Fa := J @F11_1.eq_1 (@F11.eq_1)
def S2Fc := J @F35_11.eq_1 (J @F35_22.eq_1 (J @F35_23.eq_1 (J @F35_32.eq_1 (J @F35_43.eq_1 (J @F35_44.eq_1 (J @F35_48.eq_1 (J @F35_51.eq_1 (J @F35_52.eq_1 (@F35.eq_1)))))))))
def S2Ff := J @F35_11.eq_1 (J @F35_22.eq_1 (J @F35_23.eq_1 (J @F35_32.eq_1 (J @F35_43.eq_1 (J @F35_44.eq_1 (J @F35_48.eq_1 (J @F35_51.eq_1 (@F35.eq_1))))))))
set_option maxRecDepth 100000
theorem bsB (s : Bs) : (s == s) = true := by simp
theorem bsN (s : Bs) : (!(s == s)) = false := by simp
theorem intB (n : Int) : (n == n) = true := by simp
theorem intN (n : Int) : (n != n) = false := by simp
theorem natN (n : Nat) : (!decide (n = n)) = false := by simp
theorem boolB (n : Bool) : (n == n) = true := by simp
theorem same_tail (v : V) (σ : Store) (hb : v.sz < big) (ih : ∀ x ∈ v.m, cR 35 [x.2.enc, x.2.enc] = some (.bool true)) {r : AV} (hr : r = .bool true) :
    Ex ipU gU [.code F35_52] [(2, .vptr [.int .i64 v.kind, .int .i64 v.n, .str v.s, .vsl (v.l.map V.enc) none, .vsl (v.m.map memE) none] 0), (3, .vptr [.int .i64 v.kind, .int .i64 v.n, .str v.s, .vsl (v.l.map V.enc) none, .vsl (v.m.map memE) none] 0)] σ fun fr' σ1 => (resAll fr' σ1 F35.res).bind (rbE σ1) = some r := by
  have hm := m_len_sz v
  unfold big at hb
  simp only [F35_11, F35_22, F35_23, F35_32, F35_43, F35_48, F35_51, F35_52, F35, ex_loop, EXA, Nat.reduceEqDiff, reduceIte, reduceCtorEq, Nat.reduceAdd, Nat.reduceLeDiff, Nat.reduceSub, Nat.reduceMul, Int.reduceEq, Int.reduceBEq, Int.reduceBNe, Int.reduceLT, Int.reduceLE, Nat.reduceLT, VX, readAt_some]
  refine ex_while (S := Nat) (fun j => [(2, .vptr [.int .i64 v.kind, .int .i64 v.n, .str v.s, .vsl (v.l.map V.enc) none, .vsl (v.m.map memE) none] 0), (3, .vptr [.int .i64 v.kind, .int .i64 v.n, .str v.s, .vsl (v.l.map V.enc) none, .vsl (v.m.map memE) none] 0), (6, .int .i64 (j : Int))]) (fun _ => σ) (fun j => v.m.length - j) (fun _ => True) ?_ 0 trivial
  intro b j _ ih2
  by_cases hlt : j < v.m.length
  · obtain ⟨x, hx⟩ := get_lt hlt
    have hidx := idx_map (f := memE) (sz := 6) (c := none) hx (by simp [memE_cells])
    have hcond := dlt hlt
    have hw := wsucc hlt (by omega)
    have hcall := ih x (List.mem_of_getElem? hx)
    simp only [S2Fc, EXA, Nat.reduceEqDiff, reduceIte, reduceCtorEq, Nat.reduceAdd, Nat.reduceLeDiff, Nat.reduceSub, Nat.reduceMul, Int.reduceEq, Int.reduceBEq, Int.reduceBNe, Int.reduceLT, Int.reduceLE, Nat.reduceLT, VX, readAt_some, hcond, hidx, bsN, bsB, hcall, hw]
    exact ih2 (j + 1) _ _ (by omega) trivial rfl rfl
  · have hcond := dge (Nat.not_lt.1 hlt)
    simp only [S2Fc, EXA, Nat.reduceEqDiff, reduceIte, reduceCtorEq, Nat.reduceAdd, Nat.reduceLeDiff, Nat.reduceSub, Nat.reduceMul, Int.reduceEq, Int.reduceBEq, Int.reduceBNe, Int.reduceLT, Int.reduceLE, Nat.reduceLT, VX, readAt_some, hcond, hr]
theorem r_sameN : ∀ (n : Nat) (v : V), v.sz < n → v.sz < big → cR 35 [v.enc, v.enc] = some (.bool true) := by
  intro n
  induction n with
  | zero => intro v h; omega
  | succ n ih =>
    intro v h hb
    have hsz := v.sz_eq
    have hl := szL_len v.l
    have ihL : ∀ x ∈ v.l, cR 35 [x.enc, x.enc] = some (.bool true) := fun x hx => by
      have := szL_mem hx
      exact ih x (by omega) (by omega)
    have ihM : ∀ x ∈ v.m, cR 35 [x.2.enc, x.2.enc] = some (.bool true) := fun x hx => by
      have := szM_mem hx
      exact ih x.2 (by omega) (by omega)
    refine cR_of (F := F35) rfl ?_
    obtain ⟨r, hr⟩ : ∃ r, r = AV.bool true := ⟨_, rfl⟩
    rw [← hr]
    unfold big at hb
    simp only [F35_11, F35_22, F35_32, F35_43, F35_44, F35_48, F35_51, F35, ex_loop, EXA, Nat.reduceEqDiff, reduceIte, reduceCtorEq, Nat.reduceAdd, Nat.reduceLeDiff, Nat.reduceSub, Nat.reduceMul, Int.reduceEq, Int.reduceBEq, Int.reduceBNe, Int.reduceLT, Int.reduceLE, Nat.reduceLT, VX, readAt_some, intN, bsN, natN, List.length_map]
    refine ex_while (S := Nat) (fun j => [(2, .vptr [.int .i64 v.kind, .int .i64 v.n, .str v.s, .vsl (v.l.map V.enc) none, .vsl (v.m.map memE) none] 0), (3, .vptr [.int .i64 v.kind, .int .i64 v.n, .str v.s, .vsl (v.l.map V.enc) none, .vsl (v.m.map memE) none] 0), (5, .int .i64 (j : Int))]) (fun _ => .empty) (fun j => v.l.length - j) (fun _ => True) ?_ 0 trivial
    intro b j _ ih2
    by_cases hlt : j < v.l.length
    · obtain ⟨x, hx⟩ := get_lt hlt
      have hidx := idx_map (f := V.enc) (sz := 5) (c := none) hx (by simp [V.enc_cells])
      have hcond := dlt hlt
      have hw := wsucc hlt (by omega)
      have hcall := ihL x (List.mem_of_getElem? hx)
      simp only [S2Ff, EXA, Nat.reduceEqDiff, reduceIte, reduceCtorEq, Nat.reduceAdd, Nat.reduceLeDiff, Nat.reduceSub, Nat.reduceMul, Int.reduceEq, Int.reduceBEq, Int.reduceBNe, Int.reduceLT, Int.reduceLE, Nat.reduceLT, VX, readAt_some, hcond, hidx, hcall, hw]
      exact ih2 (j + 1) _ _ (by omega) trivial rfl rfl
    · have hcond := dge (Nat.not_lt.1 hlt)
      simp only [S2Ff, EXA, Nat.reduceEqDiff, reduceIte, reduceCtorEq, Nat.reduceAdd, Nat.reduceLeDiff, Nat.reduceSub, Nat.reduceMul, Int.reduceEq, Int.reduceBEq, Int.reduceBNe, Int.reduceLT, Int.reduceLE, Nat.reduceLT, VX, readAt_some, hcond]
      exact same_tail v _ hb ihM hr
theorem r_same (v : V) (hb : v.sz < big) : cR 35 [v.enc, v.enc] = some (.bool true) := r_sameN (v.sz + 1) v (Nat.lt_succ_self _) hb
theorem exc (e : Ev) : (evE e).cells = evC e := rfl
theorem exr_ts (e : Ev) : (evC e)[11]? = some (.int .i64 e.ts) := rfl
theorem exr_depth (e : Ev) : (evC e)[12]? = some (.int .i64 e.depth) := rfl
theorem exr_v (e : Ev) : readAt (evC e) 0 (some 5) = some e.v.enc := by rw [V.enc_eq]; rfl
section
variable {e : Ev} {k : List Item} {σ : Store} {Q : Fr → Store → Prop}
abbrev seF (e : Ev) (t : Nat) : Fr := [(2, .vptr (evC e) 0), (3, .vptr (evC e) 0), (t, .bool true)]
abbrev seT (n : Nat) : List IOper := (opsOf F11_1).drop n
theorem se0 : Ex ipU gU (.ops (opsOf F11_1) :: .code (.keep [4] .ret) :: k) [(2, .vptr (evC e) 0), (3, .vptr (evC e) 0)] σ Q ↔ Ex ipU gU (.ops (seT 6) :: .code (.keep [4] .ret) :: k) (seF e 10) σ Q := by
  rw [ex_cut 6]
  have hl : (liveIn [4] (seT 6)).all (([2, 3, 10] : List Nat).contains ·) = true := by kernel_rfl
  unfold seT at hl ⊢
  generalize (opsOf F11_1).drop 6 = tl at hl ⊢
  simp only [opsOf, S2Fa, EXA, Nat.reduceEqDiff, reduceIte, reduceCtorEq, Nat.reduceAdd, Nat.reduceLeDiff, Nat.reduceSub, Nat.reduceMul, Int.reduceEq, Int.reduceBEq, Int.reduceBNe, Int.reduceLT, Int.reduceLE, Nat.reduceLT, EVR, bsB]
  rw [ex_prune [2, 3, 10] hl]
  simp only [EXA, Nat.reduceEqDiff, reduceIte, reduceCtorEq, Nat.reduceAdd, Nat.reduceLeDiff, Nat.reduceSub, Nat.reduceMul, Int.reduceEq, Int.reduceBEq, Int.reduceBNe, Int.reduceLT, Int.reduceLE, Nat.reduceLT]
theorem se1 : Ex ipU gU (.ops (seT 6) :: .code (.keep [4] .ret) :: k) (seF e 10) σ Q ↔ Ex ipU gU (.ops (seT 13) :: .code (.keep [4] .ret) :: k) (seF e 17) σ Q := by
  have hd : seT 13 = (seT 6).drop 7 := rfl
  rw [ex_cut 7, hd]
  have hl : (liveIn [4] ((seT 6).drop 7)).all (([2, 3, 17] : List Nat).contains ·) = true := by kernel_rfl
  generalize (seT 6).drop 7 = tl at hl ⊢
  simp only [seT, opsOf, S2Fa, EXA, Nat.reduceEqDiff, reduceIte, reduceCtorEq, Nat.reduceAdd, Nat.reduceLeDiff, Nat.reduceSub, Nat.reduceMul, Int.reduceEq, Int.reduceBEq, Int.reduceBNe, Int.reduceLT, Int.reduceLE, Nat.reduceLT, EVR, exr_ts, exr_depth, exr_v, bsB, intB, boolB]
  rw [ex_prune [2, 3, 17] hl]
  simp only [EXA, Nat.reduceEqDiff, reduceIte, reduceCtorEq, Nat.reduceAdd, Nat.reduceLeDiff, Nat.reduceSub, Nat.reduceMul, Int.reduceEq, Int.reduceBEq, Int.reduceBNe, Int.reduceLT, Int.reduceLE, Nat.reduceLT]
theorem se2 : Ex ipU gU (.ops (seT 13) :: .code (.keep [4] .ret) :: k) (seF e 17) σ Q ↔ Ex ipU gU (.ops (seT 20) :: .code (.keep [4] .ret) :: k) (seF e 24) σ Q := by
  have hd : seT 20 = (seT 13).drop 7 := rfl
  rw [ex_cut 7, hd]
  have hl : (liveIn [4] ((seT 13).drop 7)).all (([2, 3, 24] : List Nat).contains ·) = true := by kernel_rfl
  generalize (seT 13).drop 7 = tl at hl ⊢
  simp only [seT, opsOf, S2Fa, EXA, Nat.reduceEqDiff, reduceIte, reduceCtorEq, Nat.reduceAdd, Nat.reduceLeDiff, Nat.reduceSub, Nat.reduceMul, Int.reduceEq, Int.reduceBEq, Int.reduceBNe, Int.reduceLT, Int.reduceLE, Nat.reduceLT, EVR, exr_ts, exr_depth, exr_v, bsB, intB, boolB]
  rw [ex_prune [2, 3, 24] hl]
  simp only [EXA, Nat.reduceEqDiff, reduceIte, reduceCtorEq, Nat.reduceAdd, Nat.reduceLeDiff, Nat.reduceSub, Nat.reduceMul, Int.reduceEq, Int.reduceBEq, Int.reduceBNe, Int.reduceLT, Int.reduceLE, Nat.reduceLT]
theorem se3 : Ex ipU gU (.ops (seT 20) :: .code (.keep [4] .ret) :: k) (seF e 24) σ Q ↔ Ex ipU gU (.ops (seT 27) :: .code (.keep [4] .ret) :: k) (seF e 31) σ Q := by
  have hd : seT 27 = (seT 20).drop 7 := rfl
  rw [ex_cut 7, hd]
  have hl : (liveIn [4] ((seT 20).drop 7)).all (([2, 3, 31] : List Nat).contains ·) = true := by kernel_rfl
  generalize (seT 20).drop 7 = tl at hl ⊢
  simp only [seT, opsOf, S2Fa, EXA, Nat.reduceEqDiff, reduceIte, reduceCtorEq, Nat.reduceAdd, Nat.reduceLeDiff, Nat.reduceSub, Nat.reduceMul, Int.reduceEq, Int.reduceBEq, Int.reduceBNe, Int.reduceLT, Int.reduceLE, Nat.reduceLT, EVR, exr_ts, exr_depth, exr_v, bsB, intB, boolB]
  rw [ex_prune [2, 3, 31] hl]
  simp only [EXA, Nat.reduceEqDiff, reduceIte, reduceCtorEq, Nat.reduceAdd, Nat.reduceLeDiff, Nat.reduceSub, Nat.reduceMul, Int.reduceEq, Int.reduceBEq, Int.reduceBNe, Int.reduceLT, Int.reduceLE, Nat.reduceLT]
theorem se4 : Ex ipU gU (.ops (seT 27) :: .code (.keep [4] .ret) :: k) (seF e 31) σ Q ↔ Ex ipU gU (.ops (seT 34) :: .code (.keep [4] .ret) :: k) (seF e 38) σ Q := by
  have hd : seT 34 = (seT 27).drop 7 := rfl
  rw [ex_cut 7, hd]
  have hl : (liveIn [4] ((seT 27).drop 7)).all (([2, 3, 38] : List Nat).contains ·) = true := by kernel_rfl
  generalize (seT 27).drop 7 = tl at hl ⊢
  simp only [seT, opsOf, S2Fa, EXA, Nat.reduceEqDiff, reduceIte, reduceCtorEq, Nat.reduceAdd, Nat.reduceLeDiff, Nat.reduceSub, Nat.reduceMul, Int.reduceEq, Int.reduceBEq, Int.reduceBNe, Int.reduceLT, Int.reduceLE, Nat.reduceLT, EVR, exr_ts, exr_depth, exr_v, bsB, intB, boolB]
  rw [ex_prune [2, 3, 38] hl]
  simp only [EXA, Nat.reduceEqDiff, reduceIte, reduceCtorEq, Nat.reduceAdd, Nat.reduceLeDiff, Nat.reduceSub, Nat.reduceMul, Int.reduceEq, Int.reduceBEq, Int.reduceBNe, Int.reduceLT, Int.reduceLE, Nat.reduceLT]
theorem se5 : Ex ipU gU (.ops (seT 34) :: .code (.keep [4] .ret) :: k) (seF e 38) σ Q ↔ Ex ipU gU (.ops (seT 41) :: .code (.keep [4] .ret) :: k) (seF e 45) σ Q := by
  have hd : seT 41 = (seT 34).drop 7 := rfl
  rw [ex_cut 7, hd]
  have hl : (liveIn [4] ((seT 34).drop 7)).all (([2, 3, 45] : List Nat).contains ·) = true := by kernel_rfl
  generalize (seT 34).drop 7 = tl at hl ⊢
  simp only [seT, opsOf, S2Fa, EXA, Nat.reduceEqDiff, reduceIte, reduceCtorEq, Nat.reduceAdd, Nat.reduceLeDiff, Nat.reduceSub, Nat.reduceMul, Int.reduceEq, Int.reduceBEq, Int.reduceBNe, Int.reduceLT, Int.reduceLE, Nat.reduceLT, EVR, exr_ts, exr_depth, exr_v, bsB, intB, boolB]
  rw [ex_prune [2, 3, 45] hl]
  simp only [EXA, Nat.reduceEqDiff, reduceIte, reduceCtorEq, Nat.reduceAdd, Nat.reduceLeDiff, Nat.reduceSub, Nat.reduceMul, Int.reduceEq, Int.reduceBEq, Int.reduceBNe, Int.reduceLT, Int.reduceLE, Nat.reduceLT]
theorem se6 : Ex ipU gU (.ops (seT 41) :: .code (.keep [4] .ret) :: k) (seF e 45) σ Q ↔ Ex ipU gU (.ops (seT 48) :: .code (.keep [4] .ret) :: k) (seF e 52) σ Q := by
  have hd : seT 48 = (seT 41).drop 7 := rfl
  rw [ex_cut 7, hd]
  have hl : (liveIn [4] ((seT 41).drop 7)).all (([2, 3, 52] : List Nat).contains ·) = true := by kernel_rfl
  generalize (seT 41).drop 7 = tl at hl ⊢
  simp only [seT, opsOf, S2Fa, EXA, Nat.reduceEqDiff, reduceIte, reduceCtorEq, Nat.reduceAdd, Nat.reduceLeDiff, Nat.reduceSub, Nat.reduceMul, Int.reduceEq, Int.reduceBEq, Int.reduceBNe, Int.reduceLT, Int.reduceLE, Nat.reduceLT, EVR, exr_ts, exr_depth, exr_v, bsB, intB, boolB]
  rw [ex_prune [2, 3, 52] hl]
  simp only [EXA, Nat.reduceEqDiff, reduceIte, reduceCtorEq, Nat.reduceAdd, Nat.reduceLeDiff, Nat.reduceSub, Nat.reduceMul, Int.reduceEq, Int.reduceBEq, Int.reduceBNe, Int.reduceLT, Int.reduceLE, Nat.reduceLT]
theorem se7 : Ex ipU gU (.ops (seT 48) :: .code (.keep [4] .ret) :: k) (seF e 52) σ Q ↔ Ex ipU gU (.ops (seT 55) :: .code (.keep [4] .ret) :: k) (seF e 59) σ Q := by
  have hd : seT 55 = (seT 48).drop 7 := rfl
  rw [ex_cut 7, hd]
  have hl : (liveIn [4] ((seT 48).drop 7)).all (([2, 3, 59] : List Nat).contains ·) = true := by kernel_rfl
  generalize (seT 48).drop 7 = tl at hl ⊢
  simp only [seT, opsOf, S2Fa, EXA, Nat.reduceEqDiff, reduceIte, reduceCtorEq, Nat.reduceAdd, Nat.reduceLeDiff, Nat.reduceSub, Nat.reduceMul, Int.reduceEq, Int.reduceBEq, Int.reduceBNe, Int.reduceLT, Int.reduceLE, Nat.reduceLT, EVR, exr_ts, exr_depth, exr_v, bsB, intB, boolB]
  rw [ex_prune [2, 3, 59] hl]
  simp only [EXA, Nat.reduceEqDiff, reduceIte, reduceCtorEq, Nat.reduceAdd, Nat.reduceLeDiff, Nat.reduceSub, Nat.reduceMul, Int.reduceEq, Int.reduceBEq, Int.reduceBNe, Int.reduceLT, Int.reduceLE, Nat.reduceLT]
theorem se8 (c3 : cR 10 [.vsl (e.prev.map .str) none, .vsl (e.prev.map .str) none] = some (.bool true)) : Ex ipU gU (.ops (seT 55) :: .code (.keep [4] .ret) :: k) (seF e 59) σ Q ↔ Ex ipU gU (.ops (seT 62) :: .code (.keep [4] .ret) :: k) (seF e 66) σ Q := by
  have hd : seT 62 = (seT 55).drop 7 := rfl
  rw [ex_cut 7, hd]
  have hl : (liveIn [4] ((seT 55).drop 7)).all (([2, 3, 66] : List Nat).contains ·) = true := by kernel_rfl
  generalize (seT 55).drop 7 = tl at hl ⊢
  simp only [seT, opsOf, S2Fa, EXA, Nat.reduceEqDiff, reduceIte, reduceCtorEq, Nat.reduceAdd, Nat.reduceLeDiff, Nat.reduceSub, Nat.reduceMul, Int.reduceEq, Int.reduceBEq, Int.reduceBNe, Int.reduceLT, Int.reduceLE, Nat.reduceLT, EVR, exr_ts, exr_depth, exr_v, bsB, intB, boolB, c3, closedL_strs, erL_strs]
  rw [ex_prune [2, 3, 66] hl]
  simp only [EXA, Nat.reduceEqDiff, reduceIte, reduceCtorEq, Nat.reduceAdd, Nat.reduceLeDiff, Nat.reduceSub, Nat.reduceMul, Int.reduceEq, Int.reduceBEq, Int.reduceBNe, Int.reduceLT, Int.reduceLE, Nat.reduceLT]
theorem se9 (c3 : cR 10 [.vsl (e.auth.map .str) none, .vsl (e.auth.map .str) none] = some (.bool true)) : Ex ipU gU (.ops (seT 62) :: .code (.keep [4] .ret) :: k) (seF e 66) σ Q ↔ Ex ipU gU (.ops (seT 69) :: .code (.keep [4] .ret) :: k) (seF e 73) σ Q := by
  have hd : seT 69 = (seT 62).drop 7 := rfl
  rw [ex_cut 7, hd]
  have hl : (liveIn [4] ((seT 62).drop 7)).all (([2, 3, 73] : List Nat).contains ·) = true := by kernel_rfl
  generalize (seT 62).drop 7 = tl at hl ⊢
  simp only [seT, opsOf, S2Fa, EXA, Nat.reduceEqDiff, reduceIte, reduceCtorEq, Nat.reduceAdd, Nat.reduceLeDiff, Nat.reduceSub, Nat.reduceMul, Int.reduceEq, Int.reduceBEq, Int.reduceBNe, Int.reduceLT, Int.reduceLE, Nat.reduceLT, EVR, exr_ts, exr_depth, exr_v, bsB, intB, boolB, c3, closedL_strs, erL_strs]
  rw [ex_prune [2, 3, 73] hl]
  simp only [EXA, Nat.reduceEqDiff, reduceIte, reduceCtorEq, Nat.reduceAdd, Nat.reduceLeDiff, Nat.reduceSub, Nat.reduceMul, Int.reduceEq, Int.reduceBEq, Int.reduceBNe, Int.reduceLT, Int.reduceLE, Nat.reduceLT]
theorem se10 (c3 : cR 35 [e.content.enc, e.content.enc] = some (.bool true)) : Ex ipU gU (.ops (seT 69) :: .code (.keep [4] .ret) :: k) (seF e 73) σ Q ↔ Ex ipU gU (.ops (seT 76) :: .code (.keep [4] .ret) :: k) (seF e 80) σ Q := by
  have hd : seT 76 = (seT 69).drop 7 := rfl
  rw [ex_cut 7, hd]
  have hl : (liveIn [4] ((seT 69).drop 7)).all (([2, 3, 80] : List Nat).contains ·) = true := by kernel_rfl
  generalize (seT 69).drop 7 = tl at hl ⊢
  simp only [seT, opsOf, S2Fa, EXA, Nat.reduceEqDiff, reduceIte, reduceCtorEq, Nat.reduceAdd, Nat.reduceLeDiff, Nat.reduceSub, Nat.reduceMul, Int.reduceEq, Int.reduceBEq, Int.reduceBNe, Int.reduceLT, Int.reduceLE, Nat.reduceLT, EVR, exr_ts, exr_depth, exr_v, bsB, intB, boolB, c3, V.enc_closed, V.enc_er]
  rw [ex_prune [2, 3, 80] hl]
  simp only [EXA, Nat.reduceEqDiff, reduceIte, reduceCtorEq, Nat.reduceAdd, Nat.reduceLeDiff, Nat.reduceSub, Nat.reduceMul, Int.reduceEq, Int.reduceBEq, Int.reduceBNe, Int.reduceLT, Int.reduceLE, Nat.reduceLT]
end
theorem r_sameEvent (e : Ev) (h1 : e.v.sz < big) (h2 : e.content.sz < big) (h3 : e.prev.length < big) (h4 : e.auth.length < big) : cR 11 [evE e, evE e] = some (.bool true) := by
  have c1 := r_same e.v h1
  have c2 := r_same e.content h2
  have c3 := r_Texts e.prev e.prev h3
  have c4 := r_Texts e.auth e.auth h4
  simp only [BEq.rfl] at c3 c4
  refine cR_of (F := F11) rfl ?_
  simp only [F11, EXA, Nat.reduceEqDiff, reduceIte, reduceCtorEq, Nat.reduceAdd, Nat.reduceLeDiff, Nat.reduceSub, Nat.reduceMul, Int.reduceEq, Int.reduceBEq, Int.reduceBNe, Int.reduceLT, Int.reduceLE, Nat.reduceLT, exc, evE_known]
  have h0 : ∀ {k : List Item} {σ : Store} {Q : Fr → Store → Prop}, Ex ipU gU (.code F11_1 :: .code (.keep [4] .ret) :: k) [(2, .vptr (evC e) 0), (3, .vptr (evC e) 0)] σ Q ↔ Ex ipU gU (.ops (opsOf F11_1) :: .code (.keep [4] .ret) :: k) [(2, .vptr (evC e) 0), (3, .vptr (evC e) 0)] σ Q := ex_region
  rw [h0, se0, se1, se2, se3, se4, se5, se6, se7, se8 c3, se9 c4, se10 c2]
  simp only [seT, opsOf, S2Fa, EXA, Nat.reduceEqDiff, reduceIte, reduceCtorEq, Nat.reduceAdd, Nat.reduceLeDiff, Nat.reduceSub, Nat.reduceMul, Int.reduceEq, Int.reduceBEq, Int.reduceBNe, Int.reduceLT, Int.reduceLE, Nat.reduceLT, EVR, exr_v, c1, V.enc_closed, V.enc_er]
end Go.Ab
/- The document's: which values are good. -/
namespace Go.Ab
set_option maxHeartbeats 1000000
set_option maxRecDepth 100000
end Go.Ab
/- The document's: what stands under a key. -/
namespace Go.Ab
set_option maxHeartbeats 1000000
set_option maxRecDepth 100000
def getR (v : V) (k : Bs) : V × Bool := if v.kind = 5 then (match lookM v.m k with | some x => (x, true) | none => (V.zero, false)) else (V.zero, false)
end Go.Ab
/- The document's: texts under a key. -/
namespace Go.Ab
set_option maxHeartbeats 1000000
set_option maxRecDepth 100000
def textR (v : V) (k : Bs) : Bs × Bool := if (getR v k).2 && (getR v k).1.kind == 3 then ((getR v k).1.s, true) else ([], false)
end Go.Ab
/- The document's: a membership; letters and digits. -/
namespace Go.Ab
set_option maxHeartbeats 1000000
set_option maxRecDepth 100000
end Go.Ab
/- The document's: letters, digits. -/
namespace Go.Ab
set_option maxHeartbeats 1000000
set_option maxRecDepth 100000
end Go.Ab
/- The document's: names of servers. -/
namespace Go.Ab
set_option maxHeartbeats 1000000
set_option maxRecDepth 100000
end Go.Ab
/- The document's names of servers and the program's are the same; names that begin with a sign. -/
namespace Go.Ab
set_option maxHeartbeats 1000000
set_option maxRecDepth 100000
end Go.Ab
/- The document's: an invite of a third kind, who speaks for somebody. -/
namespace Go.Ab
set_option maxHeartbeats 1000000
set_option maxRecDepth 100000
theorem getR_fine {v : V} (k : Bs) (hf : v.fine = true) : getR v k = getV v k := by
  unfold getR
  by_cases h5 : v.kind = 5
  · rw [if_pos h5, getV_rises k h5 (fine_rises h5 hf)]
    try (cases lookM v.m k <;> rfl)
  · rw [if_neg h5, getV_other k h5]
theorem lookM_mem {k : Bs} {x : V} : ∀ {m : List Mem}, lookM m k = some x → ∃ e ∈ m, e.2 = x
  | [], h => by simp [lookM] at h
  | (a, y) :: m, h => by
    rw [lookM] at h
    split at h
    · exact ⟨(a, y), by simp, Option.some.inj h⟩
    · obtain ⟨e, he, hx⟩ := lookM_mem h
      exact ⟨e, by simp [he], hx⟩
theorem V.zero_fine : V.zero.fine = true := by rw [V.fine_eq]; decide
theorem fine_m {v : V} (h5 : v.kind = 5) (h : v.fine = true) : fineM none v.m = true := by
  rw [V.fine_eq, h5] at h
  simp only [Int.reduceEq, if_false, if_true] at h
  simp only [Bool.and_eq_true] at h
  exact h.2
theorem getR_fineV {v : V} (k : Bs) (hf : v.fine = true) : (getR v k).1.fine = true := by
  unfold getR
  by_cases h5 : v.kind = 5
  · rw [if_pos h5]
    cases hl : lookM v.m k with
    | none => exact V.zero_fine
    | some x =>
      obtain ⟨e, he, hx⟩ := lookM_mem hl
      rw [← hx]
      exact (fineM_mem (fine_m h5 hf) e he).1
  · rw [if_neg h5]; exact V.zero_fine
theorem textR_fine {v : V} (k : Bs) (h : v.fine = true) : textR v k = textAt v k := by
  unfold textR textAt
  rw [getR_fine k h]
end Go.Ab
/- Members that are deleted: slices.IndexFunc, slices.DeleteFunc over members. -/
namespace Go.Ab
set_option maxHeartbeats 1000000
def U1Fa := J @F161_2.eq_1 (J @F161_19.eq_1 (J @F161_20.eq_1 (@F161.eq_1)))
set_option maxRecDepth 100000
theorem callS_ex {id : Nat} {F : IFunc} (hF : ipU id = some F) {first args caps : List AV} {σ : Store} {Q : AV → Store → Prop}
    (h : Ex ipU gU [.code F.body] (initFr (first ++ args ++ caps)) σ fun fr' σ1 => ∃ r, resAll fr' σ1 F.res = some r ∧ Q r σ1) : ∃ r σ', callS ipU gU (.fn id first caps) args σ = some (r, σ') ∧ Q r σ' := by
  obtain ⟨n, fr', σ1, h1, r, h2, h3⟩ := h
  exact ⟨r, σ1, callS_of hF (first := first) (args := args) (caps := caps) ⟨n, fr', σ1, h1, h2, rfl⟩, h3⟩
theorem idx_mem {l : List Mem} {j : Nat} {e : Mem} {c : Option Nat} (h : l[j]? = some e) : idxOf 6 none (.vsl (l.map memE) c) (.int .i64 (j : Int)) = some (.vptr (memE e).cells 0) := idx_map (f := memE) h (by simp [memE_cells])
/-- slices.IndexFunc over members. -/
theorem r_indexM (l : List Mem) (f : AV) (p : Mem → Bool) (hf : f.closed = true) (hfe : f.er = f) (hlen : l.length < big) (hp : ∀ e ∈ l, callR ipU gU f [memE e] = some (.bool (p e))) :
    cR 161 [.vsl (l.map memE) none, f] = some (.int .i64 (firstFrom p l 0)) := by
  unfold big at hlen
  refine cR_of (F := F161) rfl ?_
  simp only [F161_2, F161_19, F161, ex_loop, EXA, Nat.reduceEqDiff, reduceIte, reduceCtorEq, Nat.reduceAdd, Nat.reduceLeDiff, Nat.reduceSub, Nat.reduceMul, Int.reduceEq, Int.reduceBEq, Int.reduceBNe, Int.reduceLT, Int.reduceLE, Nat.reduceLT, VX]
  refine ex_while (S := Nat) (fun j => [(0, .vsl (l.map memE) none), (1, f), (7, .int .i64 l.length), (8, .int .i64 (j : Int))]) (fun _ => .empty) (fun j => l.length - j) (fun j => firstFrom p l j = firstFrom p l 0) ?_ 0 rfl
  intro b j hj ih
  by_cases hlt : j < l.length
  · obtain ⟨v, hv⟩ := get_lt hlt
    have hidx := idx_mem (c := none) hv
    have hcall := hp v (List.mem_of_getElem? hv)
    have hcond := dlt hlt
    simp only [U1Fa, EXA, Nat.reduceEqDiff, reduceIte, reduceCtorEq, Nat.reduceAdd, Nat.reduceLeDiff, Nat.reduceSub, Nat.reduceMul, Int.reduceEq, Int.reduceBEq, Int.reduceBNe, Int.reduceLT, Int.reduceLE, Nat.reduceLT, VX, readAt_some, hcond, hidx, hf, hfe, hcall]
    split
    · rename_i hpe
      rw [← hj, firstFrom_hit hv hpe]
    · rename_i hpe
      refine ih (j + 1) _ _ (by omega) ?_ ?_ rfl
      · rw [← firstFrom_miss hv (by simpa using hpe)]; exact hj
      · rw [wsucc hlt (by omega)]
        simp only [EXA, Nat.reduceEqDiff, reduceIte, reduceCtorEq, Nat.reduceAdd, Nat.reduceLeDiff, Nat.reduceSub, Nat.reduceMul, Int.reduceEq, Int.reduceBEq, Int.reduceBNe, Int.reduceLT, Int.reduceLE, Nat.reduceLT]
  · have hcond := dge (Nat.not_lt.1 hlt)
    simp only [U1Fa, EXA, Nat.reduceEqDiff, reduceIte, reduceCtorEq, Nat.reduceAdd, Nat.reduceLeDiff, Nat.reduceSub, Nat.reduceMul, Int.reduceEq, Int.reduceBEq, Int.reduceBNe, Int.reduceLT, Int.reduceLE, Nat.reduceLT, VX, hcond]
    rw [← hj, firstFrom_end (by omega)]
/-- Read out: the beginning of a block of one's own. -/
theorem rb_slp {σ : Store} {d b n sz : Nat} {cells rest : List AV} (h : σ.cells b = some (cells ++ rest)) (h2 : cells.length = n * sz) (hs : 0 < sz) (hc : closedL cells = true) (ha : cells.all AV.notAgg = true) :
    rb σ (d + 1) (.sl b 0 n sz none) = some (.vsl (chunks sz n cells) none) := by
  have ht : List.take (n * sz) (List.drop 0 (cells ++ rest)) = cells := by rw [List.drop_zero, ← h2, List.take_left]
  have e : rb σ (d + 1) (.sl b 0 n sz none) = (match σ.cells b with
      | some cs =>
        if 0 + n * sz ≤ cs.length ∧ 0 < sz then
          match mapO (rb σ d) ((cs.drop 0).take (n * sz)) with
          | some cs' => if cs'.all AV.notAgg then some (.vsl (chunks sz n cs') none) else none
          | none => none
        else none
      | none => none) := rfl
  rw [e, h]
  simp only
  rw [if_pos ⟨by rw [List.length_append]; omega, hs⟩, ht, mapO_closed' hc]
  simp only
  rw [if_pos ha]
/-- A list that lies at the beginning of a block. -/
def Rp {α : Type} (L : Lay α) (σ : Store) (v : AV) (l : List α) : Prop := (l = [] ∧ (v = .nils ∨ v = .vsl [] (some 0))) ∨ ∃ b rest, v = .sl b 0 l.length L.sz none ∧ σ.get b = some (.own (L.cells l ++ rest))
theorem Rp.rbD {α : Type} {L : Lay α} {σ : Store} {v : AV} {l : List α} (h : Rp L σ v l) (d : Nat) : ∃ v', Go.Ab.rb σ (d + 1) v = some v' ∧ v'.er = .vsl (l.map L.f) none := by
  rcases h with ⟨rfl, rfl | rfl⟩ | ⟨b, rest, rfl, h⟩
  · exact ⟨_, rfl, by simp only [AV.er]; rfl⟩
  · exact ⟨_, rb_closed' rfl, by simp only [AV.er, erL]; rfl⟩
  · refine ⟨_, rb_slp (cells := L.cells l) (rest := rest) (by simp [Store.cells, h]) (L.cells_len l) L.pos (L.cells_closed l) (one_notAgg (L.cells_one l)), ?_⟩
    rw [L.chunks]; simp only [AV.er, L.erMap]
theorem RbL.rp {α : Type} {L : Lay α} {σ : Store} {d : Nat} {v : AV} {l : List α} {cs cs' : List AV} (hv : Rp L σ v l) (h : RbL σ (d + 1) cs cs') : RbL σ (d + 1) (v :: cs) (.vsl (l.map L.f) none :: cs') := by
  obtain ⟨m, h1, h2⟩ := h
  obtain ⟨v', h3, h4⟩ := hv.rbD d
  exact ⟨v' :: m, by simp only [mapO, h3, h1], by simp only [erL, h2, h4]⟩
/-- A call of a slice of one's own and something closed, whose answer bears no memory. -/
theorem callP_own {α : Type} {L : Lay α} {σ : Store} {b : Nat} {l : List α} {st : Bool} {f : Nat} {x r : AV} (h : σ.cells b = some (L.cells l)) (hx : x.closed = true) (hxe : x.er = x) (hc : cR f [.vsl (l.map L.f) none, x] = some r) (hr : r.flat = true) :
    callP ipU gU st (.fn f [] []) [.sl b 0 l.length L.sz none, x] σ = some (r, σ) := by
  obtain ⟨v', h1, h2⟩ : ∃ v', rb σ (23 + 1) (.sl b 0 l.length L.sz none) = some v' ∧ v'.er = .vsl (l.map L.f) none := by
    refine ⟨_, rb_sl (d := 23) h (L.cells_len l) L.pos (L.cells_closed l) (one_notAgg (L.cells_one l)), ?_⟩
    rw [L.chunks]; simp only [AV.er, L.erMap]
  refine callP_flat (args' := [v', x]) rfl ?_ ?_ hr
  · have h1' : rb σ rbDepth (.sl b 0 l.length L.sz none) = some v' := h1
    simp only [mapO, h1', rb_closed' hx]
  · simp only [erL, h2, hxe]; exact hc
/-- One element written. -/
theorem splice_row {α : Type} (L : Lay α) (pre post : List α) (x y : α) (rest : List AV) : splice (L.cells (pre ++ x :: post) ++ rest) (pre.length * L.sz) (L.f y).cells = L.cells (pre ++ y :: post) ++ rest := by
  unfold splice
  have h1 := L.cells_len pre
  have hx := L.len x
  have hy := L.len y
  rw [L.cells_append, L.cells_cons, L.cells_append, L.cells_cons, ← h1, hy]
  simp only [List.append_assoc]
  rw [List.take_left, List.drop_append, List.drop_of_length_le (by omega), Nat.add_sub_cancel_left, List.nil_append, ← hx, List.drop_left]
theorem read_row {α : Type} (L : Lay α) (hs : L.sz ≠ 1) (pre post : List α) (x : α) (rest : List AV) : readAt (L.cells (pre ++ x :: post) ++ rest) (pre.length * L.sz) (some L.sz) = some (L.f x) := by
  have hag := L.agg x
  rw [if_neg hs] at hag
  obtain ⟨cs, hcs⟩ := hag
  have h1 := L.cells_len pre
  have hx := L.len x
  rw [readAt_some, L.cells_append, L.cells_cons, ← h1]
  simp only [List.append_assoc]
  rw [if_pos (by simp; omega), List.drop_left, ← hx, List.take_left, hcs]
  rfl
end Go.Ab
/- b64.get: how many bytes, and whether there is an error. -/
namespace Go.Ab
set_option maxHeartbeats 1000000
def W2Fb := J @F164_4.eq_1 (J @F164_37.eq_1 (J @F164_38.eq_1 (J @F164_52.eq_1 (J @F164_53.eq_1 (@F164.eq_1)))))
def W2Fd := J @F164_4.eq_1 (J @F164_37.eq_1 (J @F164_38.eq_1 (J @F164_52.eq_1 (@F164.eq_1))))
set_option maxRecDepth 100000
def LB : Lay Int where
  f := .int .u8
  sz := 1
  pos := by decide
  len _ := rfl
  closed _ := rfl
  er _ := by simp only [AV.er]
  one _ := rfl
  agg _ := rfl
/-- Is the sign known? -/
def okC (c : UInt8) : Bool := decide (numB c < 64)
def lastV (s : Bs) : Nat := match s.getLast? with
  | some c => numB c
  | none => 0
/-- A text without error. -/
def okB (s : Bs) : Bool := s.all okC && (decide (6 * s.length % 8 < 6) && decide (lastV s % 2 ^ (6 * s.length % 8) = 0))
theorem take_succ' {s : Bs} {j : Nat} {c : UInt8} (h : s[j]? = some c) : s.take (j + 1) = s.take j ++ [c] := by
  rw [List.take_add_one, h]; rfl
def sh6 (x : Int) : Int := IntKind.wrap .u64 (x * 2 ^ (min (6 : Int).toNat (IntKind.bits .u64)))
theorem shl_6 (x : Int) : shiftInt .shl .u64 x 6 = some (.int .u64 (sh6 x)) := rfl
def shrN (x : Int) (n : Nat) : Int := x.fdiv (2 ^ (min (n : Int).toNat (IntKind.bits .u64)))
theorem shr_N (x : Int) (n : Nat) : shiftInt .shr .u64 x (n : Int) = some (.int .u64 (shrN x n)) := by
  unfold shiftInt
  rw [if_neg (by omega)]; rfl
/-- Six bits more. -/
theorem shl_or {left : Int} {v : Nat} (h0 : 0 ≤ left) (hv : v < 64) :
    ∃ l' : Int, IntKind.wrap .u64 ((BitVec.ofInt (IntKind.bits .u64) (sh6 left) ||| BitVec.ofInt (IntKind.bits .u64) (IntKind.wrap .u64 (v : Int))).toNat : Int) = l' ∧ 0 ≤ l' ∧ l' % 64 = v := by
  refine ⟨_, rfl, ?_, ?_⟩
  · simp only [IntKind.wrap, IntKind.bits, IntKind.signed, Bool.false_eq_true, if_false, Bool.false_and]
    exact Int.emod_nonneg _ (by decide)
  · obtain ⟨m, rfl⟩ := Int.eq_ofNat_of_zero_le h0
    have e1 : sh6 (m : Int) = ((m * 64 % 2 ^ 64 : Nat) : Int) := by
      simp [sh6, IntKind.wrap, IntKind.bits, IntKind.signed]
    have e2 : (IntKind.wrap .u64 (v : Int)) = ((v : Nat) : Int) := by
      simp [IntKind.wrap, IntKind.bits, IntKind.signed]; omega
    rw [e1, e2]
    have e3 : (BitVec.ofInt (IntKind.bits .u64) ((m * 64 % 2 ^ 64 : Nat) : Int) ||| BitVec.ofInt (IntKind.bits .u64) ((v : Nat) : Int)).toNat = (m * 64 % 2 ^ 64) ||| v := by
      show (BitVec.ofInt 64 ((m * 64 % 2 ^ 64 : Nat) : Int) ||| BitVec.ofInt 64 ((v : Nat) : Int)).toNat = _
      rw [BitVec.toNat_or, BitVec.ofInt_natCast, BitVec.ofInt_natCast, BitVec.toNat_ofNat, BitVec.toNat_ofNat, Nat.mod_mod, Nat.mod_eq_of_lt (show v < 2 ^ 64 by omega)]
    rw [e3]
    have e4 : ((m * 64 % 2 ^ 64) ||| v) < 2 ^ 64 := Nat.or_lt_two_pow (Nat.mod_lt _ (by decide)) (by omega)
    have e5 : ((m * 64 % 2 ^ 64) ||| v) % 64 = v := by
      rw [show (64 : Nat) = 2 ^ 6 from rfl, Nat.or_mod_two_pow, show m * 2 ^ 6 % 2 ^ 64 % 2 ^ 6 = 0 by omega, Nat.zero_or]; omega
    generalize ((m * 64 % 2 ^ 64) ||| v) = x at e4 e5 ⊢
    simp only [IntKind.wrap, IntKind.bits, IntKind.signed, Bool.false_eq_true, if_false, Bool.false_and]
    omega
/-- The low bits. -/
theorem and_low {left : Int} (h : 0 ≤ left) (r : Nat) (hr : r ≤ 6) : IntKind.wrap .u64 ((BitVec.ofInt (IntKind.bits .u64) left &&& BitVec.ofInt (IntKind.bits .u64) (2 ^ r - 1)).toNat : Int) = left % 2 ^ r := by
  obtain ⟨m, rfl⟩ := Int.eq_ofNat_of_zero_le h
  have hp : 2 ^ r ≤ 64 := by
    have := Nat.pow_le_pow_right (n := 2) (by decide) hr
    simpa using this
  have hp0 : 0 < 2 ^ r := Nat.two_pow_pos r
  have e0 : ((2 : Int) ^ r - 1) = ((2 ^ r - 1 : Nat) : Int) := by
    rw [Int.ofNat_sub (by omega)]; simp
  have e1 : (BitVec.ofInt (IntKind.bits .u64) (m : Int) &&& BitVec.ofInt (IntKind.bits .u64) (2 ^ r - 1)).toNat = m % 2 ^ r := by
    rw [e0]
    show (BitVec.ofInt 64 (m : Int) &&& BitVec.ofInt 64 ((2 ^ r - 1 : Nat) : Int)).toNat = _
    rw [BitVec.toNat_and, BitVec.ofInt_natCast, BitVec.ofInt_natCast, BitVec.toNat_ofNat, BitVec.toNat_ofNat, Nat.mod_eq_of_lt (show 2 ^ r - 1 < 2 ^ 64 by omega), Nat.and_two_pow_sub_one_eq_mod]
    exact Nat.mod_mod_of_dvd m (Nat.pow_dvd_pow 2 (by omega))
  rw [e1]
  have : m % 2 ^ r < 64 := Nat.lt_of_lt_of_le (Nat.mod_lt _ hp0) hp
  have e2 : ((m : Int) % 2 ^ r) = ((m % 2 ^ r : Nat) : Int) := by simp
  rw [e2]
  generalize m % 2 ^ r = x at this
  simp only [IntKind.wrap, IntKind.bits, IntKind.signed, Bool.false_eq_true, if_false, Bool.false_and]
  omega
structure GSt where
  j : Nat
  ob : Option Nat
  out : List Int
  left : Int
  n : Nat
def fG : AV := .fn 163 [aURL] []
theorem callG (c : UInt8) : callR ipU gU fG [.int .u8 c.toNat] = some (.int .u8 (numB c)) := by
  have h := r_num64 c
  unfold cR at h
  exact h
theorem callG' (c : UInt8) (σ : Store) : callP ipU gU false fG [.int .u8 c.toNat] σ = some (.int .u8 (numB c), σ) :=
  callP_flat (args' := [.int .u8 c.toNat]) rfl rfl (callG c) rfl
def GInv (s : Bs) (t : GSt) (σ : Store) : Prop := t.j ≤ s.length ∧ (s.take t.j).all okC = true ∧ t.n = 6 * t.j % 8 ∧ t.out.length = 6 * t.j / 8 ∧ Own LB σ t.ob t.out ∧ 0 ≤ t.left ∧ t.left % 64 = lastV (s.take t.j)
def GRes (s : Bs) (r : AV) (σ : Store) : Prop := ∃ (bs : List Int) (e : Int), rbE σ r = some (.tup [.vsl (bs.map (AV.int .u8)) none, .int .i64 e]) ∧ (e == 0) = okB s ∧ (okB s = true → bs.length = 6 * s.length / 8)
theorem g_err {s : Bs} {σ : Store} (h : okB s = false) : GRes s (.tup [.nils, .int .i64 2]) σ := ⟨[], 2, rfl, by rw [h]; rfl, by rw [h]; intro h; cases h⟩
theorem RbL.tup {σ : Store} {cs cs' : List AV} (h : RbL σ 23 cs cs') : rbE σ (.tup cs) = some (.tup cs') := by
  obtain ⟨m, h1, h2⟩ := h
  unfold rbE
  by_cases hc : (AV.tup cs).closed = true
  · have : m = cs := by
      have hm := mapO_closed' (σ := σ) (d := 23) (show closedL cs = true by simpa [AV.closed] using hc)
      rw [h1] at hm
      exact Option.some.inj hm
    subst this
    rw [rb_closed' hc, Option.map_some, AV.er, h2]
  · have e : rb σ rbDepth (.tup cs) = some (.tup m) := by
      show rb σ (23 + 1) (.tup cs) = _
      rw [rb, if_neg hc, h1]
    rw [e, Option.map_some, AV.er, h2]
theorem Own.gr {α : Type} {L : Lay α} {σ : Store} {ob : Option Nat} {l : List α} (h : Own L σ ob l) : Gr L σ (slOf L.sz ob l.length) l := by
  cases ob with
  | none => exact .inl ⟨rfl, List.eq_nil_of_length_eq_zero h.1⟩
  | some b => exact Gr.own h
theorem rbE_tup2 {σ : Store} {v : AV} {l : List Int} {e : Int} (h : Gr LB σ v l) : rbE σ (.tup [v, .int .i64 e]) = some (.tup [.vsl (l.map (AV.int .u8)) none, .int .i64 e]) := by
  have := RbL.tup (RbL.gr (d := 22) h (RbL.clo (x := .int .i64 e) rfl (RbL.nil _ _)))
  simp only [AV.er] at this; exact this
theorem okB_bad {s : Bs} (h : s.all okC = false) : okB s = false := by unfold okB; rw [h]; rfl
theorem get_ex (s : Bs) (hb : s.length < lim) : ∃ r σ', callS ipU gU (.fn 164 [] []) [.str s, fG] .empty = some (r, σ') ∧ GRes s r σ' := by
  unfold lim at hb
  refine callS_ex (F := F164) rfl (first := []) (caps := []) ?_
  simp only [F164_4, F164_37, F164_52, F164, ex_loop, EXA, Nat.reduceEqDiff, reduceIte, reduceCtorEq, Nat.reduceAdd, Nat.reduceLeDiff, Nat.reduceSub, Nat.reduceMul, Int.reduceEq, Int.reduceBEq, Int.reduceBNe, Int.reduceLT, Int.reduceLE, Nat.reduceLT, VX]
  refine ex_whileI (S := GSt) (fun t => [(0, .str s), (1, fG), (6, slOf 1 t.ob t.out.length), (7, .int .u64 t.left), (8, .int .u64 (t.n : Int)), (12, .int .i64 s.length), (13, .int .i64 (t.j : Int))]) (fun t => s.length - t.j) (GInv s) ?_ ⟨0, none, [], 0, 0⟩ .empty ⟨by simp, rfl, rfl, rfl, Own.nil _ _, by decide, rfl⟩
  rintro b ⟨j, ob, out, left, n⟩ σ ⟨h1, h2, h3, h4, h5, h6, h7⟩ ih
  simp only at h1 h2 h3 h4 h5 h6 h7
  by_cases hlt : j < s.length
  · obtain ⟨c, hc⟩ := get_lt hlt
    have hcond := dlt hlt
    have hbyte := byte_get hc
    have hcall := callG' c σ
    have hw := wsucc hlt (by omega)
    have hle := numB_le c
    by_cases hv : numB c = 64
    · have he : ((numB c : Int) == 64) = true := by simp [hv]
      have hbad : okB s = false := okB_bad (by
        rw [List.all_eq_false]
        exact ⟨c, List.mem_of_getElem? hc, by simp [okC, hv]⟩)
      simp only [W2Fd, EXA, Nat.reduceEqDiff, reduceIte, reduceCtorEq, Nat.reduceAdd, Nat.reduceLeDiff, Nat.reduceSub, Nat.reduceMul, Int.reduceEq, Int.reduceBEq, Int.reduceBNe, Int.reduceLT, Int.reduceLE, Nat.reduceLT, VX, hcond, hbyte, hcall, he]
      exact ⟨_, rfl, g_err hbad⟩
    · have he : ((numB c : Int) == 64) = false := by simp; omega
      obtain ⟨l', hl', hl0, hl6⟩ := shl_or (v := numB c) h6 (by omega)
      have hw8 : IntKind.wrap .u64 ((n : Int) + 6) = ((n + 6 : Nat) : Int) := by simp [IntKind.wrap, IntKind.bits, IntKind.signed]; omega
      have hok : (s.take (j + 1)).all okC = true := by
        rw [take_succ' hc, List.all_append, h2]
        simp [okC]; omega
      have hlast : l' % 64 = lastV (s.take (j + 1)) := by
        rw [hl6, take_succ' hc]; simp [lastV]
      simp only [W2Fd, EXA, Nat.reduceEqDiff, reduceIte, reduceCtorEq, Nat.reduceAdd, Nat.reduceLeDiff, Nat.reduceSub, Nat.reduceMul, Int.reduceEq, Int.reduceBEq, Int.reduceBNe, Int.reduceLT, Int.reduceLE, Nat.reduceLT, VX, hcond, hbyte, hcall, he, shl_6, hl', hw8, hw]
      by_cases h8 : 8 ≤ n + 6
      · have hg : decide (((n + 6 : Nat) : Int) ≥ 8) = true := by simp; omega
        have hw9 : IntKind.wrap .u64 (((n + 6 : Nat) : Int) - 8) = ((n - 2 : Nat) : Int) := by simp [IntKind.wrap, IntKind.bits, IntKind.signed]; omega
        obtain ⟨z, hz⟩ : ∃ z, IntKind.wrap .u8 (shrN l' (n - 2)) = z := ⟨_, rfl⟩
        obtain ⟨σ2, happ, hown, _, _⟩ := h5.push (a := z) (bytes := 1) (by decide) (by unfold maxBytes; omega)
        have happ' : appendTo σ 1 1 (slOf 1 ob out.length) [AV.int .u8 z] 1 = some (slOf 1 (some σ.next) (out ++ [z]).length, σ2) := happ
        have hlo : lenOf (.vsl [AV.int .u8 z] (some 1)) = some 1 := rfl
        have hro : rowOf σ 1 (.vsl [AV.int .u8 z] (some 1)) = some [AV.int .u8 z] := rfl
        simp only [W2Fd, EXA, Nat.reduceEqDiff, reduceIte, reduceCtorEq, Nat.reduceAdd, Nat.reduceLeDiff, Nat.reduceSub, Nat.reduceMul, Int.reduceEq, Int.reduceBEq, Int.reduceBNe, Int.reduceLT, Int.reduceLE, Nat.reduceLT, VX, hg, hw9, hw, shr_N, hz, hlo, hro, happ']
        exact ih ⟨j + 1, some σ.next, out ++ [z], l', n - 2⟩ _ _ (by simp only; omega) ⟨hlt, hok, by simp only; omega, by simp only [List.length_append, List.length_cons, List.length_nil]; omega, hown, hl0, hlast⟩ rfl
      · have hg : decide (((n + 6 : Nat) : Int) ≥ 8) = false := by simp; omega
        simp only [W2Fd, EXA, Nat.reduceEqDiff, reduceIte, reduceCtorEq, Nat.reduceAdd, Nat.reduceLeDiff, Nat.reduceSub, Nat.reduceMul, Int.reduceEq, Int.reduceBEq, Int.reduceBNe, Int.reduceLT, Int.reduceLE, Nat.reduceLT, VX, hg, hw]
        exact ih ⟨j + 1, ob, out, l', n + 6⟩ _ _ (by simp only; omega) ⟨hlt, hok, by simp only; omega, by simp only; omega, h5, hl0, hlast⟩ rfl
  · have hcond := dge (Nat.not_lt.1 hlt)
    have hj : j = s.length := by omega
    subst hj
    rw [List.take_length] at h2 h7
    simp only [W2Fd, EXA, Nat.reduceEqDiff, reduceIte, reduceCtorEq, Nat.reduceAdd, Nat.reduceLeDiff, Nat.reduceSub, Nat.reduceMul, Int.reduceEq, Int.reduceBEq, Int.reduceBNe, Int.reduceLT, Int.reduceLE, Nat.reduceLT, VX, hcond]
    have hokB : okB s = (decide (n < 6) && decide (lastV s % 2 ^ n = 0)) := by unfold okB; rw [h2, h3, Bool.true_and]
    rcases (by omega : n = 0 ∨ n = 2 ∨ n = 4 ∨ n = 6) with hn | hn | hn | hn <;> (clear h3; subst hn)
    · have hg : decide (((0 : Nat) : Int) ≥ 6) = false := rfl
      have hs : shiftInt .shl .u64 1 ((0 : Nat) : Int) = some (.int .u64 1) := rfl
      have hm : IntKind.wrap .u64 (1 - 1) = 2 ^ 0 - 1 := rfl
      have ha := and_low h6 0 (by decide)
      have hd : left % 2 ^ 0 = ((lastV s % 2 ^ 0 : Nat) : Int) := by omega
      rw [hd] at ha
      by_cases hz : lastV s % 2 ^ 0 = 0
      · have hne : (((lastV s % 2 ^ 0 : Nat) : Int) != 0) = false := by rw [hz]; rfl
        simp only [W2Fb, EXA, Nat.reduceEqDiff, reduceIte, reduceCtorEq, Nat.reduceAdd, Nat.reduceLeDiff, Nat.reduceSub, Nat.reduceMul, Int.reduceEq, Int.reduceBEq, Int.reduceBNe, Int.reduceLT, Int.reduceLE, Nat.reduceLT, VX, hg, hs, hm, ha, hne]
        refine ⟨_, rfl, out, 0, rbE_tup2 h5.gr, by rw [hokB, hz]; rfl, fun _ => h4⟩
      · have hne : (((lastV s % 2 ^ 0 : Nat) : Int) != 0) = true := by rw [bne_iff_ne]; omega
        simp only [W2Fb, EXA, Nat.reduceEqDiff, reduceIte, reduceCtorEq, Nat.reduceAdd, Nat.reduceLeDiff, Nat.reduceSub, Nat.reduceMul, Int.reduceEq, Int.reduceBEq, Int.reduceBNe, Int.reduceLT, Int.reduceLE, Nat.reduceLT, VX, hg, hs, hm, ha, hne]
        exact ⟨_, rfl, g_err (by rw [hokB, decide_eq_false hz, Bool.and_false])⟩
    · have hg : decide (((2 : Nat) : Int) ≥ 6) = false := rfl
      have hs : shiftInt .shl .u64 1 ((2 : Nat) : Int) = some (.int .u64 4) := rfl
      have hm : IntKind.wrap .u64 (4 - 1) = 2 ^ 2 - 1 := rfl
      have ha := and_low h6 2 (by decide)
      have hd : left % 2 ^ 2 = ((lastV s % 2 ^ 2 : Nat) : Int) := by omega
      rw [hd] at ha
      by_cases hz : lastV s % 2 ^ 2 = 0
      · have hne : (((lastV s % 2 ^ 2 : Nat) : Int) != 0) = false := by rw [hz]; rfl
        simp only [W2Fb, EXA, Nat.reduceEqDiff, reduceIte, reduceCtorEq, Nat.reduceAdd, Nat.reduceLeDiff, Nat.reduceSub, Nat.reduceMul, Int.reduceEq, Int.reduceBEq, Int.reduceBNe, Int.reduceLT, Int.reduceLE, Nat.reduceLT, VX, hg, hs, hm, ha, hne]
        refine ⟨_, rfl, out, 0, rbE_tup2 h5.gr, by rw [hokB, hz]; rfl, fun _ => h4⟩
      · have hne : (((lastV s % 2 ^ 2 : Nat) : Int) != 0) = true := by rw [bne_iff_ne]; omega
        simp only [W2Fb, EXA, Nat.reduceEqDiff, reduceIte, reduceCtorEq, Nat.reduceAdd, Nat.reduceLeDiff, Nat.reduceSub, Nat.reduceMul, Int.reduceEq, Int.reduceBEq, Int.reduceBNe, Int.reduceLT, Int.reduceLE, Nat.reduceLT, VX, hg, hs, hm, ha, hne]
        exact ⟨_, rfl, g_err (by rw [hokB, decide_eq_false hz, Bool.and_false])⟩
    · have hg : decide (((4 : Nat) : Int) ≥ 6) = false := rfl
      have hs : shiftInt .shl .u64 1 ((4 : Nat) : Int) = some (.int .u64 16) := rfl
      have hm : IntKind.wrap .u64 (16 - 1) = 2 ^ 4 - 1 := rfl
      have ha := and_low h6 4 (by decide)
      have hd : left % 2 ^ 4 = ((lastV s % 2 ^ 4 : Nat) : Int) := by omega
      rw [hd] at ha
      by_cases hz : lastV s % 2 ^ 4 = 0
      · have hne : (((lastV s % 2 ^ 4 : Nat) : Int) != 0) = false := by rw [hz]; rfl
        simp only [W2Fb, EXA, Nat.reduceEqDiff, reduceIte, reduceCtorEq, Nat.reduceAdd, Nat.reduceLeDiff, Nat.reduceSub, Nat.reduceMul, Int.reduceEq, Int.reduceBEq, Int.reduceBNe, Int.reduceLT, Int.reduceLE, Nat.reduceLT, VX, hg, hs, hm, ha, hne]
        refine ⟨_, rfl, out, 0, rbE_tup2 h5.gr, by rw [hokB, hz]; rfl, fun _ => h4⟩
      · have hne : (((lastV s % 2 ^ 4 : Nat) : Int) != 0) = true := by rw [bne_iff_ne]; omega
        simp only [W2Fb, EXA, Nat.reduceEqDiff, reduceIte, reduceCtorEq, Nat.reduceAdd, Nat.reduceLeDiff, Nat.reduceSub, Nat.reduceMul, Int.reduceEq, Int.reduceBEq, Int.reduceBNe, Int.reduceLT, Int.reduceLE, Nat.reduceLT, VX, hg, hs, hm, ha, hne]
        exact ⟨_, rfl, g_err (by rw [hokB, decide_eq_false hz, Bool.and_false])⟩
    · have hg : decide (((6 : Nat) : Int) ≥ 6) = true := rfl
      simp only [W2Fb, EXA, Nat.reduceEqDiff, reduceIte, reduceCtorEq, Nat.reduceAdd, Nat.reduceLeDiff, Nat.reduceSub, Nat.reduceMul, Int.reduceEq, Int.reduceBEq, Int.reduceBNe, Int.reduceLT, Int.reduceLE, Nat.reduceLT, VX, hg]
      exact ⟨_, rfl, g_err (by rw [hokB]; rfl)⟩
theorem r_get64 (s : Bs) (hb : s.length < lim) : ∃ (bs : List Int) (e : Int), cR 164 [.str s, fG] = some (.tup [.vsl (bs.map (AV.int .u8)) none, .int .i64 e]) ∧ (e == 0) = okB s ∧ (okB s = true → bs.length = 6 * s.length / 8) := by
  obtain ⟨r, σ', h1, bs, e, h2, h3, h4⟩ := get_ex s hb
  refine ⟨bs, e, ?_, h3, h4⟩
  show callR ipU gU (.fn 164 [] []) _ = _
  unfold callR
  rw [h1]; exact h2
theorem r_GetURL (s : Bs) (hb : s.length < lim) : ∃ (bs : List Int) (e : Int), cR 157 [.str s] = some (.tup [.vsl (bs.map (AV.int .u8)) none, .int .i64 e]) ∧ (e == 0) = okB s ∧ (okB s = true → bs.length = 6 * s.length / 8) := by
  obtain ⟨bs, e, h1, h2, h3⟩ := r_get64 s hb
  refine ⟨bs, e, cR_of (F := F157) rfl ?_, h2, h3⟩
  have hg : gU 3 = [.int .u8 45, .int .u8 95] := rfl
  simp only [fG, aURL] at h1
  simp only [F157, EXA, Nat.reduceEqDiff, reduceIte, reduceCtorEq, Nat.reduceAdd, Nat.reduceLeDiff, Nat.reduceSub, Nat.reduceMul, Int.reduceEq, Int.reduceBEq, Int.reduceBNe, Int.reduceLT, Int.reduceLE, Nat.reduceLT, VX, readAt_some, hg, h1]
end Go.Ab
