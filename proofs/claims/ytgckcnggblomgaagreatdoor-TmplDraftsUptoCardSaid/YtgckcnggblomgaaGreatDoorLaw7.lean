/- What functions of the program, and of the library, answer. Conditions: none. -/
import Derived.Test.YtgckcnggblomgaaGreatDoorLaw6
import Derived.Test.YtgckcnggblomgaaGreatDoorLaw5
set_option linter.unusedVariables false
set_option linter.unusedSimpArgs false
set_option linter.defProp false
/- What is the same is found the same. -/
namespace Go.Ab
set_option maxHeartbeats 1000000
def S2Fa := J @F11_1.eq_1 (@F11.eq_1)
def S2Fc := J @F35_11.eq_1 (J @F35_22.eq_1 (J @F35_23.eq_1 (J @F35_32.eq_1 (J @F35_43.eq_1 (J @F35_44.eq_1 (J @F35_48.eq_1 (J @F35_51.eq_1 (J @F35_52.eq_1 (@F35.eq_1)))))))))
def S2Ff := J @F35_11.eq_1 (J @F35_22.eq_1 (J @F35_23.eq_1 (J @F35_32.eq_1 (J @F35_43.eq_1 (J @F35_44.eq_1 (J @F35_48.eq_1 (J @F35_51.eq_1 (@F35.eq_1))))))))
set_option maxRecDepth 100000
theorem bsB (s : Bs) : (s == s) = true := by simp
theorem bsN (s : Bs) : (!(s == s)) = false := by simp
theorem intB (n : Int) : (n == n) = true := by simp
theorem intN (n : Int) : (n != n) = false := by simp
theorem natN (n : Nat) : (!decide (n = n)) = false := by simp
theorem boolB (n : Bool) : (n == n) = true := by simp
theorem same_tail (v : V) (σ : Store) (hb : v.sz < big) (ih : ∀ x ∈ v.m, cR 35 [x.2.enc, x.2.enc] = some (.bool true)) {r : AV} (hr : r = .bool true) :
    Ex ipU gU [.code F35_52] [(2, .vptr [.int .i64 v.kind, .int .i64 v.n, .str v.s, .vsl (v.l.map V.enc) none, .vsl (v.m.map memE) none] 0), (3, .vptr [.int .i64 v.kind, .int .i64 v.n, .str v.s, .vsl (v.l.map V.enc) none, .vsl (v.m.map memE) none] 0)] σ fun fr' σ1 => (resAll fr' σ1 F35.res).bind (rbE σ1) = some r := by
  have hm := m_len_sz v
  unfold big at hb
  simp only [F35_11, F35_22, F35_23, F35_32, F35_43, F35_48, F35_51, F35_52, F35, ex_loop, EXA, Nat.reduceEqDiff, reduceIte, reduceCtorEq, Nat.reduceAdd, Nat.reduceLeDiff, Nat.reduceSub, Nat.reduceMul, Int.reduceEq, Int.reduceBEq, Int.reduceBNe, Int.reduceLT, Int.reduceLE, Nat.reduceLT, VX, readAt_some]
  refine ex_while (S := Nat) (fun j => [(2, .vptr [.int .i64 v.kind, .int .i64 v.n, .str v.s, .vsl (v.l.map V.enc) none, .vsl (v.m.map memE) none] 0), (3, .vptr [.int .i64 v.kind, .int .i64 v.n, .str v.s, .vsl (v.l.map V.enc) none, .vsl (v.m.map memE) none] 0), (6, .int .i64 (j : Int))]) (fun _ => σ) (fun j => v.m.length - j) (fun _ => True) ?_ 0 trivial
  intro b j _ ih2
  by_cases hlt : j < v.m.length
  · obtain ⟨x, hx⟩ := get_lt hlt
    have hidx := idx_map (f := memE) (sz := 6) (c := none) hx (by simp [memE_cells])
    have hcond := dlt hlt
    have hw := wsucc hlt (by omega)
    have hcall := ih x (List.mem_of_getElem? hx)
    simp only [S2Fc, EXA, Nat.reduceEqDiff, reduceIte, reduceCtorEq, Nat.reduceAdd, Nat.reduceLeDiff, Nat.reduceSub, Nat.reduceMul, Int.reduceEq, Int.reduceBEq, Int.reduceBNe, Int.reduceLT, Int.reduceLE, Nat.reduceLT, VX, readAt_some, hcond, hidx, bsN, bsB, hcall, hw]
    exact ih2 (j + 1) _ _ (by omega) trivial rfl rfl
  · have hcond := dge (Nat.not_lt.1 hlt)
    simp only [S2Fc, EXA, Nat.reduceEqDiff, reduceIte, reduceCtorEq, Nat.reduceAdd, Nat.reduceLeDiff, Nat.reduceSub, Nat.reduceMul, Int.reduceEq, Int.reduceBEq, Int.reduceBNe, Int.reduceLT, Int.reduceLE, Nat.reduceLT, VX, readAt_some, hcond, hr]
theorem r_sameN : ∀ (n : Nat) (v : V), v.sz < n → v.sz < big → cR 35 [v.enc, v.enc] = some (.bool true) := by
  intro n
  induction n with
  | zero => intro v h; omega
  | succ n ih =>
    intro v h hb
    have hsz := v.sz_eq
    have hl := szL_len v.l
    have ihL : ∀ x ∈ v.l, cR 35 [x.enc, x.enc] = some (.bool true) := fun x hx => by
      have := szL_mem hx
      exact ih x (by omega) (by omega)
    have ihM : ∀ x ∈ v.m, cR 35 [x.2.enc, x.2.enc] = some (.bool true) := fun x hx => by
      have := szM_mem hx
      exact ih x.2 (by omega) (by omega)
    refine cR_of (F := F35) rfl ?_
    obtain ⟨r, hr⟩ : ∃ r, r = AV.bool true := ⟨_, rfl⟩
    rw [← hr]
    unfold big at hb
    simp only [F35_11, F35_22, F35_32, F35_43, F35_44, F35_48, F35_51, F35, ex_loop, EXA, Nat.reduceEqDiff, reduceIte, reduceCtorEq, Nat.reduceAdd, Nat.reduceLeDiff, Nat.reduceSub, Nat.reduceMul, Int.reduceEq, Int.reduceBEq, Int.reduceBNe, Int.reduceLT, Int.reduceLE, Nat.reduceLT, VX, readAt_some, intN, bsN, natN, List.length_map]
    refine ex_while (S := Nat) (fun j => [(2, .vptr [.int .i64 v.kind, .int .i64 v.n, .str v.s, .vsl (v.l.map V.enc) none, .vsl (v.m.map memE) none] 0), (3, .vptr [.int .i64 v.kind, .int .i64 v.n, .str v.s, .vsl (v.l.map V.enc) none, .vsl (v.m.map memE) none] 0), (5, .int .i64 (j : Int))]) (fun _ => .empty) (fun j => v.l.length - j) (fun _ => True) ?_ 0 trivial
    intro b j _ ih2
    by_cases hlt : j < v.l.length
    · obtain ⟨x, hx⟩ := get_lt hlt
      have hidx := idx_map (f := V.enc) (sz := 5) (c := none) hx (by simp [V.enc_cells])
      have hcond := dlt hlt
      have hw := wsucc hlt (by omega)
      have hcall := ihL x (List.mem_of_getElem? hx)
      simp only [S2Ff, EXA, Nat.reduceEqDiff, reduceIte, reduceCtorEq, Nat.reduceAdd, Nat.reduceLeDiff, Nat.reduceSub, Nat.reduceMul, Int.reduceEq, Int.reduceBEq, Int.reduceBNe, Int.reduceLT, Int.reduceLE, Nat.reduceLT, VX, readAt_some, hcond, hidx, hcall, hw]
      exact ih2 (j + 1) _ _ (by omega) trivial rfl rfl
    · have hcond := dge (Nat.not_lt.1 hlt)
      simp only [S2Ff, EXA, Nat.reduceEqDiff, reduceIte, reduceCtorEq, Nat.reduceAdd, Nat.reduceLeDiff, Nat.reduceSub, Nat.reduceMul, Int.reduceEq, Int.reduceBEq, Int.reduceBNe, Int.reduceLT, Int.reduceLE, Nat.reduceLT, VX, readAt_some, hcond]
      exact same_tail v _ hb ihM hr
theorem r_same (v : V) (hb : v.sz < big) : cR 35 [v.enc, v.enc] = some (.bool true) := r_sameN (v.sz + 1) v (Nat.lt_succ_self _) hb
theorem exc (e : Ev) : (evE e).cells = evC e := rfl
theorem exr_ts (e : Ev) : (evC e)[11]? = some (.int .i64 e.ts) := rfl
theorem exr_depth (e : Ev) : (evC e)[12]? = some (.int .i64 e.depth) := rfl
theorem exr_v (e : Ev) : readAt (evC e) 0 (some 5) = some e.v.enc := by rw [V.enc_eq]; rfl
section
variable {e : Ev} {k : List Item} {σ : Store} {Q : Fr → Store → Prop}
abbrev seF (e : Ev) (t : Nat) : Fr := [(2, .vptr (evC e) 0), (3, .vptr (evC e) 0), (t, .bool true)]
abbrev seT (n : Nat) : List IOper := (opsOf F11_1).drop n
theorem se0 : Ex ipU gU (.ops (opsOf F11_1) :: .code (.keep [4] .ret) :: k) [(2, .vptr (evC e) 0), (3, .vptr (evC e) 0)] σ Q ↔ Ex ipU gU (.ops (seT 6) :: .code (.keep [4] .ret) :: k) (seF e 10) σ Q := by
  rw [ex_cut 6]
  have hl : (liveIn [4] (seT 6)).all (([2, 3, 10] : List Nat).contains ·) = true := by kernel_rfl
  unfold seT at hl ⊢
  generalize (opsOf F11_1).drop 6 = tl at hl ⊢
  simp only [opsOf, S2Fa, EXA, Nat.reduceEqDiff, reduceIte, reduceCtorEq, Nat.reduceAdd, Nat.reduceLeDiff, Nat.reduceSub, Nat.reduceMul, Int.reduceEq, Int.reduceBEq, Int.reduceBNe, Int.reduceLT, Int.reduceLE, Nat.reduceLT, EVR, bsB]
  rw [ex_prune [2, 3, 10] hl]
  simp only [EXA, Nat.reduceEqDiff, reduceIte, reduceCtorEq, Nat.reduceAdd, Nat.reduceLeDiff, Nat.reduceSub, Nat.reduceMul, Int.reduceEq, Int.reduceBEq, Int.reduceBNe, Int.reduceLT, Int.reduceLE, Nat.reduceLT]
theorem se1 : Ex ipU gU (.ops (seT 6) :: .code (.keep [4] .ret) :: k) (seF e 10) σ Q ↔ Ex ipU gU (.ops (seT 13) :: .code (.keep [4] .ret) :: k) (seF e 17) σ Q := by
  have hd : seT 13 = (seT 6).drop 7 := rfl
  rw [ex_cut 7, hd]
  have hl : (liveIn [4] ((seT 6).drop 7)).all (([2, 3, 17] : List Nat).contains ·) = true := by kernel_rfl
  generalize (seT 6).drop 7 = tl at hl ⊢
  simp only [seT, opsOf, S2Fa, EXA, Nat.reduceEqDiff, reduceIte, reduceCtorEq, Nat.reduceAdd, Nat.reduceLeDiff, Nat.reduceSub, Nat.reduceMul, Int.reduceEq, Int.reduceBEq, Int.reduceBNe, Int.reduceLT, Int.reduceLE, Nat.reduceLT, EVR, exr_ts, exr_depth, exr_v, bsB, intB, boolB]
  rw [ex_prune [2, 3, 17] hl]
  simp only [EXA, Nat.reduceEqDiff, reduceIte, reduceCtorEq, Nat.reduceAdd, Nat.reduceLeDiff, Nat.reduceSub, Nat.reduceMul, Int.reduceEq, Int.reduceBEq, Int.reduceBNe, Int.reduceLT, Int.reduceLE, Nat.reduceLT]
theorem se2 : Ex ipU gU (.ops (seT 13) :: .code (.keep [4] .ret) :: k) (seF e 17) σ Q ↔ Ex ipU gU (.ops (seT 20) :: .code (.keep [4] .ret) :: k) (seF e 24) σ Q := by
  have hd : seT 20 = (seT 13).drop 7 := rfl
  rw [ex_cut 7, hd]
  have hl : (liveIn [4] ((seT 13).drop 7)).all (([2, 3, 24] : List Nat).contains ·) = true := by kernel_rfl
  generalize (seT 13).drop 7 = tl at hl ⊢
  simp only [seT, opsOf, S2Fa, EXA, Nat.reduceEqDiff, reduceIte, reduceCtorEq, Nat.reduceAdd, Nat.reduceLeDiff, Nat.reduceSub, Nat.reduceMul, Int.reduceEq, Int.reduceBEq, Int.reduceBNe, Int.reduceLT, Int.reduceLE, Nat.reduceLT, EVR, exr_ts, exr_depth, exr_v, bsB, intB, boolB]
  rw [ex_prune [2, 3, 24] hl]
  simp only [EXA, Nat.reduceEqDiff, reduceIte, reduceCtorEq, Nat.reduceAdd, Nat.reduceLeDiff, Nat.reduceSub, Nat.reduceMul, Int.reduceEq, Int.reduceBEq, Int.reduceBNe, Int.reduceLT, Int.reduceLE, Nat.reduceLT]
theorem se3 : Ex ipU gU (.ops (seT 20) :: .code (.keep [4] .ret) :: k) (seF e 24) σ Q ↔ Ex ipU gU (.ops (seT 27) :: .code (.keep [4] .ret) :: k) (seF e 31) σ Q := by
  have hd : seT 27 = (seT 20).drop 7 := rfl
  rw [ex_cut 7, hd]
  have hl : (liveIn [4] ((seT 20).drop 7)).all (([2, 3, 31] : List Nat).contains ·) = true := by kernel_rfl
  generalize (seT 20).drop 7 = tl at hl ⊢
  simp only [seT, opsOf, S2Fa, EXA, Nat.reduceEqDiff, reduceIte, reduceCtorEq, Nat.reduceAdd, Nat.reduceLeDiff, Nat.reduceSub, Nat.reduceMul, Int.reduceEq, Int.reduceBEq, Int.reduceBNe, Int.reduceLT, Int.reduceLE, Nat.reduceLT, EVR, exr_ts, exr_depth, exr_v, bsB, intB, boolB]
  rw [ex_prune [2, 3, 31] hl]
  simp only [EXA, Nat.reduceEqDiff, reduceIte, reduceCtorEq, Nat.reduceAdd, Nat.reduceLeDiff, Nat.reduceSub, Nat.reduceMul, Int.reduceEq, Int.reduceBEq, Int.reduceBNe, Int.reduceLT, Int.reduceLE, Nat.reduceLT]
theorem se4 : Ex ipU gU (.ops (seT 27) :: .code (.keep [4] .ret) :: k) (seF e 31) σ Q ↔ Ex ipU gU (.ops (seT 34) :: .code (.keep [4] .ret) :: k) (seF e 38) σ Q := by
  have hd : seT 34 = (seT 27).drop 7 := rfl
  rw [ex_cut 7, hd]
  have hl : (liveIn [4] ((seT 27).drop 7)).all (([2, 3, 38] : List Nat).contains ·) = true := by kernel_rfl
  generalize (seT 27).drop 7 = tl at hl ⊢
  simp only [seT, opsOf, S2Fa, EXA, Nat.reduceEqDiff, reduceIte, reduceCtorEq, Nat.reduceAdd, Nat.reduceLeDiff, Nat.reduceSub, Nat.reduceMul, Int.reduceEq, Int.reduceBEq, Int.reduceBNe, Int.reduceLT, Int.reduceLE, Nat.reduceLT, EVR, exr_ts, exr_depth, exr_v, bsB, intB, boolB]
  rw [ex_prune [2, 3, 38] hl]
  simp only [EXA, Nat.reduceEqDiff, reduceIte, reduceCtorEq, Nat.reduceAdd, Nat.reduceLeDiff, Nat.reduceSub, Nat.reduceMul, Int.reduceEq, Int.reduceBEq, Int.reduceBNe, Int.reduceLT, Int.reduceLE, Nat.reduceLT]
theorem se5 : Ex ipU gU (.ops (seT 34) :: .code (.keep [4] .ret) :: k) (seF e 38) σ Q ↔ Ex ipU gU (.ops (seT 41) :: .code (.keep [4] .ret) :: k) (seF e 45) σ Q := by
  have hd : seT 41 = (seT 34).drop 7 := rfl
  rw [ex_cut 7, hd]
  have hl : (liveIn [4] ((seT 34).drop 7)).all (([2, 3, 45] : List Nat).contains ·) = true := by kernel_rfl
  generalize (seT 34).drop 7 = tl at hl ⊢
  simp only [seT, opsOf, S2Fa, EXA, Nat.reduceEqDiff, reduceIte, reduceCtorEq, Nat.reduceAdd, Nat.reduceLeDiff, Nat.reduceSub, Nat.reduceMul, Int.reduceEq, Int.reduceBEq, Int.reduceBNe, Int.reduceLT, Int.reduceLE, Nat.reduceLT, EVR, exr_ts, exr_depth, exr_v, bsB, intB, boolB]
  rw [ex_prune [2, 3, 45] hl]
  simp only [EXA, Nat.reduceEqDiff, reduceIte, reduceCtorEq, Nat.reduceAdd, Nat.reduceLeDiff, Nat.reduceSub, Nat.reduceMul, Int.reduceEq, Int.reduceBEq, Int.reduceBNe, Int.reduceLT, Int.reduceLE, Nat.reduceLT]
theorem se6 : Ex ipU gU (.ops (seT 41) :: .code (.keep [4] .ret) :: k) (seF e 45) σ Q ↔ Ex ipU gU (.ops (seT 48) :: .code (.keep [4] .ret) :: k) (seF e 52) σ Q := by
  have hd : seT 48 = (seT 41).drop 7 := rfl
  rw [ex_cut 7, hd]
  have hl : (liveIn [4] ((seT 41).drop 7)).all (([2, 3, 52] : List Nat).contains ·) = true := by kernel_rfl
  generalize (seT 41).drop 7 = tl at hl ⊢
  simp only [seT, opsOf, S2Fa, EXA, Nat.reduceEqDiff, reduceIte, reduceCtorEq, Nat.reduceAdd, Nat.reduceLeDiff, Nat.reduceSub, Nat.reduceMul, Int.reduceEq, Int.reduceBEq, Int.reduceBNe, Int.reduceLT, Int.reduceLE, Nat.reduceLT, EVR, exr_ts, exr_depth, exr_v, bsB, intB, boolB]
  rw [ex_prune [2, 3, 52] hl]
  simp only [EXA, Nat.reduceEqDiff, reduceIte, reduceCtorEq, Nat.reduceAdd, Nat.reduceLeDiff, Nat.reduceSub, Nat.reduceMul, Int.reduceEq, Int.reduceBEq, Int.reduceBNe, Int.reduceLT, Int.reduceLE, Nat.reduceLT]
theorem se7 : Ex ipU gU (.ops (seT 48) :: .code (.keep [4] .ret) :: k) (seF e 52) σ Q ↔ Ex ipU gU (.ops (seT 55) :: .code (.keep [4] .ret) :: k) (seF e 59) σ Q := by
  have hd : seT 55 = (seT 48).drop 7 := rfl
  rw [ex_cut 7, hd]
  have hl : (liveIn [4] ((seT 48).drop 7)).all (([2, 3, 59] : List Nat).contains ·) = true := by kernel_rfl
  generalize (seT 48).drop 7 = tl at hl ⊢
  simp only [seT, opsOf, S2Fa, EXA, Nat.reduceEqDiff, reduceIte, reduceCtorEq, Nat.reduceAdd, Nat.reduceLeDiff, Nat.reduceSub, Nat.reduceMul, Int.reduceEq, Int.reduceBEq, Int.reduceBNe, Int.reduceLT, Int.reduceLE, Nat.reduceLT, EVR, exr_ts, exr_depth, exr_v, bsB, intB, boolB]
  rw [ex_prune [2, 3, 59] hl]
  simp only [EXA, Nat.reduceEqDiff, reduceIte, reduceCtorEq, Nat.reduceAdd, Nat.reduceLeDiff, Nat.reduceSub, Nat.reduceMul, Int.reduceEq, Int.reduceBEq, Int.reduceBNe, Int.reduceLT, Int.reduceLE, Nat.reduceLT]
theorem se8 (c3 : cR 10 [.vsl (e.prev.map .str) none, .vsl (e.prev.map .str) none] = some (.bool true)) : Ex ipU gU (.ops (seT 55) :: .code (.keep [4] .ret) :: k) (seF e 59) σ Q ↔ Ex ipU gU (.ops (seT 62) :: .code (.keep [4] .ret) :: k) (seF e 66) σ Q := by
  have hd : seT 62 = (seT 55).drop 7 := rfl
  rw [ex_cut 7, hd]
  have hl : (liveIn [4] ((seT 55).drop 7)).all (([2, 3, 66] : List Nat).contains ·) = true := by kernel_rfl
  generalize (seT 55).drop 7 = tl at hl ⊢
  simp only [seT, opsOf, S2Fa, EXA, Nat.reduceEqDiff, reduceIte, reduceCtorEq, Nat.reduceAdd, Nat.reduceLeDiff, Nat.reduceSub, Nat.reduceMul, Int.reduceEq, Int.reduceBEq, Int.reduceBNe, Int.reduceLT, Int.reduceLE, Nat.reduceLT, EVR, exr_ts, exr_depth, exr_v, bsB, intB, boolB, c3, closedL_strs, erL_strs]
  rw [ex_prune [2, 3, 66] hl]
  simp only [EXA, Nat.reduceEqDiff, reduceIte, reduceCtorEq, Nat.reduceAdd, Nat.reduceLeDiff, Nat.reduceSub, Nat.reduceMul, Int.reduceEq, Int.reduceBEq, Int.reduceBNe, Int.reduceLT, Int.reduceLE, Nat.reduceLT]
theorem se9 (c3 : cR 10 [.vsl (e.auth.map .str) none, .vsl (e.auth.map .str) none] = some (.bool true)) : Ex ipU gU (.ops (seT 62) :: .code (.keep [4] .ret) :: k) (seF e 66) σ Q ↔ Ex ipU gU (.ops (seT 69) :: .code (.keep [4] .ret) :: k) (seF e 73) σ Q := by
  have hd : seT 69 = (seT 62).drop 7 := rfl
  rw [ex_cut 7, hd]
  have hl : (liveIn [4] ((seT 62).drop 7)).all (([2, 3, 73] : List Nat).contains ·) = true := by kernel_rfl
  generalize (seT 62).drop 7 = tl at hl ⊢
  simp only [seT, opsOf, S2Fa, EXA, Nat.reduceEqDiff, reduceIte, reduceCtorEq, Nat.reduceAdd, Nat.reduceLeDiff, Nat.reduceSub, Nat.reduceMul, Int.reduceEq, Int.reduceBEq, Int.reduceBNe, Int.reduceLT, Int.reduceLE, Nat.reduceLT, EVR, exr_ts, exr_depth, exr_v, bsB, intB, boolB, c3, closedL_strs, erL_strs]
  rw [ex_prune [2, 3, 73] hl]
  simp only [EXA, Nat.reduceEqDiff, reduceIte, reduceCtorEq, Nat.reduceAdd, Nat.reduceLeDiff, Nat.reduceSub, Nat.reduceMul, Int.reduceEq, Int.reduceBEq, Int.reduceBNe, Int.reduceLT, Int.reduceLE, Nat.reduceLT]
theorem se10 (c3 : cR 35 [e.content.enc, e.content.enc] = some (.bool true)) : Ex ipU gU (.ops (seT 69) :: .code (.keep [4] .ret) :: k) (seF e 73) σ Q ↔ Ex ipU gU (.ops (seT 76) :: .code (.keep [4] .ret) :: k) (seF e 80) σ Q := by
  have hd : seT 76 = (seT 69).drop 7 := rfl
  rw [ex_cut 7, hd]
  have hl : (liveIn [4] ((seT 69).drop 7)).all (([2, 3, 80] : List Nat).contains ·) = true := by kernel_rfl
  generalize (seT 69).drop 7 = tl at hl ⊢
  simp only [seT, opsOf, S2Fa, EXA, Nat.reduceEqDiff, reduceIte, reduceCtorEq, Nat.reduceAdd, Nat.reduceLeDiff, Nat.reduceSub, Nat.reduceMul, Int.reduceEq, Int.reduceBEq, Int.reduceBNe, Int.reduceLT, Int.reduceLE, Nat.reduceLT, EVR, exr_ts, exr_depth, exr_v, bsB, intB, boolB, c3, V.enc_closed, V.enc_er]
  rw [ex_prune [2, 3, 80] hl]
  simp only [EXA, Nat.reduceEqDiff, reduceIte, reduceCtorEq, Nat.reduceAdd, Nat.reduceLeDiff, Nat.reduceSub, Nat.reduceMul, Int.reduceEq, Int.reduceBEq, Int.reduceBNe, Int.reduceLT, Int.reduceLE, Nat.reduceLT]
end
theorem r_sameEvent (e : Ev) (h1 : e.v.sz < big) (h2 : e.content.sz < big) (h3 : e.prev.length < big) (h4 : e.auth.length < big) : cR 11 [evE e, evE e] = some (.bool true) := by
  have c1 := r_same e.v h1
  have c2 := r_same e.content h2
  have c3 := r_Texts e.prev e.prev h3
  have c4 := r_Texts e.auth e.auth h4
  simp only [BEq.rfl] at c3 c4
  refine cR_of (F := F11) rfl ?_
  simp only [F11, EXA, Nat.reduceEqDiff, reduceIte, reduceCtorEq, Nat.reduceAdd, Nat.reduceLeDiff, Nat.reduceSub, Nat.reduceMul, Int.reduceEq, Int.reduceBEq, Int.reduceBNe, Int.reduceLT, Int.reduceLE, Nat.reduceLT, exc, evE_known]
  have h0 : ∀ {k : List Item} {σ : Store} {Q : Fr → Store → Prop}, Ex ipU gU (.code F11_1 :: .code (.keep [4] .ret) :: k) [(2, .vptr (evC e) 0), (3, .vptr (evC e) 0)] σ Q ↔ Ex ipU gU (.ops (opsOf F11_1) :: .code (.keep [4] .ret) :: k) [(2, .vptr (evC e) 0), (3, .vptr (evC e) 0)] σ Q := ex_region
  rw [h0, se0, se1, se2, se3, se4, se5, se6, se7, se8 c3, se9 c4, se10 c2]
  simp only [seT, opsOf, S2Fa, EXA, Nat.reduceEqDiff, reduceIte, reduceCtorEq, Nat.reduceAdd, Nat.reduceLeDiff, Nat.reduceSub, Nat.reduceMul, Int.reduceEq, Int.reduceBEq, Int.reduceBNe, Int.reduceLT, Int.reduceLE, Nat.reduceLT, EVR, exr_v, c1, V.enc_closed, V.enc_er]
end Go.Ab
/- The document's: which values are good. -/
namespace Go.Ab
set_option maxHeartbeats 1000000
set_option maxRecDepth 100000
theorem r_mayN : ∀ (n : Nat) (v : V), v.sz < n → v.sz < big → cR 80 [v.enc] = some (.bool v.fine) := by
  intro n
  induction n with
  | zero => intro v h; omega
  | succ n ih =>
    intro v h hb
    have hsz := v.sz_eq
    have ihL : ∀ x ∈ v.l, cR 80 [x.enc] = some (.bool x.fine) := fun x hx => by
      have := szL_mem hx
      exact ih x (by omega) (by omega)
    have ihM : ∀ x ∈ v.m, cR 80 [x.2.enc] = some (.bool x.2.fine) := fun x hx => by
      have := szM_mem hx
      exact ih x.2 (by omega) (by omega)
    by_cases h0 : v.kind = 0
    · exact may0 v h0
    by_cases h1 : v.kind = 1
    · exact may1 v h1
    by_cases h2 : v.kind = 2
    · exact may2 v h2
    by_cases h3 : v.kind = 3
    · exact may3 v h3 (by omega)
    by_cases h4 : v.kind = 4
    · exact may4 v h4 hb ihL
    by_cases h5 : v.kind = 5
    · exact may5 v h5 hb ihM
    exact mayNo v h0 h1 h2 h3 h4 h5
theorem r_may (v : V) (hb : v.sz < big) : cR 80 [v.enc] = some (.bool v.fine) := r_mayN (v.sz + 1) v (Nat.lt_succ_self _) hb
theorem r_refGood (v : V) (hb : v.sz < big) : cR 69 [v.enc] = some (.bool v.good) := by
  have h1 := r_refDep v hb
  have h2 := r_may v hb
  have hd : decide ((v.dep : Int) ≤ 50) = decide (v.dep ≤ 50) := by
    rw [decide_eq_decide]; omega
  refine cR_of (F := F69) rfl ?_
  unfold V.good
  cases hq : decide (v.dep ≤ 50) <;> rw [hq] at hd <;> simp only [F69, EXA, Nat.reduceEqDiff, reduceIte, reduceCtorEq, Nat.reduceAdd, Nat.reduceLeDiff, Nat.reduceSub, Nat.reduceMul, Int.reduceEq, Int.reduceBEq, Int.reduceBNe, Int.reduceLT, Int.reduceLE, Nat.reduceLT, VX, readAt_some, h1, h2, hd, Bool.and_true, Bool.and_false]
end Go.Ab
/- The document's: what stands under a key. -/
namespace Go.Ab
set_option maxHeartbeats 1000000
def S8Fa := J @F70_11.eq_1 (J @F70_22.eq_1 (J @F70_23.eq_1 (@F70.eq_1)))
def S8Fb := J @F70_11.eq_1 (J @F70_22.eq_1 (@F70.eq_1))
set_option maxRecDepth 100000
def getR (v : V) (k : Bs) : V × Bool := if v.kind = 5 then (match lookM v.m k with | some x => (x, true) | none => (V.zero, false)) else (V.zero, false)
theorem V.zero_enc : V.zero.enc = .agg [.int .i64 0, .int .i64 0, .str [], .vsl [] none, .vsl [] none] := by rw [V.enc_eq]; rfl
theorem r_refGet (v : V) (k : Bs) (hb : v.sz < big) : cR 70 [v.enc, .str k] = some (.tup [(getR v k).1.enc, .bool (getR v k).2]) := by
  have hmz := m_len_sz v
  unfold big at hb
  refine cR_of (F := F70) rfl ?_
  obtain ⟨r, hr⟩ : ∃ r, r = AV.tup [(getR v k).1.enc, .bool (getR v k).2] := ⟨_, rfl⟩
  rw [← hr]
  unfold getR at hr
  cases h5 : v.kind != 5 with
  | true =>
    have hk : v.kind ≠ 5 := by simpa using h5
    rw [if_neg hk] at hr
    simp only [S8Fb, EXA, Nat.reduceEqDiff, reduceIte, reduceCtorEq, Nat.reduceAdd, Nat.reduceLeDiff, Nat.reduceSub, Nat.reduceMul, Int.reduceEq, Int.reduceBEq, Int.reduceBNe, Int.reduceLT, Int.reduceLE, Nat.reduceLT, VX, readAt_some, h5, hr, V.zero_enc]
  | false =>
    have hk : v.kind = 5 := by simpa using h5
    rw [if_pos hk] at hr
    simp only [S8Fb, ex_loop, EXA, Nat.reduceEqDiff, reduceIte, reduceCtorEq, Nat.reduceAdd, Nat.reduceLeDiff, Nat.reduceSub, Nat.reduceMul, Int.reduceEq, Int.reduceBEq, Int.reduceBNe, Int.reduceLT, Int.reduceLE, Nat.reduceLT, VX, readAt_some, h5]
    refine ex_while (S := Nat) (fun j => [(1, .str k), (2, .vptr [.int .i64 v.kind, .int .i64 v.n, .str v.s, .vsl (v.l.map V.enc) none, .vsl (v.m.map memE) none] 0), (4, .ptr 0 0), (6, .int .i64 (j : Int))]) (fun _ => ⟨1, [(0, .own [.int .i64 0, .int .i64 0, .str [], .nils, .nils])]⟩) (fun j => v.m.length - j) (fun j => lookM (v.m.drop j) k = lookM v.m k) ?_ 0 rfl
    intro b j hj ih2
    by_cases hlt : j < v.m.length
    · obtain ⟨⟨key, x⟩, hx⟩ := get_lt hlt
      have hidx := idx_map (f := memE) (sz := 6) (c := none) hx (by simp [memE_cells])
      have hcond := dlt hlt
      have hw := wsucc hlt (by omega)
      rw [drop_cons hx, lookM] at hj
      cases hkk : key == k with
      | true =>
        have : key = k := by simpa using hkk
        rw [if_pos this] at hj
        rw [← hj] at hr
        simp only [S8Fa, EXA, Nat.reduceEqDiff, reduceIte, reduceCtorEq, Nat.reduceAdd, Nat.reduceLeDiff, Nat.reduceSub, Nat.reduceMul, Int.reduceEq, Int.reduceBEq, Int.reduceBNe, Int.reduceLT, Int.reduceLE, Nat.reduceLT, VX, readAt_some, hcond, hidx, hkk, hr]
      | false =>
        have : key ≠ k := by simpa using hkk
        rw [if_neg this] at hj
        simp only [S8Fa, EXA, Nat.reduceEqDiff, reduceIte, reduceCtorEq, Nat.reduceAdd, Nat.reduceLeDiff, Nat.reduceSub, Nat.reduceMul, Int.reduceEq, Int.reduceBEq, Int.reduceBNe, Int.reduceLT, Int.reduceLE, Nat.reduceLT, VX, readAt_some, hcond, hidx, hkk, hw]
        exact ih2 (j + 1) _ _ (by omega) hj rfl rfl
    · have hcond := dge (Nat.not_lt.1 hlt)
      rw [List.drop_eq_nil_of_le (by omega), lookM] at hj
      rw [← hj] at hr
      simp only [S8Fa, EXA, Nat.reduceEqDiff, reduceIte, reduceCtorEq, Nat.reduceAdd, Nat.reduceLeDiff, Nat.reduceSub, Nat.reduceMul, Int.reduceEq, Int.reduceBEq, Int.reduceBNe, Int.reduceLT, Int.reduceLE, Nat.reduceLT, VX, readAt_some, hcond, hr, V.zero_enc]
theorem getR_good {v : V} (k : Bs) (h : v.good = true) : getR v k = getV v k := by
  unfold getR
  by_cases h5 : v.kind = 5
  · have hf : v.fine = true := by unfold V.good at h; simp at h; exact h.1
    rw [if_pos h5, getV_rises k h5 (fine_rises h5 hf)]
    cases lookM v.m k <;> rfl
  · rw [if_neg h5, getV_other k h5]
end Go.Ab
/- The document's: texts under a key. -/
namespace Go.Ab
set_option maxHeartbeats 1000000
def S9Fa := @F58.eq_1
set_option maxRecDepth 100000
def textR (v : V) (k : Bs) : Bs × Bool := if (getR v k).2 && (getR v k).1.kind == 3 then ((getR v k).1.s, true) else ([], false)
theorem r_refTextAt (v : V) (k : Bs) (hb : v.sz < big) : cR 58 [v.enc, .str k] = some (.tup [.str (textR v k).1, .bool (textR v k).2]) := by
  have h := r_refGet v k hb
  unfold textR
  generalize getR v k = g at h ⊢
  obtain ⟨x, b⟩ := g
  simp only at h ⊢
  obtain ⟨r, hr⟩ : ∃ r, r = AV.tup [.str (if (b && x.kind == 3) = true then (x.s, true) else (([] : Bs), false)).1, .bool (if (b && x.kind == 3) = true then (x.s, true) else (([] : Bs), false)).2] := ⟨_, rfl⟩
  rw [← hr]
  refine cR_of (F := F58) rfl ?_
  cases b with
  | false =>
    simp only [Bool.false_and, Bool.false_eq_true, if_false] at hr
    simp only [S9Fa, EXA, Nat.reduceEqDiff, reduceIte, reduceCtorEq, Nat.reduceAdd, Nat.reduceLeDiff, Nat.reduceSub, Nat.reduceMul, Int.reduceEq, Int.reduceBEq, Int.reduceBNe, Int.reduceLT, Int.reduceLE, Nat.reduceLT, VX, readAt_some, h, hr]
  | true =>
    have hb3 : (x.kind != 3) = !(x.kind == 3) := rfl
    cases h3 : x.kind == 3 with
    | false =>
      rw [h3] at hb3
      simp only [h3, Bool.and_false, Bool.false_eq_true, if_false] at hr
      simp only [S9Fa, EXA, Nat.reduceEqDiff, reduceIte, reduceCtorEq, Nat.reduceAdd, Nat.reduceLeDiff, Nat.reduceSub, Nat.reduceMul, Int.reduceEq, Int.reduceBEq, Int.reduceBNe, Int.reduceLT, Int.reduceLE, Nat.reduceLT, VX, readAt_some, h, hb3, Bool.not_false, hr]
    | true =>
      rw [h3] at hb3
      simp only [h3, Bool.and_self, if_true] at hr
      simp only [S9Fa, EXA, Nat.reduceEqDiff, reduceIte, reduceCtorEq, Nat.reduceAdd, Nat.reduceLeDiff, Nat.reduceSub, Nat.reduceMul, Int.reduceEq, Int.reduceBEq, Int.reduceBNe, Int.reduceLT, Int.reduceLE, Nat.reduceLT, VX, readAt_some, h, hb3, Bool.not_true, hr]
theorem textR_good {v : V} (k : Bs) (h : v.good = true) : textR v k = textAt v k := by
  unfold textR textAt
  rw [getR_good k h]
end Go.Ab
/- The document's: a membership; letters and digits. -/
namespace Go.Ab
set_option maxHeartbeats 1000000
def S10Fb := @F56.eq_1
set_option maxRecDepth 100000
theorem textAt_no {v : V} (k : Bs) (h : v.kind ≠ 5) : textAt v k = ([], false) := by
  unfold textAt
  rw [getV_other k h]; rfl
theorem text_said (c : V) (k : Bs) : (if c.good = true then textR c k else ([], false)) = textAt (said c) k := by
  unfold said
  by_cases hg : c.good = true
  · rw [if_pos hg, textR_good k hg]
    by_cases h5 : c.kind = 5
    · rw [if_pos (by simp [hg, h5])]
    · rw [if_neg (by simp [h5]), textAt_no k h5, textAt_no k (by simp [V.zero, V.kind])]
  · rw [if_neg hg, if_neg (by simp [hg]), textAt_no k (by simp [V.zero, V.kind])]
theorem r_refText (c : V) (k : Bs) (hb : c.sz < big) : cR 56 [c.enc, .str k] = some (.tup [.str (textAt (said c) k).1, .bool (textAt (said c) k).2]) := by
  have h1 := r_refGood c hb
  have h2 := r_refTextAt c k hb
  rw [← text_said]
  refine cR_of (F := F56) rfl ?_
  cases hg : c.good with
  | false =>
    rw [hg] at h1
    simp only [S10Fb, EXA, Nat.reduceEqDiff, reduceIte, reduceCtorEq, Nat.reduceAdd, Nat.reduceLeDiff, Nat.reduceSub, Nat.reduceMul, Int.reduceEq, Int.reduceBEq, Int.reduceBNe, Int.reduceLT, Int.reduceLE, Nat.reduceLT, VX, readAt_some, h1, Bool.false_eq_true, if_false]
  | true =>
    rw [hg] at h1
    simp only [S10Fb, EXA, Nat.reduceEqDiff, reduceIte, reduceCtorEq, Nat.reduceAdd, Nat.reduceLeDiff, Nat.reduceSub, Nat.reduceMul, Int.reduceEq, Int.reduceBEq, Int.reduceBNe, Int.reduceLT, Int.reduceLE, Nat.reduceLT, VX, readAt_some, h1, h2, if_true]
theorem r_refMembership (c : V) (hb : c.sz < big) : cR 31 [c.enc] = some (.str (membershipV c)) := by
  have h := r_refText c kMembership hb
  refine cR_of (F := F31) rfl ?_
  simp only [F31, EXA, Nat.reduceEqDiff, reduceIte, reduceCtorEq, Nat.reduceAdd, Nat.reduceLeDiff, Nat.reduceSub, Nat.reduceMul, Int.reduceEq, Int.reduceBEq, Int.reduceBNe, Int.reduceLT, Int.reduceLE, Nat.reduceLT, VX, readAt_some, h, membershipV]
end Go.Ab
/- The document's: letters, digits. -/
namespace Go.Ab
set_option maxHeartbeats 1000000
set_option maxRecDepth 100000
def letB (c : UInt8) : Bool := (decide ((c.toNat : Int) ≥ 97) && decide ((c.toNat : Int) ≤ 122)) || (decide ((c.toNat : Int) ≥ 65) && decide ((c.toNat : Int) ≤ 90))
def digB (c : UInt8) : Bool := decide ((c.toNat : Int) ≥ 48) && decide ((c.toNat : Int) ≤ 57)
theorem r_letter (c : UInt8) : cR 104 [.int .u8 c.toNat] = some (.bool (letB c)) := by
  refine cR_of (F := F104) rfl ?_
  obtain ⟨r, hr⟩ : ∃ r, r = AV.bool (letB c) := ⟨_, rfl⟩
  rw [← hr]
  unfold letB at hr
  cases h1 : decide ((c.toNat : Int) ≥ 97) <;> cases h2 : decide ((c.toNat : Int) ≤ 122) <;> cases h3 : decide ((c.toNat : Int) ≥ 65) <;> cases h4 : decide ((c.toNat : Int) ≤ 90) <;>
  simp only [h1, h2, h3, h4, Bool.and_self, Bool.true_and, Bool.false_and, Bool.and_false, Bool.and_true, Bool.or_self, Bool.true_or, Bool.or_true, Bool.or_false, Bool.false_or] at hr <;>
  simp only [F104, EXA, Nat.reduceEqDiff, reduceIte, reduceCtorEq, Nat.reduceAdd, Nat.reduceLeDiff, Nat.reduceSub, Nat.reduceMul, Int.reduceEq, Int.reduceBEq, Int.reduceBNe, Int.reduceLT, Int.reduceLE, Nat.reduceLT, h1, h2, h3, h4, hr]
theorem r_digit (c : UInt8) : cR 105 [.int .u8 c.toNat] = some (.bool (digB c)) := by
  refine cR_of (F := F105) rfl ?_
  obtain ⟨r, hr⟩ : ∃ r, r = AV.bool (digB c) := ⟨_, rfl⟩
  rw [← hr]
  unfold digB at hr
  cases h1 : decide ((c.toNat : Int) ≥ 48) <;> cases h2 : decide ((c.toNat : Int) ≤ 57) <;>
  simp only [h1, h2, Bool.and_self, Bool.true_and, Bool.false_and, Bool.and_false, Bool.and_true] at hr <;>
  simp only [F105, EXA, Nat.reduceEqDiff, reduceIte, reduceCtorEq, Nat.reduceAdd, Nat.reduceLeDiff, Nat.reduceSub, Nat.reduceMul, Int.reduceEq, Int.reduceBEq, Int.reduceBNe, Int.reduceLT, Int.reduceLE, Nat.reduceLT, h1, h2, hr]
/-- What may stand in a name of a server. -/
def srvB (c : UInt8) : Bool := letB c || (digB c || (c == 46 || c == 45))
theorem srvB_eq (c : UInt8) : srvB c = setB lettersS c := u8_all (P := fun c => srvB c = setB lettersS c) (by decide +kernel) c
theorem digB_eq (c : UInt8) : digB c = setB digitsS c := u8_all (P := fun c => digB c = setB digitsS c) (by decide +kernel) c
end Go.Ab
/- The document's: names of servers. -/
namespace Go.Ab
set_option maxHeartbeats 1000000
def S12Fa := J @F97_5.eq_1 (J @F97_8.eq_1 (J @F97_9.eq_1 (J @F97_29.eq_1 (J @F97_40.eq_1 (J @F97_41.eq_1 (@F97.eq_1))))))
def S12Fb := J @F97_5.eq_1 (J @F97_8.eq_1 (J @F97_29.eq_1 (J @F97_40.eq_1 (@F97.eq_1))))
set_option maxRecDepth 100000
def nsr (s : Bs) (j : Nat) : Nat := j + ((s.drop j).takeWhile srvB).length
theorem nsr_hit {s : Bs} {j : Nat} {c : UInt8} (h : s[j]? = some c) (hc : srvB c = true) : nsr s j = nsr s (j + 1) := by
  unfold nsr
  rw [drop_cons h, List.takeWhile_cons, hc]
  simp; omega
theorem nsr_miss {s : Bs} {j : Nat} {c : UInt8} (h : s[j]? = some c) (hc : srvB c = false) : nsr s j = j := by
  unfold nsr
  rw [drop_cons h, List.takeWhile_cons, hc]
  simp
theorem nsr_end {s : Bs} {j : Nat} (h : s.length ≤ j) : nsr s j = j := by
  unfold nsr
  rw [List.drop_eq_nil_of_le h]; rfl
theorem nsr_le (s : Bs) : nsr s 0 ≤ s.length := by
  unfold nsr
  rw [List.drop_zero, Nat.zero_add]
  exact (List.takeWhile_sublist _).length_le
theorem eq8 (a b : UInt8) : ((a.toNat : Int) == (b.toNat : Int)) = (a == b) := by
  by_cases h : a = b
  · subst h; simp
  · have : (a.toNat : Int) ≠ (b.toNat : Int) := fun h' => h (UInt8.toNat_inj.1 (by omega))
    rw [beq_eq_false_iff_ne.2 this, beq_eq_false_iff_ne.2 h]
theorem eq46 (c : UInt8) : ((c.toNat : Int) == 46) = (c == 46) := eq8 c 46
theorem eq45 (c : UInt8) : ((c.toNat : Int) == 45) = (c == 45) := eq8 c 45
theorem eq58 (c : UInt8) : ((c.toNat : Int) == 58) = (c == 58) := eq8 c 58
def srvP (s : Bs) (i : Nat) : Bool := (s.drop (i + 1)).all digB && ((match s[i]? with | some c => c == 58 | none => false) && (decide (1 ≤ (s.drop (i + 1)).length) && decide ((s.drop (i + 1)).length ≤ 5)))
def serverR (s : Bs) : Bool := if nsr s 0 = 0 ∨ 255 < s.length then false else if nsr s 0 = s.length then true else srvP s (nsr s 0)
theorem sv_loop {s : Bs} {σ : Store} {K : List Item} {Q : Fr → Store → Prop} (hb : s.length < big) (hk : ∀ l : Fr, Ex ipU gU K ((0, .str s) :: (3, .int .i64 (nsr s 0 : Nat)) :: l) σ Q) :
    Ex ipU gU (.code F97_9 :: .inLoop [0, 3] F97_9 :: .inBlock 0 :: K) [(0, .str s), (3, .int .i64 0)] σ Q := by
  unfold big at hb
  refine ex_while (S := Nat) (fun j => [(0, .str s), (3, .int .i64 (j : Int))]) (fun _ => σ) (fun j => s.length - j) (fun j => nsr s j = nsr s 0) ?_ 0 rfl
  intro b j hj ih
  by_cases hlt : j < s.length
  · obtain ⟨c, hc⟩ := get_lt hlt
    have hcond := dlt hlt
    have hbyte := byte_get hc
    have hw := wsucc hlt (by omega)
    have q1 := r_letter c
    have q2 := r_digit c
    have hs : srvB c = (letB c || (digB c || (c == 46 || c == 45))) := rfl
    cases h1 : letB c with
    | true =>
      rw [h1, Bool.true_or] at hs
      have hk' := ih (j + 1)
      have hj' : nsr s (j + 1) = nsr s 0 := by rw [← nsr_hit hc hs]; exact hj
      simp only [S12Fa, EXA, Nat.reduceEqDiff, reduceIte, reduceCtorEq, Nat.reduceAdd, Nat.reduceLeDiff, Nat.reduceSub, Nat.reduceMul, Int.reduceEq, Int.reduceBEq, Int.reduceBNe, Int.reduceLT, Int.reduceLE, Nat.reduceLT, hcond, hbyte, q1, q2, h1, hw]
      exact ih (j + 1) _ _ (by omega) hj' rfl rfl
    | false =>
      rw [h1, Bool.false_or] at hs
      cases h2 : digB c with
      | true =>
        rw [h2, Bool.true_or] at hs
        have hj' : nsr s (j + 1) = nsr s 0 := by rw [← nsr_hit hc hs]; exact hj
        simp only [S12Fa, EXA, Nat.reduceEqDiff, reduceIte, reduceCtorEq, Nat.reduceAdd, Nat.reduceLeDiff, Nat.reduceSub, Nat.reduceMul, Int.reduceEq, Int.reduceBEq, Int.reduceBNe, Int.reduceLT, Int.reduceLE, Nat.reduceLT, hcond, hbyte, q1, q2, h1, h2, hw]
        exact ih (j + 1) _ _ (by omega) hj' rfl rfl
      | false =>
        rw [h2, Bool.false_or] at hs
        cases h3 : c == 46 with
        | true =>
          rw [h3, Bool.true_or] at hs
          have hj' : nsr s (j + 1) = nsr s 0 := by rw [← nsr_hit hc hs]; exact hj
          simp only [S12Fa, EXA, Nat.reduceEqDiff, reduceIte, reduceCtorEq, Nat.reduceAdd, Nat.reduceLeDiff, Nat.reduceSub, Nat.reduceMul, Int.reduceEq, Int.reduceBEq, Int.reduceBNe, Int.reduceLT, Int.reduceLE, Nat.reduceLT, hcond, hbyte, q1, q2, h1, h2, eq46, h3, hw]
          exact ih (j + 1) _ _ (by omega) hj' rfl rfl
        | false =>
          rw [h3, Bool.false_or] at hs
          cases h4 : c == 45 with
          | true =>
            rw [h4] at hs
            have hj' : nsr s (j + 1) = nsr s 0 := by rw [← nsr_hit hc hs]; exact hj
            simp only [S12Fa, EXA, Nat.reduceEqDiff, reduceIte, reduceCtorEq, Nat.reduceAdd, Nat.reduceLeDiff, Nat.reduceSub, Nat.reduceMul, Int.reduceEq, Int.reduceBEq, Int.reduceBNe, Int.reduceLT, Int.reduceLE, Nat.reduceLT, hcond, hbyte, q1, q2, h1, h2, eq46, eq45, h3, h4, hw]
            exact ih (j + 1) _ _ (by omega) hj' rfl rfl
          | false =>
            rw [h4] at hs
            rw [nsr_miss hc hs] at hj
            rw [← hj] at hk
            simp only [S12Fa, EXA, Nat.reduceEqDiff, reduceIte, reduceCtorEq, Nat.reduceAdd, Nat.reduceLeDiff, Nat.reduceSub, Nat.reduceMul, Int.reduceEq, Int.reduceBEq, Int.reduceBNe, Int.reduceLT, Int.reduceLE, Nat.reduceLT, hcond, hbyte, q1, q2, h1, h2, eq46, eq45, h3, h4]
            exact hk _
  · have hcond := dge (Nat.not_lt.1 hlt)
    rw [nsr_end (by omega)] at hj
    rw [← hj] at hk
    simp only [S12Fa, EXA, Nat.reduceEqDiff, reduceIte, reduceCtorEq, Nat.reduceAdd, Nat.reduceLeDiff, Nat.reduceSub, Nat.reduceMul, Int.reduceEq, Int.reduceBEq, Int.reduceBNe, Int.reduceLT, Int.reduceLE, Nat.reduceLT, hcond]
    exact hk _
theorem r_refServer (s : Bs) (hb : s.length < big) : cR 97 [.str s] = some (.bool (serverR s)) := by
  refine cR_of (F := F97) rfl ?_
  simp only [S12Fb, ex_loop, EXA, Nat.reduceEqDiff, reduceIte, reduceCtorEq, Nat.reduceAdd, Nat.reduceLeDiff, Nat.reduceSub, Nat.reduceMul, Int.reduceEq, Int.reduceBEq, Int.reduceBNe, Int.reduceLT, Int.reduceLE, Nat.reduceLT]
  refine sv_loop hb fun l => ?_
  unfold big at hb
  have hle := nsr_le s
  obtain ⟨r, hr⟩ : ∃ r, r = AV.bool (serverR s) := ⟨_, rfl⟩
  rw [← hr]
  unfold serverR at hr
  have h255 : decide ((s.length : Int) > 255) = decide (255 < s.length) := by rw [decide_eq_decide]; omega
  generalize hn : nsr s 0 = n at hr hle ⊢
  by_cases h0 : n = 0
  · subst h0
    have e0 : ((0 : Nat) : Int) == 0 := rfl
    rw [if_pos (Or.inl rfl)] at hr
    simp only [S12Fb, EXA, Nat.reduceEqDiff, reduceIte, reduceCtorEq, Nat.reduceAdd, Nat.reduceLeDiff, Nat.reduceSub, Nat.reduceMul, Int.reduceEq, Int.reduceBEq, Int.reduceBNe, Int.reduceLT, Int.reduceLE, Nat.reduceLT, hr, Int.ofNat_zero, Int.cast_ofNat_Int]
  · have e0 : ((n : Nat) : Int) == 0 ↔ False := by simp; omega
    have e0' : (((n : Nat) : Int) == 0) = false := by simp; omega
    by_cases hl : 255 < s.length
    · rw [if_pos (Or.inr hl)] at hr
      have hl' : decide (255 < s.length) = true := by simp [hl]
      simp only [S12Fb, EXA, Nat.reduceEqDiff, reduceIte, reduceCtorEq, Nat.reduceAdd, Nat.reduceLeDiff, Nat.reduceSub, Nat.reduceMul, Int.reduceEq, Int.reduceBEq, Int.reduceBNe, Int.reduceLT, Int.reduceLE, Nat.reduceLT, e0', h255, hl', hr]
    · rw [if_neg (by omega)] at hr
      have hl' : decide (255 < s.length) = false := by simp [hl]
      by_cases hN : n = s.length
      · rw [if_pos hN] at hr
        have e1 : ((n : Int) == (s.length : Int)) = true := by simp [hN]
        simp only [S12Fb, EXA, Nat.reduceEqDiff, reduceIte, reduceCtorEq, Nat.reduceAdd, Nat.reduceLeDiff, Nat.reduceSub, Nat.reduceMul, Int.reduceEq, Int.reduceBEq, Int.reduceBNe, Int.reduceLT, Int.reduceLE, Nat.reduceLT, e0', h255, hl', e1, hr]
      · rw [if_neg hN] at hr
        have e1 : ((n : Int) == (s.length : Int)) = false := by simp; omega
        have hlt : n < s.length := by omega
        have hw := wsucc hlt (by omega)
        have hsl : sliceSOf (.str s) (some (some ((n + 1 : Nat) : Int))) (some none) = some (.str (s.drop (n + 1))) := sliceS_lo (s := s) (i := ((n + 1 : Nat) : Int)) (by omega) (by omega)
        simp only [S12Fb, ex_loop, EXA, Nat.reduceEqDiff, reduceIte, reduceCtorEq, Nat.reduceAdd, Nat.reduceLeDiff, Nat.reduceSub, Nat.reduceMul, Int.reduceEq, Int.reduceBEq, Int.reduceBNe, Int.reduceLT, Int.reduceLE, Nat.reduceLT, e0', h255, hl', e1, hw, hsl]
        obtain ⟨c, hc⟩ := get_lt hlt
        have hbyte := byte_get hc
        generalize hp : s.drop (n + 1) = p at hr ⊢
        have hpl : p.length ≤ s.length := by rw [← hp, List.length_drop]; omega
        refine ex_while (S := Nat) (fun j => [(0, .str s), (3, .int .i64 (n : Int)), (4, .str p), (5, .int .i64 (j : Int))]) (fun _ => .empty) (fun j => p.length - j) (fun j => (p.drop j).all digB = p.all digB) ?_ 0 rfl
        intro b j hj ih
        by_cases hlt2 : j < p.length
        · obtain ⟨d, hd⟩ := get_lt hlt2
          have hcond := dlt hlt2
          have hbyte2 := byte_get hd
          have hw2 := wsucc hlt2 (by omega)
          have q2 := r_digit d
          rw [drop_cons hd, List.all_cons] at hj
          cases h2 : digB d with
          | true =>
            rw [h2, Bool.true_and] at hj
            simp only [S12Fa, EXA, Nat.reduceEqDiff, reduceIte, reduceCtorEq, Nat.reduceAdd, Nat.reduceLeDiff, Nat.reduceSub, Nat.reduceMul, Int.reduceEq, Int.reduceBEq, Int.reduceBNe, Int.reduceLT, Int.reduceLE, Nat.reduceLT, hcond, hbyte2, q2, h2, hw2]
            exact ih (j + 1) _ _ (by omega) hj rfl rfl
          | false =>
            rw [h2, Bool.false_and] at hj
            rw [srvP, hp, ← hj, Bool.false_and] at hr
            simp only [S12Fa, EXA, Nat.reduceEqDiff, reduceIte, reduceCtorEq, Nat.reduceAdd, Nat.reduceLeDiff, Nat.reduceSub, Nat.reduceMul, Int.reduceEq, Int.reduceBEq, Int.reduceBNe, Int.reduceLT, Int.reduceLE, Nat.reduceLT, hcond, hbyte2, q2, h2, hr]
        · have hcond := dge (Nat.not_lt.1 hlt2)
          rw [List.drop_eq_nil_of_le (by omega)] at hj
          rw [srvP, hp, ← hj, hc] at hr
          have g1 : decide ((p.length : Int) ≥ 1) = decide (1 ≤ p.length) := by rw [decide_eq_decide]; omega
          have g5 : decide ((p.length : Int) ≤ 5) = decide (p.length ≤ 5) := by rw [decide_eq_decide]; omega
          simp only [List.all_nil, Bool.true_and] at hr
          cases h58 : c == 58 with
          | false =>
            simp only [h58, Bool.false_and] at hr
            simp only [S12Fa, EXA, Nat.reduceEqDiff, reduceIte, reduceCtorEq, Nat.reduceAdd, Nat.reduceLeDiff, Nat.reduceSub, Nat.reduceMul, Int.reduceEq, Int.reduceBEq, Int.reduceBNe, Int.reduceLT, Int.reduceLE, Nat.reduceLT, hcond, hbyte, eq58, h58, hr]
          | true =>
            simp only [h58, Bool.true_and] at hr
            cases h1 : decide (1 ≤ p.length) with
            | false =>
              simp only [h1, Bool.false_and] at hr
              simp only [S12Fa, EXA, Nat.reduceEqDiff, reduceIte, reduceCtorEq, Nat.reduceAdd, Nat.reduceLeDiff, Nat.reduceSub, Nat.reduceMul, Int.reduceEq, Int.reduceBEq, Int.reduceBNe, Int.reduceLT, Int.reduceLE, Nat.reduceLT, hcond, hbyte, eq58, h58, g1, h1, hr]
            | true =>
              simp only [h1, Bool.true_and] at hr
              simp only [S12Fa, EXA, Nat.reduceEqDiff, reduceIte, reduceCtorEq, Nat.reduceAdd, Nat.reduceLeDiff, Nat.reduceSub, Nat.reduceMul, Int.reduceEq, Int.reduceBEq, Int.reduceBNe, Int.reduceLT, Int.reduceLE, Nat.reduceLT, hcond, hbyte, eq58, h58, g1, h1, g5, hr]
end Go.Ab
/- The document's names of servers and the program's are the same; names that begin with a sign. -/
namespace Go.Ab
set_option maxHeartbeats 1000000
def S13Fc := J @F81_11.eq_1 (J @F81_38.eq_1 (J @F81_39.eq_1 (@F81.eq_1)))
set_option maxRecDepth 100000
theorem cutB_nil (x : UInt8) : cutB [] x = ([], [], false) := rfl
theorem cutB_cons (c x : UInt8) (r : Bs) : cutB (c :: r) x = if c = x then ([], r, true) else (c :: (cutB r x).1, (cutB r x).2.1, (cutB r x).2.2) := by
  unfold cutB
  rw [List.findIdx?_cons]
  by_cases h : c = x
  · subst h; simp
  · have hf : (c == x) = false := by simp [h]
    rw [hf, if_neg h]
    cases hq : r.findIdx? (fun b => b == x) <;> simp
theorem cutB_pre (x : UInt8) : ∀ (t d : Bs), (∀ b ∈ t, b ≠ x) → cutB (t ++ d) x = (t ++ (cutB d x).1, (cutB d x).2.1, (cutB d x).2.2)
  | [], d, _ => rfl
  | a :: t, d, h => by
    rw [List.cons_append, cutB_cons, if_neg (h a (by simp)), cutB_pre x t d (fun b hb => h b (by simp [hb]))]
    rfl
theorem srv_58 : srvB 58 = false := by decide +kernel
theorem allS_eq (n : Nat) (s : Bs) : allB (setB lettersS) n s = (s.all srvB && (decide (0 < s.length) && decide (s.length ≤ n))) := by
  unfold allB
  have : setB lettersS = srvB := by funext c; exact (srvB_eq c).symm
  rw [this]
theorem allD_eq (n : Nat) (s : Bs) : allB (setB digitsS) n s = (s.all digB && (decide (0 < s.length) && decide (s.length ≤ n))) := by
  unfold allB
  have : setB digitsS = digB := by funext c; exact (digB_eq c).symm
  rw [this]
theorem serverR_eq (s : Bs) : serverR s = serverB s := by
  unfold serverR serverB
  have hn : nsr s 0 = (s.takeWhile srvB).length := by unfold nsr; rw [List.drop_zero, Nat.zero_add]
  rw [hn, allS_eq, allD_eq]
  have hs : s = s.takeWhile srvB ++ s.dropWhile srvB := (List.takeWhile_append_dropWhile).symm
  have ht : ∀ b ∈ s.takeWhile srvB, srvB b = true := fun b hb => List.all_eq_true.1 List.all_takeWhile b hb
  have hd : ∀ c p, s.dropWhile srvB = c :: p → srvB c = false := by
    intro c p hcp
    have := List.head?_dropWhile_not srvB s
    rw [hcp] at this
    simpa using this
  generalize s.takeWhile srvB = t at hs ht ⊢
  generalize s.dropWhile srvB = d at hs hd
  have hall : t.all srvB = true := List.all_eq_true.2 ht
  have htc : ∀ b ∈ t, b ≠ 58 := fun b hb h => by have := ht b hb; rw [h, srv_58] at this; cases this
  have hcut := cutB_pre 58 t d htc
  cases d with
  | nil =>
    rw [List.append_nil] at hs
    rw [hs, ← List.append_nil t, hcut, cutB_nil]
    simp only [List.append_nil, Bool.false_and, Bool.not_false, Bool.true_and, hall]
    by_cases h0 : t.length = 0
    · simp [h0]
    · by_cases h255 : 255 < t.length
      · rw [if_pos (Or.inr h255)]
        have : ¬ t.length ≤ 255 := by omega
        simp [this]
      · rw [if_neg (by omega)]
        have h1 : t.length ≤ 255 := by omega
        have h2 : 0 < t.length := by omega
        simp [h1, h2]
  | cons c p =>
    have hc := hd c p rfl
    have hlen : s.length = t.length + (p.length + 1) := by rw [hs]; simp
    have hdrop : s.drop (t.length + 1) = p := by rw [hs, List.drop_append]; simp
    have hget : s[t.length]? = some c := by rw [hs]; simp
    rw [hs, hcut, cutB_cons, ← hs]
    by_cases h58 : c = 58
    · subst h58
      rw [if_pos rfl]
      simp only [List.append_nil, hall, Bool.true_and]
      by_cases h0 : t.length = 0
      · simp [h0]
      · by_cases h255 : 255 < s.length
        · rw [if_pos (Or.inr h255)]
          have : ¬ s.length ≤ 255 := by omega
          simp [this]
        · rw [if_neg (by omega), if_neg (by omega)]
          unfold srvP
          rw [hdrop, hget]
          have h1 : s.length ≤ 255 := by omega
          have h2 : 0 < t.length := by omega
          have h3 : t.length ≤ 255 := by omega
          simp [h1, h2, h3, Nat.succ_le_iff]
    · rw [if_neg h58]
      have hA : (t ++ c :: (cutB p 58).1).all srvB = false := by rw [List.all_append, List.all_cons, hc]; simp
      simp only [hA, Bool.false_and, Bool.and_false]
      by_cases h0 : t.length = 0 ∨ 255 < s.length
      · rw [if_pos h0]
      · rw [if_neg h0, if_neg (by omega)]
        unfold srvP
        rw [hget]
        have : (c == 58) = false := by simp [h58]
        simp [this]
/-- What the document's loop does. -/
def pR (pre : Bs) : Bs → Bs × Bs × Bool
  | [] => ([], [], false)
  | c :: r => if c = 58 then (if pre = [] ∨ serverR r = false then ([], [], false) else (pre, r, true)) else if c < 33 ∨ 126 < c then ([], [], false) else pR (pre ++ [c]) r
theorem pR_eq : ∀ (r pre : Bs), pR pre r = if (cutB r 58).2.2 = true ∧ (cutB r 58).1.all shownB = true ∧ pre ++ (cutB r 58).1 ≠ [] ∧ serverB (cutB r 58).2.1 = true then (pre ++ (cutB r 58).1, (cutB r 58).2.1, true) else ([], [], false)
  | [], pre => by rw [cutB_nil]; simp [pR]
  | c :: r, pre => by
    rw [pR, cutB_cons]
    by_cases h : c = 58
    · rw [if_pos h, if_pos h, serverR_eq]
      simp only [List.all_nil, List.append_nil, true_and]
      by_cases hp : pre = []
      · simp [hp]
      · cases hs : serverB r <;> simp [hp]
    · rw [if_neg h, if_neg h]
      simp only [List.all_cons]
      by_cases hc : c < 33 ∨ 126 < c
      · have : shownB c = false := by
          unfold shownB
          rcases hc with hc | hc
          · have : ¬ (33 ≤ c) := UInt8.not_le.2 hc
            simp [this]
          · have : ¬ (c ≤ 126) := UInt8.not_le.2 hc
            simp [this]
        rw [if_pos hc]
        simp [this]
      · have : shownB c = true := by
          unfold shownB
          have h1 : 33 ≤ c := UInt8.not_lt.1 fun h => hc (Or.inl h)
          have h2 : c ≤ 126 := UInt8.not_lt.1 fun h => hc (Or.inr h)
          simp [h1, h2, h]
        rw [if_neg hc, pR_eq r (pre ++ [c])]
        simp [this]
theorem partsB_pR (a : UInt8) (r : Bs) (sign : UInt8) (h1 : a = sign) (h2 : ¬ 255 < (a :: r).length) : partsB (a :: r) sign = pR [] r := by
  rw [pR_eq]
  have hl := (cutB_len r 58).1
  simp only [List.length_cons] at h2
  simp only [partsB, List.nil_append, List.length_cons]
  generalize cutB r 58 = x at hl ⊢
  obtain ⟨n, p, b⟩ := x
  simp only at hl ⊢
  have h3 : n.length ≤ 255 := by omega
  have h4 : r.length + 1 ≤ 255 := by omega
  have h5 : (0 < n.length) = (n ≠ []) := by rw [List.length_pos_iff]
  have e : allB shownB 255 n = true ↔ n.all shownB = true ∧ n ≠ [] := by
    unfold allB
    rw [Bool.and_eq_true, Bool.and_eq_true, decide_eq_true_eq, decide_eq_true_eq, h5]
    simp only [h3, and_true]
  have e2 : (a = sign ∧ r.length + 1 ≤ 255 ∧ b = true ∧ allB shownB 255 n = true ∧ serverB p = true) ↔ (b = true ∧ n.all shownB = true ∧ n ≠ [] ∧ serverB p = true) := by
    rw [e]
    simp only [h1, h4, true_and, and_assoc]
  by_cases hb : (b = true ∧ n.all shownB = true ∧ n ≠ [] ∧ serverB p = true)
  · rw [if_pos (e2.2 hb), if_pos hb]
  · rw [if_neg (fun h => hb (e2.1 h)), if_neg hb]
theorem sliceS_mid {s : Bs} {a b : Nat} (h : a ≤ b) (h2 : b ≤ s.length) : sliceSOf (.str s) (some (some (a : Int))) (some (some (b : Int))) = some (.str ((s.take b).drop a)) := by
  have : bounds s.length (some (a : Int)) (some (b : Int)) = some (a, b) := by
    simp [bounds]; omega
  simp [sliceSOf, this]
theorem l33 (c : UInt8) : decide ((c.toNat : Int) < 33) = decide (c < 33) := by rw [decide_eq_decide, UInt8.lt_iff_toNat_lt]; simp; omega
theorem g126 (c : UInt8) : decide ((c.toNat : Int) > 126) = decide (126 < c) := by rw [decide_eq_decide, UInt8.lt_iff_toNat_lt]; simp; omega
theorem r_refParted (s : Bs) (sign : UInt8) (hb : s.length < big) : cR 81 [.str s, .int .u8 sign.toNat] = some (.tup [.str (partsB s sign).1, .str (partsB s sign).2.1, .bool (partsB s sign).2.2]) := by
  refine cR_of (F := F81) rfl ?_
  obtain ⟨r, hr⟩ : ∃ r, r = AV.tup [.str (partsB s sign).1, .str (partsB s sign).2.1, .bool (partsB s sign).2.2] := ⟨_, rfl⟩
  rw [← hr]
  cases hs : s with
  | nil =>
    subst hs
    simp only [partsB] at hr
    have e0 : (((0 : Nat) : Int) == 0) = true := rfl
    simp only [S13Fc, EXA, Nat.reduceEqDiff, reduceIte, reduceCtorEq, Nat.reduceAdd, Nat.reduceLeDiff, Nat.reduceSub, Nat.reduceMul, Int.reduceEq, Int.reduceBEq, Int.reduceBNe, Int.reduceLT, Int.reduceLE, Nat.reduceLT, e0, hr]
  | cons a t =>
    rw [← hs]
    have e0 : ((s.length : Int) == 0) = false := by rw [hs, List.length_cons]; simp; omega
    have ha : byteAt (.str s) (.int .i64 0) = some (.int .u8 a.toNat) := by rw [hs]; rfl
    have h255 : decide ((s.length : Int) > 255) = decide (255 < s.length) := by rw [decide_eq_decide]; omega
    by_cases h1 : a = sign
    · have q1 : (a != sign) = false := by simp [h1]
      by_cases h2 : 255 < s.length
      · have : partsB s sign = ([], [], false) := by
          rw [hs] at h2 ⊢
          simp only [partsB]
          rw [if_neg (by omega)]
        rw [this] at hr
        have h2' : decide (255 < s.length) = true := by simp [h2]
        simp only [S13Fc, EXA, Nat.reduceEqDiff, reduceIte, reduceCtorEq, Nat.reduceAdd, Nat.reduceLeDiff, Nat.reduceSub, Nat.reduceMul, Int.reduceEq, Int.reduceBEq, Int.reduceBNe, Int.reduceLT, Int.reduceLE, Nat.reduceLT, e0, ha, ne8, q1, h255, h2', hr]
      · have h2' : decide (255 < s.length) = false := by simp [h2]
        have hp : partsB s sign = pR [] (s.drop 1) := by
          rw [hs] at h2 ⊢
          exact partsB_pR a t sign h1 h2
        rw [hp] at hr
        have hpos : 1 ≤ s.length := by rw [hs]; simp
        clear hp
        unfold big at hb
        simp only [F81_11, F81_38, F81, ex_loop, EXA, Nat.reduceEqDiff, reduceIte, reduceCtorEq, Nat.reduceAdd, Nat.reduceLeDiff, Nat.reduceSub, Nat.reduceMul, Int.reduceEq, Int.reduceBEq, Int.reduceBNe, Int.reduceLT, Int.reduceLE, Nat.reduceLT, e0, ha, ne8, q1, h255, h2']
        refine ex_while (S := Nat) (fun j => [(0, .str s), (7, .int .i64 (j : Int))]) (fun _ => .empty) (fun j => s.length - j) (fun j => 1 ≤ j ∧ pR ((s.take j).drop 1) (s.drop j) = pR [] (s.drop 1)) ?_ 1 ⟨Nat.le_refl _, by rw [List.drop_eq_nil_of_le (by simp; omega)]⟩
        rintro b j ⟨hj1, hj⟩ ih
        by_cases hlt : j < s.length
        · obtain ⟨c, hc⟩ := get_lt hlt
          have hcond := dlt hlt
          have hbyte := byte_get hc
          have hw := wsucc hlt (by omega)
          have hsl : sliceSOf (.str s) (some (some ((j + 1 : Nat) : Int))) (some none) = some (.str (s.drop (j + 1))) := sliceS_lo (s := s) (i := ((j + 1 : Nat) : Int)) (by omega) (by omega)
          have hsl2 : sliceSOf (.str s) (some (some 1)) (some (some (j : Int))) = some (.str ((s.take j).drop 1)) := sliceS_mid (a := 1) hj1 (by omega)
          have hsrv := r_refServer (s.drop (j + 1)) (by rw [List.length_drop]; unfold big; omega)
          have hpre : ((s.take j).drop 1 = []) ↔ j = 1 := by
            rw [List.drop_eq_nil_iff, List.length_take]; omega
          rw [drop_cons hc, pR] at hj
          cases h58 : c == 58 with
          | true =>
            have h58' : c = 58 := by simpa using h58
            rw [if_pos h58'] at hj
            by_cases hj1' : j = 1
            · have ej : ((j : Int) == 1) = true := by simp [hj1']
              rw [if_pos (Or.inl (hpre.2 hj1'))] at hj
              rw [← hj] at hr
              simp only [S13Fc, EXA, Nat.reduceEqDiff, reduceIte, reduceCtorEq, Nat.reduceAdd, Nat.reduceLeDiff, Nat.reduceSub, Nat.reduceMul, Int.reduceEq, Int.reduceBEq, Int.reduceBNe, Int.reduceLT, Int.reduceLE, Nat.reduceLT, hcond, hbyte, eq58, h58, ej, hr]
            · have ej : ((j : Int) == 1) = false := by simp; omega
              cases hsv : serverR (s.drop (j + 1)) with
              | false =>
                rw [if_pos (Or.inr hsv)] at hj
                rw [← hj] at hr
                rw [hsv] at hsrv
                simp only [S13Fc, EXA, Nat.reduceEqDiff, reduceIte, reduceCtorEq, Nat.reduceAdd, Nat.reduceLeDiff, Nat.reduceSub, Nat.reduceMul, Int.reduceEq, Int.reduceBEq, Int.reduceBNe, Int.reduceLT, Int.reduceLE, Nat.reduceLT, hcond, hbyte, eq58, h58, ej, hw, hsl, hsrv, hr]
              | true =>
                rw [if_neg (by rw [hsv, hpre]; simp [hj1'])] at hj
                rw [← hj] at hr
                rw [hsv] at hsrv
                simp only [S13Fc, EXA, Nat.reduceEqDiff, reduceIte, reduceCtorEq, Nat.reduceAdd, Nat.reduceLeDiff, Nat.reduceSub, Nat.reduceMul, Int.reduceEq, Int.reduceBEq, Int.reduceBNe, Int.reduceLT, Int.reduceLE, Nat.reduceLT, hcond, hbyte, eq58, h58, ej, hw, hsl, hsl2, hsrv, hr]
          | false =>
            have h58' : c ≠ 58 := by simpa using h58
            rw [if_neg h58'] at hj
            cases hl : decide (c < 33) with
            | true =>
              rw [if_pos (Or.inl (by simpa using hl))] at hj
              rw [← hj] at hr
              simp only [S13Fc, EXA, Nat.reduceEqDiff, reduceIte, reduceCtorEq, Nat.reduceAdd, Nat.reduceLeDiff, Nat.reduceSub, Nat.reduceMul, Int.reduceEq, Int.reduceBEq, Int.reduceBNe, Int.reduceLT, Int.reduceLE, Nat.reduceLT, hcond, hbyte, eq58, h58, l33, hl, hr]
            | false =>
              cases hg : decide (126 < c) with
              | true =>
                rw [if_pos (Or.inr (by simpa using hg))] at hj
                rw [← hj] at hr
                simp only [S13Fc, EXA, Nat.reduceEqDiff, reduceIte, reduceCtorEq, Nat.reduceAdd, Nat.reduceLeDiff, Nat.reduceSub, Nat.reduceMul, Int.reduceEq, Int.reduceBEq, Int.reduceBNe, Int.reduceLT, Int.reduceLE, Nat.reduceLT, hcond, hbyte, eq58, h58, l33, hl, g126, hg, hr]
              | false =>
                rw [if_neg (by simp at hl hg ⊢; exact ⟨hl, hg⟩)] at hj
                simp only [S13Fc, EXA, Nat.reduceEqDiff, reduceIte, reduceCtorEq, Nat.reduceAdd, Nat.reduceLeDiff, Nat.reduceSub, Nat.reduceMul, Int.reduceEq, Int.reduceBEq, Int.reduceBNe, Int.reduceLT, Int.reduceLE, Nat.reduceLT, hcond, hbyte, eq58, h58, l33, hl, g126, hg, hw]
                refine ih (j + 1) _ _ (by omega) ⟨by omega, ?_⟩ rfl rfl
                rw [← hj, List.take_add_one, hc, List.drop_append, List.length_take]
                have : 1 - min j s.length = 0 := by omega
                rw [this]; rfl
        · have hcond := dge (Nat.not_lt.1 hlt)
          have hd : s.drop j = [] := List.drop_eq_nil_of_le (by omega)
          rw [hd, pR] at hj
          rw [← hj] at hr
          simp only [S13Fc, EXA, Nat.reduceEqDiff, reduceIte, reduceCtorEq, Nat.reduceAdd, Nat.reduceLeDiff, Nat.reduceSub, Nat.reduceMul, Int.reduceEq, Int.reduceBEq, Int.reduceBNe, Int.reduceLT, Int.reduceLE, Nat.reduceLT, hcond, hr]
    · have q1 : (a != sign) = true := by simp [h1]
      have : partsB s sign = ([], [], false) := by
        rw [hs]
        simp only [partsB]
        rw [if_neg (by simp [h1])]
      rw [this] at hr
      simp only [S13Fc, EXA, Nat.reduceEqDiff, reduceIte, reduceCtorEq, Nat.reduceAdd, Nat.reduceLeDiff, Nat.reduceSub, Nat.reduceMul, Int.reduceEq, Int.reduceBEq, Int.reduceBNe, Int.reduceLT, Int.reduceLE, Nat.reduceLT, e0, ha, ne8, q1, hr]
theorem r_refUser (s : Bs) (hb : s.length < big) : cR 71 [.str s] = some (.tup [.str (partsB s 64).1, .str (partsB s 64).2.1, .bool (partsB s 64).2.2]) := by
  have h : cR 81 [.str s, .int .u8 64] = _ := r_refParted s 64 hb
  refine cR_of (F := F71) rfl ?_
  simp only [F71, EXA, Nat.reduceEqDiff, reduceIte, reduceCtorEq, Nat.reduceAdd, Nat.reduceLeDiff, Nat.reduceSub, Nat.reduceMul, Int.reduceEq, Int.reduceBEq, Int.reduceBNe, Int.reduceLT, Int.reduceLE, Nat.reduceLT, h]
theorem r_refIsUser (s : Bs) (hb : s.length < big) : cR 59 [.str s] = some (.bool (partsB s 64).2.2) := by
  have h := r_refUser s hb
  refine cR_of (F := F59) rfl ?_
  simp only [F59, EXA, Nat.reduceEqDiff, reduceIte, reduceCtorEq, Nat.reduceAdd, Nat.reduceLeDiff, Nat.reduceSub, Nat.reduceMul, Int.reduceEq, Int.reduceBEq, Int.reduceBNe, Int.reduceLT, Int.reduceLE, Nat.reduceLT, h]
end Go.Ab
/- The document's: an invite of a third kind, who speaks for somebody. -/
namespace Go.Ab
set_option maxHeartbeats 1000000
def S14Fb := @F33.eq_1
def S14Fc := @F57.eq_1
set_option maxRecDepth 100000
theorem getR_fine {v : V} (k : Bs) (hf : v.fine = true) : getR v k = getV v k := by
  unfold getR
  by_cases h5 : v.kind = 5
  · rw [if_pos h5, getV_rises k h5 (fine_rises h5 hf)]
    cases lookM v.m k <;> rfl
  · rw [if_neg h5, getV_other k h5]
theorem lookM_mem {k : Bs} {x : V} : ∀ {m : List Mem}, lookM m k = some x → ∃ e ∈ m, e.2 = x
  | [], h => by simp [lookM] at h
  | (a, y) :: m, h => by
    rw [lookM] at h
    split at h
    · exact ⟨(a, y), by simp, Option.some.inj h⟩
    · obtain ⟨e, he, hx⟩ := lookM_mem h
      exact ⟨e, by simp [he], hx⟩
theorem V.zero_fine : V.zero.fine = true := by rw [V.fine_eq]; decide
theorem fine_m {v : V} (h5 : v.kind = 5) (h : v.fine = true) : fineM none v.m = true := by
  rw [V.fine_eq, h5] at h
  simp only [Int.reduceEq, if_false, if_true] at h
  simp only [Bool.and_eq_true] at h
  exact h.2
theorem getR_fineV {v : V} (k : Bs) (hf : v.fine = true) : (getR v k).1.fine = true := by
  unfold getR
  by_cases h5 : v.kind = 5
  · rw [if_pos h5]
    cases hl : lookM v.m k with
    | none => exact V.zero_fine
    | some x =>
      obtain ⟨e, he, hx⟩ := lookM_mem hl
      rw [← hx]
      exact (fineM_mem (fine_m h5 hf) e he).1
  · rw [if_neg h5]; exact V.zero_fine
theorem getR_sz (v : V) (k : Bs) : (getR v k).1.sz ≤ v.sz := by
  unfold getR
  have hz := V.zero_sz
  have hp := v.sz_pos
  split
  · cases hl : lookM v.m k with
    | none => simp only; omega
    | some x =>
      obtain ⟨e, he, hx⟩ := lookM_mem hl
      have := szM_mem he
      have := v.sz_eq
      rw [hx] at *
      simp only; omega
  · simp only; omega
theorem textR_fine {v : V} (k : Bs) (h : v.fine = true) : textR v k = textAt v k := by
  unfold textR textAt
  rw [getR_fine k h]
def signedR (c : V) : V × Bool := if c.good = true then ((getR (getR c kThird).1 kSigned).1, (getR (getR c kThird).1 kSigned).2 && (getR (getR c kThird).1 kSigned).1.kind == 5) else (V.zero, false)
theorem r_refSigned (c : V) (hb : c.sz < big) : cR 57 [c.enc] = some (.tup [(signedR c).1.enc, .bool (signedR c).2]) := by
  have h1 := r_refGood c hb
  have h2 := r_refGet c kThird hb
  have z2 := getR_sz c kThird
  unfold signedR
  generalize getR c kThird = t at h2 z2 ⊢
  have h3 := r_refGet t.1 kSigned (by omega)
  generalize getR t.1 kSigned = s at h3 ⊢
  obtain ⟨x, ok⟩ := s
  simp only at h3 ⊢
  simp only [kThird, kSigned] at h2 h3
  refine cR_of (F := F57) rfl ?_
  cases hg : c.good with
  | false =>
    rw [hg] at h1
    simp only [S14Fc, EXA, Nat.reduceEqDiff, reduceIte, reduceCtorEq, Nat.reduceAdd, Nat.reduceLeDiff, Nat.reduceSub, Nat.reduceMul, Int.reduceEq, Int.reduceBEq, Int.reduceBNe, Int.reduceLT, Int.reduceLE, Nat.reduceLT, EXF, VX, readAt_some, h1, Bool.false_eq_true, if_false, V.zero_enc]
  | true =>
    rw [hg] at h1
    cases ok with
    | false => simp only [S14Fc, EXA, Nat.reduceEqDiff, reduceIte, reduceCtorEq, Nat.reduceAdd, Nat.reduceLeDiff, Nat.reduceSub, Nat.reduceMul, Int.reduceEq, Int.reduceBEq, Int.reduceBNe, Int.reduceLT, Int.reduceLE, Nat.reduceLT, EXF, VX, readAt_some, h1, h2, h3, if_true, Bool.false_and]
    | true => simp only [S14Fc, EXA, Nat.reduceEqDiff, reduceIte, reduceCtorEq, Nat.reduceAdd, Nat.reduceLeDiff, Nat.reduceSub, Nat.reduceMul, Int.reduceEq, Int.reduceBEq, Int.reduceBNe, Int.reduceLT, Int.reduceLE, Nat.reduceLT, EXF, VX, readAt_some, h1, h2, h3, if_true, Bool.true_and]
def thirdR (c : V) : Bs × Bs × Bool := if (signedR c).2 = true ∧ (textR (signedR c).1 kToken).2 = true ∧ (textR (signedR c).1 kMxid).2 = true then ((textR (signedR c).1 kToken).1, (textR (signedR c).1 kMxid).1, true) else ([], [], false)
theorem signedR_sz (c : V) : (signedR c).1.sz ≤ c.sz := by
  unfold signedR
  have h1 := getR_sz c kThird
  have h2 := getR_sz (getR c kThird).1 kSigned
  have hz := V.zero_sz
  have hp := c.sz_pos
  split <;> simp only <;> omega
theorem r_refThird (c : V) (hb : c.sz < big) : cR 32 [c.enc] = some (.tup [.str (thirdR c).1, .str (thirdR c).2.1, .bool (thirdR c).2.2]) := by
  have h1 := r_refSigned c hb
  have z1 := signedR_sz c
  unfold thirdR
  generalize signedR c = t at h1 z1 ⊢
  obtain ⟨x, ok⟩ := t
  simp only at h1 z1 ⊢
  have h2 := r_refTextAt x kToken (by omega)
  have h3 := r_refTextAt x kMxid (by omega)
  generalize textR x kToken = a at h2 ⊢
  generalize textR x kMxid = b at h3 ⊢
  obtain ⟨a1, a2⟩ := a
  obtain ⟨b1, b2⟩ := b
  simp only at h2 h3 ⊢
  simp only [kToken, kMxid] at h2 h3
  refine cR_of (F := F32) rfl ?_
  cases ok <;> cases a2 <;> cases b2 <;> simp only [F32, EXA, Nat.reduceEqDiff, reduceIte, reduceCtorEq, Nat.reduceAdd, Nat.reduceLeDiff, Nat.reduceSub, Nat.reduceMul, Int.reduceEq, Int.reduceBEq, Int.reduceBNe, Int.reduceLT, Int.reduceLE, Nat.reduceLT, VX, readAt_some, h1, h2, h3, Bool.false_eq_true, and_true, and_false, false_and, if_true, if_false]
theorem getV_zero (k : Bs) : getV V.zero k = (V.zero, false) := getV_other k (by simp [V.zero, V.kind])
theorem thirdR_eq (c : V) : thirdR c = thirdV c := by
  have h0 : thirdV V.zero = ([], [], false) := by
    have hs : said V.zero = V.zero := by unfold said; simp
    unfold thirdV signedV tableV
    rw [hs, getV_zero]
    simp [getV_zero]
  have hsd : ∀ v : V, said v = V.zero → thirdV v = ([], [], false) := by
    intro v hv
    have hs : said V.zero = V.zero := by unfold said; simp
    rw [← h0]
    unfold thirdV signedV
    rw [hs, hv]
  by_cases hg : c.good = true
  · have hf : c.fine = true := by unfold V.good at hg; simp at hg; exact hg.1
    have f1 := getR_fineV kThird hf
    have f2 := getR_fineV kSigned f1
    have e1 := getR_fine kThird hf
    have e2 := getR_fine kSigned f1
    unfold thirdR signedR
    rw [if_pos hg]
    simp only [textR_fine _ f2]
    by_cases h5 : c.kind = 5
    · have hs : said c = c := by unfold said; exact if_pos (by simp [hg, h5])
      unfold thirdV signedV
      rw [hs]
      rw [e1] at e2 f2 f1 ⊢
      rw [e2] at f2 ⊢
      unfold tableV
      generalize hq : getV c kThird = t at *
      obtain ⟨x, a⟩ := t
      simp only at *
      by_cases hx5 : x.kind = 5
      · have hb : (x.kind == 5) = true := by simp [hx5]
        cases a with
        | false =>
          exfalso
          unfold getR at e1
          rw [if_pos h5] at e1
          cases hl : lookM c.m kThird with
          | none => rw [hl] at e1; simp only [Prod.mk.injEq] at e1; rw [← e1.1] at hx5; simp [V.zero, V.kind] at hx5
          | some y => rw [hl] at e1; simp at e1
        | true =>
          simp only [hb, Bool.and_self, if_true]
          generalize getV x kSigned = s
          obtain ⟨y, b⟩ := s
          simp only
          cases b with
          | false => simp [getV_zero]
          | true =>
            cases hy : y.kind == 5 with
            | false => simp
            | true => simp [and_assoc]
      · have hb : (x.kind == 5) = false := by simp [hx5]
        simp only [hb, Bool.and_false, Bool.false_eq_true, if_false, getV_zero, getV_other kSigned hx5]
        simp
    · have hs : said c = V.zero := by unfold said; exact if_neg (by simp [h5])
      rw [hsd c hs, e2, e1, getV_other kThird h5]
      simp [getV_zero]
  · have hs : said c = V.zero := by unfold said; exact if_neg (by simp [hg])
    rw [hsd c hs]
    unfold thirdR signedR
    rw [if_neg hg]
    simp
theorem r_refAuth (c : V) (hb : c.sz < big) : cR 33 [c.enc] = some (.tup [.str (authV c).1, .bool (authV c).2]) := by
  have h1 := r_refText c kAuthd hb
  have z1 := said_sz c
  have z2 := textAt_len (said c) kAuthd
  have hno : (textAt (said c) kAuthd).2 = false → (textAt (said c) kAuthd).1 = [] := by
    intro h
    unfold textAt at h ⊢
    split at h
    · simp at h
    · rename_i hh; rw [if_neg hh]
  unfold authV
  generalize textAt (said c) kAuthd = t at h1 z2 hno ⊢
  obtain ⟨s, ok⟩ := t
  simp only at h1 z2 hno ⊢
  have h2 := r_refIsUser s (by omega)
  simp only [kAuthd] at h1
  refine cR_of (F := F33) rfl ?_
  cases ok with
  | false =>
    have : (partsB s 64).2.2 = false := by rw [hno rfl]; rfl
    simp only [S14Fb, EXA, Nat.reduceEqDiff, reduceIte, reduceCtorEq, Nat.reduceAdd, Nat.reduceLeDiff, Nat.reduceSub, Nat.reduceMul, Int.reduceEq, Int.reduceBEq, Int.reduceBNe, Int.reduceLT, Int.reduceLE, Nat.reduceLT, VX, readAt_some, h1, this, Bool.false_eq_true, if_false]
  | true =>
    cases hp : (partsB s 64).2.2 with
    | false =>
      rw [hp] at h2
      simp only [S14Fb, EXA, Nat.reduceEqDiff, reduceIte, reduceCtorEq, Nat.reduceAdd, Nat.reduceLeDiff, Nat.reduceSub, Nat.reduceMul, Int.reduceEq, Int.reduceBEq, Int.reduceBNe, Int.reduceLT, Int.reduceLE, Nat.reduceLT, VX, readAt_some, h1, h2, Bool.false_eq_true, if_false]
    | true =>
      rw [hp] at h2
      simp only [S14Fb, EXA, Nat.reduceEqDiff, reduceIte, reduceCtorEq, Nat.reduceAdd, Nat.reduceLeDiff, Nat.reduceSub, Nat.reduceMul, Int.reduceEq, Int.reduceBEq, Int.reduceBNe, Int.reduceLT, Int.reduceLE, Nat.reduceLT, VX, readAt_some, h1, h2, if_true]
end Go.Ab
/- Members that are deleted: slices.IndexFunc, slices.DeleteFunc over members. -/
namespace Go.Ab
set_option maxHeartbeats 1000000
def U1Fa := J @F161_2.eq_1 (J @F161_19.eq_1 (J @F161_20.eq_1 (@F161.eq_1)))
set_option maxRecDepth 100000
theorem callS_ex {id : Nat} {F : IFunc} (hF : ipU id = some F) {first args caps : List AV} {σ : Store} {Q : AV → Store → Prop}
    (h : Ex ipU gU [.code F.body] (initFr (first ++ args ++ caps)) σ fun fr' σ1 => ∃ r, resAll fr' σ1 F.res = some r ∧ Q r σ1) : ∃ r σ', callS ipU gU (.fn id first caps) args σ = some (r, σ') ∧ Q r σ' := by
  obtain ⟨n, fr', σ1, h1, r, h2, h3⟩ := h
  exact ⟨r, σ1, callS_of hF (first := first) (args := args) (caps := caps) ⟨n, fr', σ1, h1, h2, rfl⟩, h3⟩
theorem idx_mem {l : List Mem} {j : Nat} {e : Mem} {c : Option Nat} (h : l[j]? = some e) : idxOf 6 none (.vsl (l.map memE) c) (.int .i64 (j : Int)) = some (.vptr (memE e).cells 0) := idx_map (f := memE) h (by simp [memE_cells])
/-- slices.IndexFunc over members. -/
theorem r_indexM (l : List Mem) (f : AV) (p : Mem → Bool) (hf : f.closed = true) (hfe : f.er = f) (hlen : l.length < big) (hp : ∀ e ∈ l, callR ipU gU f [memE e] = some (.bool (p e))) :
    cR 161 [.vsl (l.map memE) none, f] = some (.int .i64 (firstFrom p l 0)) := by
  unfold big at hlen
  refine cR_of (F := F161) rfl ?_
  simp only [F161_2, F161_19, F161, ex_loop, EXA, Nat.reduceEqDiff, reduceIte, reduceCtorEq, Nat.reduceAdd, Nat.reduceLeDiff, Nat.reduceSub, Nat.reduceMul, Int.reduceEq, Int.reduceBEq, Int.reduceBNe, Int.reduceLT, Int.reduceLE, Nat.reduceLT, VX]
  refine ex_while (S := Nat) (fun j => [(0, .vsl (l.map memE) none), (1, f), (7, .int .i64 l.length), (8, .int .i64 (j : Int))]) (fun _ => .empty) (fun j => l.length - j) (fun j => firstFrom p l j = firstFrom p l 0) ?_ 0 rfl
  intro b j hj ih
  by_cases hlt : j < l.length
  · obtain ⟨v, hv⟩ := get_lt hlt
    have hidx := idx_mem (c := none) hv
    have hcall := hp v (List.mem_of_getElem? hv)
    have hcond := dlt hlt
    simp only [U1Fa, EXA, Nat.reduceEqDiff, reduceIte, reduceCtorEq, Nat.reduceAdd, Nat.reduceLeDiff, Nat.reduceSub, Nat.reduceMul, Int.reduceEq, Int.reduceBEq, Int.reduceBNe, Int.reduceLT, Int.reduceLE, Nat.reduceLT, VX, readAt_some, hcond, hidx, hf, hfe, hcall]
    split
    · rename_i hpe
      rw [← hj, firstFrom_hit hv hpe]
    · rename_i hpe
      refine ih (j + 1) _ _ (by omega) ?_ ?_ rfl
      · rw [← firstFrom_miss hv (by simpa using hpe)]; exact hj
      · rw [wsucc hlt (by omega)]
        simp only [EXA, Nat.reduceEqDiff, reduceIte, reduceCtorEq, Nat.reduceAdd, Nat.reduceLeDiff, Nat.reduceSub, Nat.reduceMul, Int.reduceEq, Int.reduceBEq, Int.reduceBNe, Int.reduceLT, Int.reduceLE, Nat.reduceLT]
  · have hcond := dge (Nat.not_lt.1 hlt)
    simp only [U1Fa, EXA, Nat.reduceEqDiff, reduceIte, reduceCtorEq, Nat.reduceAdd, Nat.reduceLeDiff, Nat.reduceSub, Nat.reduceMul, Int.reduceEq, Int.reduceBEq, Int.reduceBNe, Int.reduceLT, Int.reduceLE, Nat.reduceLT, VX, hcond]
    rw [← hj, firstFrom_end (by omega)]
/-- Read out: the beginning of a block of one's own. -/
theorem rb_slp {σ : Store} {d b n sz : Nat} {cells rest : List AV} (h : σ.cells b = some (cells ++ rest)) (h2 : cells.length = n * sz) (hs : 0 < sz) (hc : closedL cells = true) (ha : cells.all AV.notAgg = true) :
    rb σ (d + 1) (.sl b 0 n sz none) = some (.vsl (chunks sz n cells) none) := by
  have ht : List.take (n * sz) (List.drop 0 (cells ++ rest)) = cells := by rw [List.drop_zero, ← h2, List.take_left]
  have e : rb σ (d + 1) (.sl b 0 n sz none) = (match σ.cells b with
      | some cs =>
        if 0 + n * sz ≤ cs.length ∧ 0 < sz then
          match mapO (rb σ d) ((cs.drop 0).take (n * sz)) with
          | some cs' => if cs'.all AV.notAgg then some (.vsl (chunks sz n cs') none) else none
          | none => none
        else none
      | none => none) := rfl
  rw [e, h]
  simp only
  rw [if_pos ⟨by rw [List.length_append]; omega, hs⟩, ht, mapO_closed' hc]
  simp only
  rw [if_pos ha]
/-- A list that lies at the beginning of a block. -/
def Rp {α : Type} (L : Lay α) (σ : Store) (v : AV) (l : List α) : Prop := (l = [] ∧ (v = .nils ∨ v = .vsl [] (some 0))) ∨ ∃ b rest, v = .sl b 0 l.length L.sz none ∧ σ.get b = some (.own (L.cells l ++ rest))
theorem Rp.rbD {α : Type} {L : Lay α} {σ : Store} {v : AV} {l : List α} (h : Rp L σ v l) (d : Nat) : ∃ v', Go.Ab.rb σ (d + 1) v = some v' ∧ v'.er = .vsl (l.map L.f) none := by
  rcases h with ⟨rfl, rfl | rfl⟩ | ⟨b, rest, rfl, h⟩
  · exact ⟨_, rfl, by simp only [AV.er]; rfl⟩
  · exact ⟨_, rb_closed' rfl, by simp only [AV.er, erL]; rfl⟩
  · refine ⟨_, rb_slp (cells := L.cells l) (rest := rest) (by simp [Store.cells, h]) (L.cells_len l) L.pos (L.cells_closed l) (one_notAgg (L.cells_one l)), ?_⟩
    rw [L.chunks]; simp only [AV.er, L.erMap]
theorem RbL.rp {α : Type} {L : Lay α} {σ : Store} {d : Nat} {v : AV} {l : List α} {cs cs' : List AV} (hv : Rp L σ v l) (h : RbL σ (d + 1) cs cs') : RbL σ (d + 1) (v :: cs) (.vsl (l.map L.f) none :: cs') := by
  obtain ⟨m, h1, h2⟩ := h
  obtain ⟨v', h3, h4⟩ := hv.rbD d
  exact ⟨v' :: m, by simp only [mapO, h3, h1], by simp only [erL, h2, h4]⟩
/-- A call of a slice of one's own and something closed, whose answer bears no memory. -/
theorem callP_own {α : Type} {L : Lay α} {σ : Store} {b : Nat} {l : List α} {st : Bool} {f : Nat} {x r : AV} (h : σ.cells b = some (L.cells l)) (hx : x.closed = true) (hxe : x.er = x) (hc : cR f [.vsl (l.map L.f) none, x] = some r) (hr : r.flat = true) :
    callP ipU gU st (.fn f [] []) [.sl b 0 l.length L.sz none, x] σ = some (r, σ) := by
  obtain ⟨v', h1, h2⟩ : ∃ v', rb σ (23 + 1) (.sl b 0 l.length L.sz none) = some v' ∧ v'.er = .vsl (l.map L.f) none := by
    refine ⟨_, rb_sl (d := 23) h (L.cells_len l) L.pos (L.cells_closed l) (one_notAgg (L.cells_one l)), ?_⟩
    rw [L.chunks]; simp only [AV.er, L.erMap]
  refine callP_flat (args' := [v', x]) rfl ?_ ?_ hr
  · have h1' : rb σ rbDepth (.sl b 0 l.length L.sz none) = some v' := h1
    simp only [mapO, h1', rb_closed' hx]
  · simp only [erL, h2, hxe]; exact hc
/-- One element written. -/
theorem splice_row {α : Type} (L : Lay α) (pre post : List α) (x y : α) (rest : List AV) : splice (L.cells (pre ++ x :: post) ++ rest) (pre.length * L.sz) (L.f y).cells = L.cells (pre ++ y :: post) ++ rest := by
  unfold splice
  have h1 := L.cells_len pre
  have hx := L.len x
  have hy := L.len y
  rw [L.cells_append, L.cells_cons, L.cells_append, L.cells_cons, ← h1, hy]
  simp only [List.append_assoc]
  rw [List.take_left, List.drop_append, List.drop_of_length_le (by omega), Nat.add_sub_cancel_left, List.nil_append, ← hx, List.drop_left]
theorem read_row {α : Type} (L : Lay α) (hs : L.sz ≠ 1) (pre post : List α) (x : α) (rest : List AV) : readAt (L.cells (pre ++ x :: post) ++ rest) (pre.length * L.sz) (some L.sz) = some (L.f x) := by
  have hag := L.agg x
  rw [if_neg hs] at hag
  obtain ⟨cs, hcs⟩ := hag
  have h1 := L.cells_len pre
  have hx := L.len x
  rw [readAt_some, L.cells_append, L.cells_cons, ← h1]
  simp only [List.append_assoc]
  rw [if_pos (by simp; omega), List.drop_left, ← hx, List.take_left, hcs]
  rfl
end Go.Ab
/- slices.DeleteFunc over members. -/
namespace Go.Ab
set_option maxHeartbeats 1000000
def U2Fa := J @F155_12.eq_1 (J @F155_28.eq_1 (J @F155_29.eq_1 (@F155.eq_1)))
def U2Fb := J @F155_12.eq_1 (J @F155_28.eq_1 (@F155.eq_1))
set_option maxRecDepth 100000
abbrev zMem : List AV := [.str [], .int .i64 0, .int .i64 0, .str [], .nils, .nils]
/-- What a block holds in the loop. -/
structure DelI (l : List Mem) (p : Mem → Bool) (b0 : Nat) (σ0 : Store) (j : Nat) (kept junk : List Mem) (σ : Store) : Prop where
  row : look σ.m b0 = some (.own (LMem.cells (kept ++ junk ++ l.drop j)))
  len : kept.length + junk.length = j
  le : j ≤ l.length
  kept_eq : kept = (l.take j).filter fun x => !p x
  nx : σ0.next ≤ σ.next
  old : ∀ b, b < σ0.next → b ≠ b0 → σ.get b = σ0.get b
  b0 : b0 < σ0.next
theorem slice_tail {b n i : Nat} (h : i ≤ n) : slice3 6 (.sl b 0 n 6 none) (some (some (i : Int))) (some none) (some none) = some (.sl b (i * 6) (n - i) 6 none) := by
  have hb : bounds n (some (i : Int)) none = some (i, n) := by simp [bounds]; omega
  simp only [slice3, sliceOf, hb, if_true, Option.map_none, Nat.zero_add]
theorem slice_head {b n i : Nat} (h : i ≤ n) : slice3 6 (.sl b 0 n 6 none) (some none) (some (some (i : Int))) (some none) = some (.sl b 0 i 6 none) := by
  have hb : bounds n none (some (i : Int)) = some (0, i) := by simp [bounds]; omega
  simp only [slice3, sliceOf, hb, if_true, Option.map_none, Nat.zero_add, Nat.zero_mul, Nat.sub_zero]
theorem idx_sl {b n j : Nat} {σ : Store} (h : j < n) : idxOf 6 none (.sl b 0 n 6 none) (.int .i64 (j : Int)) = some (.ptr b (j * 6)) := by
  have h2 : ((j : Int) < (n : Int)) := by omega
  simp [Go.Ab.idxOf, h2]
/-- A member that is written over an elder one. -/
theorem del_write (kept junk D : List Mem) (x : Mem) : ∃ junk', splice (LMem.cells (kept ++ junk ++ x :: D)) (kept.length * 6) (memE x).cells = LMem.cells ((kept ++ [x]) ++ junk' ++ D) ∧ junk'.length = junk.length := by
  cases junk with
  | nil =>
    refine ⟨[], ?_, rfl⟩
    have : splice (LMem.cells (kept ++ x :: D) ++ []) (kept.length * 6) (memE x).cells = LMem.cells (kept ++ x :: D) ++ [] := splice_row LMem kept D x x []
    simpa using this
  | cons y junk =>
    refine ⟨junk ++ [x], ?_, by simp⟩
    have : splice (LMem.cells (kept ++ y :: (junk ++ x :: D)) ++ []) (kept.length * 6) (memE x).cells = LMem.cells (kept ++ x :: (junk ++ x :: D)) ++ [] := splice_row LMem kept (junk ++ x :: D) y x []
    simpa using this
theorem del_loop {l : List Mem} {f : AV} {p : Mem → Bool} {b0 : Nat} {σ0 : Store} {k : List Item} {Q : Fr → Store → Prop} (hf : f.closed = true) (hfe : f.er = f) (hlen : l.length < lim) (hp : ∀ e ∈ l, callR ipU gU f [memE e] = some (.bool (p e)))
    {j : Nat} {kept junk : List Mem} {σ : Store} (h : DelI l p b0 σ0 j kept junk σ)
    (hk : ∀ (kept junk : List Mem) (σ : Store) (fr : Fr), DelI l p b0 σ0 l.length kept junk σ → (look fr 0).getD .undef = .sl b0 0 l.length 6 none → (look fr 5).getD .undef = .int .i64 (kept.length : Int) → Ex ipU gU k fr σ Q) :
    Ex ipU gU (.code F155_29 :: .inLoop [0, 1, 5, 6] F155_29 :: .inBlock 0 :: k) [(0, .sl b0 0 l.length 6 none), (1, f), (5, .int .i64 (kept.length : Int)), (6, .int .i64 (j : Int))] σ Q := by
  unfold lim at hlen
  refine ex_whileI (S := Nat × List Mem × List Mem) (fun s => [(0, .sl b0 0 l.length 6 none), (1, f), (5, .int .i64 (s.2.1.length : Int)), (6, .int .i64 (s.1 : Int))]) (fun s => l.length - s.1)
    (fun s σ => DelI l p b0 σ0 s.1 s.2.1 s.2.2 σ) ?_ (j, kept, junk) σ h
  rintro b ⟨j, kept, junk⟩ σ h ih
  simp only at h ih ⊢
  have hb0 := h.b0
  have hnx := h.nx
  have hne : (σ.next = b0) = False := by simp; omega
  by_cases hlt : j < l.length
  · obtain ⟨x, hx⟩ := get_lt hlt
    have hcond := dlt hlt
    have hrow := h.row
    have hpx := hp x (List.mem_of_getElem? hx)
    rw [drop_cons hx] at hrow
    have hkl : kept.length ≤ j := by have := h.len; omega
    have hidx := idx_sl (b := b0) (σ := σ) hlt
    have hidx2 := idx_sl (b := b0) (n := l.length) (σ := σ) (j := kept.length) (by omega)
    have hread : readAt (LMem.cells (kept ++ junk ++ x :: l.drop (j + 1))) (j * 6) (some 6) = some (memE x) := by
      have := read_row LMem (by simp [LMem]) (kept ++ junk) (l.drop (j + 1)) x []
      have hl : (kept ++ junk).length = j := by simp; exact h.len
      rw [hl] at this
      simpa [LMem] using this
    have hw := wsucc hlt (by omega)
    have hw2 := wsucc (j := kept.length) (n := l.length) (by omega) (by omega)
    obtain ⟨junk', hspl, hjl⟩ := del_write kept junk (l.drop (j + 1)) x
    have hcl : (memE x).cells.length = 6 := by simp [memE_cells]
    have hle : kept.length * 6 + 6 ≤ (LMem.cells (kept ++ junk ++ x :: l.drop (j + 1))).length := by
      rw [LMem.cells_len]
      have : (kept ++ junk ++ x :: l.drop (j + 1)).length = l.length := by simp; have := h.len; omega
      rw [this]
      show kept.length * 6 + 6 ≤ l.length * 6
      omega
    have hone : (memE x).cells.all AV.one = true := LMem.one x
    have htk : (l.take (j + 1)).filter (fun x => !p x) = kept ++ (if p x then [] else [x]) := by
      rw [List.take_add_one, hx, List.filter_append, h.kept_eq]
      cases hpx' : p x <;> simp [hpx']
    have hzl : (6 : Nat) ≤ [AV.str [], AV.int .i64 0, AV.int .i64 0, AV.str [], AV.nils, AV.nils].length := by simp
    have hspl0 : splice [AV.str [], AV.int .i64 0, AV.int .i64 0, AV.str [], AV.nils, AV.nils] 0 (memE x).cells = (memE x).cells := by simp [splice, memE_cells]
    cases hpe : p x with
    | true =>
      rw [hpe] at hpx
      simp only [U2Fa, EXA, Nat.reduceEqDiff, reduceIte, reduceCtorEq, Nat.reduceAdd, Nat.reduceLeDiff, Nat.reduceSub, Nat.reduceMul, Int.reduceEq, Int.reduceBEq, Int.reduceBNe, Int.reduceLT, Int.reduceLE, Nat.reduceLT, VX, readAt_some, hcond, hidx, hrow, hread, hf, hfe, hpx, hw, hne]
      refine ih (j + 1, kept, junk ++ [x]) _ _ (by simp; omega) ⟨?_, by have := h.len; simp; omega, hlt, ?_, by show σ0.next ≤ σ.next + 1; omega, ?_, hb0⟩ (by simp only [EXA, Nat.reduceEqDiff, reduceIte, reduceCtorEq, Nat.reduceAdd, Nat.reduceLeDiff, Nat.reduceSub, Nat.reduceMul, Int.reduceEq, Int.reduceBEq, Int.reduceBNe, Int.reduceLT, Int.reduceLE, Nat.reduceLT])
      · show look ((σ.next, _) :: (σ.next, _) :: σ.m) b0 = _
        simp only [look, hne, if_false, hrow]
        simp
      · simp only [htk, hpe, if_true, List.append_nil]
      · intro b hb hbn
        show look ((σ.next, _) :: (σ.next, _) :: σ.m) b = _
        have hnb : (σ.next = b) = False := by simp; omega
        simp only [look, hnb, if_false]
        exact h.old b hb hbn
    | false =>
      rw [hpe] at hpx
      simp only [memE_cells] at hspl hone hle
      simp only [U2Fa, EXA, Nat.reduceEqDiff, reduceIte, reduceCtorEq, Nat.reduceAdd, Nat.reduceLeDiff, Nat.reduceSub, Nat.reduceMul, Int.reduceEq, Int.reduceBEq, Int.reduceBNe, Int.reduceLT, Int.reduceLE, Nat.reduceLT, VX, readAt_some, hcond, hidx, hidx2, hrow, hread, hf, hfe, hpx, hw, hw2, hne, hspl, hone, hle]
      refine ih (j + 1, kept ++ [x], junk') _ _ (by simp; omega) ⟨?_, by have := h.len; simp; omega, hlt, ?_, by show σ0.next ≤ σ.next + 1; omega, ?_, hb0⟩ (by simp only [EXA, Nat.reduceEqDiff, reduceIte, reduceCtorEq, Nat.reduceAdd, Nat.reduceLeDiff, Nat.reduceSub, Nat.reduceMul, Int.reduceEq, Int.reduceBEq, Int.reduceBNe, Int.reduceLT, Int.reduceLE, Nat.reduceLT, List.length_append])
      · show look ((b0, _) :: (σ.next, _) :: (σ.next, _) :: σ.m) b0 = _
        simp only [look, if_true]
        exact congrArg (fun c => some (Blk.own c)) hspl
      · simp only [htk, hpe, Bool.false_eq_true, if_false]
      · intro b hb hbn
        show look ((b0, _) :: (σ.next, _) :: (σ.next, _) :: σ.m) b = _
        have hnb : (σ.next = b) = False := by simp; omega
        have hnb2 : (b0 = b) = False := by simp; exact fun hh => hbn hh.symm
        simp only [look, hnb, hnb2, if_false]
        exact h.old b hb hbn
  · have hcond := dge (Nat.not_lt.1 hlt)
    have hj : j = l.length := by have := h.le; omega
    simp only [U2Fa, EXA, Nat.reduceEqDiff, reduceIte, reduceCtorEq, Nat.reduceAdd, Nat.reduceLeDiff, Nat.reduceSub, Nat.reduceMul, Int.reduceEq, Int.reduceBEq, Int.reduceBNe, Int.reduceLT, Int.reduceLE, Nat.reduceLT, hcond]
    subst hj
    exact hk kept junk σ _ h (by simp only [EXA, Nat.reduceEqDiff, reduceIte, reduceCtorEq, Nat.reduceAdd, Nat.reduceLeDiff, Nat.reduceSub, Nat.reduceMul, Int.reduceEq, Int.reduceBEq, Int.reduceBNe, Int.reduceLT, Int.reduceLE, Nat.reduceLT]) (by simp only [EXA, Nat.reduceEqDiff, reduceIte, reduceCtorEq, Nat.reduceAdd, Nat.reduceLeDiff, Nat.reduceSub, Nat.reduceMul, Int.reduceEq, Int.reduceBEq, Int.reduceBNe, Int.reduceLT, Int.reduceLE, Nat.reduceLT])
theorem firstFrom_some {α : Type} {p : α → Bool} {l : List α} {i : Nat} (h : l.findIdx? p = some i) : firstFrom p l 0 = (i : Int) := by
  unfold firstFrom; rw [List.drop_zero, h]; rfl
theorem firstFrom_no {α : Type} {p : α → Bool} {l : List α} (h : l.findIdx? p = none) : firstFrom p l 0 = -1 := by
  unfold firstFrom; rw [List.drop_zero, h]
/-- slices.DeleteFunc: what is kept lies at the beginning of the block. -/
theorem c_delete (l : List Mem) (f : AV) (p : Mem → Bool) (hf : f.closed = true) (hfe : f.er = f) (hlen : l.length < lim) (hp : ∀ e ∈ l, callR ipU gU f [memE e] = some (.bool (p e)))
    (σ : Store) (b0 : Nat) (hown : σ.get b0 = some (.own (LMem.cells l))) (hb0 : b0 < σ.next) :
    ∃ σ', callS ipU gU (.fn 155 [] []) [.sl b0 0 l.length 6 none, f] σ = some (.sl b0 0 (l.filter fun x => !p x).length 6 none, σ') ∧ (∃ rest, σ'.get b0 = some (.own (LMem.cells (l.filter fun x => !p x) ++ rest))) ∧ σ.next ≤ σ'.next ∧ ∀ b, b < σ.next → b ≠ b0 → σ'.get b = σ.get b := by
  have hi := r_indexM l f p hf hfe (by unfold lim at hlen; unfold big; omega) hp
  have hcall : callP ipU gU false (.fn 161 [] []) [.sl b0 0 l.length 6 none, f] σ = some (.int .i64 (firstFrom p l 0), σ) := callP_own (L := LMem) (l := l) (by simp [Store.cells, hown]) hf hfe hi rfl
  have hlen' := hlen
  unfold lim at hlen'
  suffices hh : ∃ r σ', callS ipU gU (.fn 155 [] []) [.sl b0 0 l.length 6 none, f] σ = some (r, σ') ∧ (r = .sl b0 0 (l.filter fun x => !p x).length 6 none ∧ (∃ rest, σ'.get b0 = some (.own (LMem.cells (l.filter fun x => !p x) ++ rest))) ∧ σ.next ≤ σ'.next ∧ ∀ b, b < σ.next → b ≠ b0 → σ'.get b = σ.get b) by
    obtain ⟨r, σ', h1, rfl, h2⟩ := hh
    exact ⟨σ', h1, h2⟩
  refine callS_ex (F := F155) rfl (first := []) (caps := []) ?_
  cases hq : l.findIdx? p with
  | none =>
    rw [firstFrom_no hq] at hcall
    have hall : l.filter (fun x => !p x) = l := by
      rw [List.findIdx?_eq_none_iff] at hq
      rw [List.filter_eq_self]
      intro x hx
      simp [hq x hx]
    simp only [U2Fb, EXA, Nat.reduceEqDiff, reduceIte, reduceCtorEq, Nat.reduceAdd, Nat.reduceLeDiff, Nat.reduceSub, Nat.reduceMul, Int.reduceEq, Int.reduceBEq, Int.reduceBNe, Int.reduceLT, Int.reduceLE, Nat.reduceLT, hcall]
    refine ⟨_, rfl, ?_⟩
    rw [hall]
    exact ⟨rfl, [], by rw [List.append_nil]; exact hown⟩
  | some i =>
    rw [firstFrom_some hq] at hcall
    obtain ⟨hil, hpi, hbefore⟩ := List.findIdx?_eq_some_iff_getElem.1 hq
    have hx : l[i]? = some l[i] := List.getElem?_eq_getElem hil
    have hne1 : ((i : Int) == -1) = false := by simp
    have hw := wsucc hil (by omega)
    have hk0 : (l.take (i + 1)).filter (fun x => !p x) = l.take i := by
      rw [List.take_add_one, hx, List.filter_append]
      have h1 : (l.take i).filter (fun x => !p x) = l.take i := by
        rw [List.filter_eq_self]
        intro x hx'
        obtain ⟨j, hj, rfl⟩ := List.mem_iff_getElem.1 hx'
        simp only [List.length_take] at hj
        rw [List.getElem_take]
        have := hbefore j (by omega)
        simp [this]
      rw [h1]; simp [hpi]
    have h0 : DelI l p b0 σ (i + 1) (l.take i) [l[i]] σ := by
      refine ⟨?_, by simp; omega, hil, hk0.symm, Nat.le_refl _, fun _ _ _ => rfl, hb0⟩
      have : l.take i ++ [l[i]] ++ l.drop (i + 1) = l := by
        have e : l.take i ++ [l[i]] = l.take (i + 1) := by rw [List.take_add_one, hx]; rfl
        rw [e]; exact List.take_append_drop (i + 1) l
      rw [this]
      exact hown
    have hkl : (l.take i).length = i := by simp; omega
    have hloop := fun {k Q} => del_loop (k := k) (Q := Q) hf hfe hlen hp h0
    rw [hkl] at hloop
    simp only [U2Fb, ex_loop, EXA, Nat.reduceEqDiff, reduceIte, reduceCtorEq, Nat.reduceAdd, Nat.reduceLeDiff, Nat.reduceSub, Nat.reduceMul, Int.reduceEq, Int.reduceBEq, Int.reduceBNe, Int.reduceLT, Int.reduceLE, Nat.reduceLT, hcall, hne1, hw]
    refine hloop ?_
    intro kept junk σ' fr hI h0' h5'
    have hrow := hI.row
    rw [List.drop_eq_nil_of_le (Nat.le_refl _), List.append_nil] at hrow
    have hkle : kept.length ≤ l.length := by have := hI.len; omega
    have hs1 := slice_tail (b := b0) hkle
    have hs2 := slice_head (b := b0) hkle
    have hclr : clearOf σ' 6 zMem (.sl b0 (kept.length * 6) (l.length - kept.length) 6 none) = some (.tup [], σ'.set b0 (.own (LMem.cells kept ++ rep (l.length - kept.length) zMem))) := by
      have hown' : σ'.owned b0 = some (LMem.cells (kept ++ junk)) := by
        have : σ'.get b0 = some (.own (LMem.cells (kept ++ junk))) := hrow
        simp [Store.owned, this]
      have hcl := LMem.cells_len (kept ++ junk)
      have hck := LMem.cells_len kept
      have hjl : (kept ++ junk).length = l.length := by rw [List.length_append]; exact hI.len
      have hsz : LMem.sz = 6 := rfl
      have hrl : (rep (l.length - kept.length) zMem).length = (l.length - kept.length) * 6 := by unfold rep; rw [rep_length]; rfl
      rw [hjl, hsz] at hcl
      rw [hsz] at hck
      unfold clearOf
      simp only [hown']
      rw [if_pos ⟨by trivial, by rfl, by omega, by rw [hcl]; omega, by rfl⟩]
      have : splice (LMem.cells (kept ++ junk)) (kept.length * 6) (rep (l.length - kept.length) zMem) = LMem.cells kept ++ rep (l.length - kept.length) zMem := by
        unfold splice
        rw [Lay.cells_append, ← hck, List.take_left, List.drop_eq_nil_of_le (by rw [List.length_append, hrl]; rw [Lay.cells_append, List.length_append] at hcl; omega), List.append_nil]
      rw [this]
    have hkeep : ∀ L : List Nat, keep L fr = L.map fun t => (t, fr.get t) := fun _ => rfl
    simp only [U2Fb, EXA, Nat.reduceEqDiff, reduceIte, reduceCtorEq, Nat.reduceAdd, Nat.reduceLeDiff, Nat.reduceSub, Nat.reduceMul, Int.reduceEq, Int.reduceBEq, Int.reduceBNe, Int.reduceLT, Int.reduceLE, Nat.reduceLT, h0', h5', hs1, hs2, hclr]
    have hke := hI.kept_eq
    rw [List.take_of_length_le (Nat.le_refl _)] at hke
    rw [← hke]
    refine ⟨_, rfl, rfl, ⟨rep (l.length - kept.length) zMem, rfl⟩, hI.nx, ?_⟩
    intro b hb hbn
    rw [if_neg (fun hh => hbn hh.symm)]
    exact hI.old b hb hbn
end Go.Ab
/- value.Drop: a map without some members; value.Set. -/
namespace Go.Ab
set_option maxHeartbeats 1000000
def U3Fc := @F145.eq_1
set_option maxRecDepth 100000
theorem c_cloneM0 (c : Option Nat) (σ : Store) : callM ipU gU .split (.fn 38 [] []) [.vsl [] c] σ = some (.vsl [] (some 0), σ) := by
  have hb2 : both ipU gU (.fn 38 [] []) σ = true := both_of 100 (by kernel_rfl) (by kernel_rfl)
  simp only [callM, noItems, if_true, hb2]
theorem c_cloneM1 (x : Mem) (l : List Mem) (c : Option Nat) (σ : Store) (hb : (x :: l).length < lim) :
    callM ipU gU .split (.fn 38 [] []) [.vsl ((x :: l).map memE) c] σ = some (.sl σ.next 0 (x :: l).length 6 none, σ.alloc (LMem.cells (x :: l))) := by
  unfold lim at hb
  have hro : ∀ σ', rowOf σ' 6 (.vsl ((x :: l).map memE) c) = some (LMem.cells (x :: l)) := fun σ' => LMem.rowOf σ' (x :: l) c
  have ha : appendTo σ 6 96 (.vsl [] (some 0)) (LMem.cells (x :: l)) (l.length + 1) = some (.sl σ.next 0 (l.length + 1) 6 none, σ.alloc (LMem.cells (x :: l))) :=
    app00 (by omega) (by omega) (by unfold maxBytes; simp at hb; omega) (LMem.cells_len (x :: l)) (LMem.cells_one _) (by omega)
  have hn : noItems [.vsl ((x :: l).map memE) c] = false := rfl
  simp only [callM, hn, Bool.false_eq_true, if_false]
  refine callS_of (F := F38) rfl (first := []) (caps := []) ?_
  simp only [List.map_cons] at hro
  simp only [F38, EXA, Nat.reduceEqDiff, reduceIte, reduceCtorEq, Nat.reduceAdd, Nat.reduceLeDiff, Nat.reduceSub, Nat.reduceMul, Int.reduceEq, Int.reduceBEq, Int.reduceBNe, Int.reduceLT, Int.reduceLE, Nat.reduceLT, VX, lenOf_vsl, hro, ha]
theorem c_delete0 (f : AV) (hf : f.closed = true) (hfe : f.er = f) (σ : Store) : callS ipU gU (.fn 155 [] []) [.vsl [] (some 0), f] σ = some (.vsl [] (some 0), σ) := by
  have hi := r_indexM [] f (fun _ => false) hf hfe (by simp [big]) (fun _ h => by cases h)
  have hcall : callP ipU gU false (.fn 161 [] []) [.vsl [] (some 0), f] σ = some (.int .i64 (-1), σ) := by
    rw [callP_closed rfl (by simp [closedL, AV.closed, hf])]
    simp only [erL, AV.er, hfe]
    have : callR ipU gU (.fn 161 [] []) [.vsl [] none, f] = some (.int .i64 (-1)) := hi
    rw [this]; rfl
  refine callS_of (F := F155) rfl (first := []) (caps := []) ?_
  simp only [F155_12, F155_28, F155, EXA, Nat.reduceEqDiff, reduceIte, reduceCtorEq, Nat.reduceAdd, Nat.reduceLeDiff, Nat.reduceSub, Nat.reduceMul, Int.reduceEq, Int.reduceBEq, Int.reduceBNe, Int.reduceLT, Int.reduceLE, Nat.reduceLT, hcall]
def withoutV (v : V) (p : Bs → Bool) : V := if v.kind = 5 then V.mk v.kind v.n v.s v.l (v.m.filter fun x => !p x.1) else v
theorem r_without1 (f : AV) (p : Bs → Bool) (hf : f.closed = true) (hfe : f.er = f) (k : Bs) (hp : callR ipU gU f [.str k] = some (.bool (p k))) (v : V) :
    callR ipU gU (.fn 154 [] [.vptr [f] 0]) [memE (k, v)] = some (.bool (p k)) := by
  refine callR_of (F := F154) rfl (first := []) (caps := [.vptr [f] 0]) ?_
  simp only [F154, EXA, Nat.reduceEqDiff, reduceIte, reduceCtorEq, Nat.reduceAdd, Nat.reduceLeDiff, Nat.reduceSub, Nat.reduceMul, Int.reduceEq, Int.reduceBEq, Int.reduceBNe, Int.reduceLT, Int.reduceLE, Nat.reduceLT, VX, readAt_some, hf, hfe, hp]
theorem r_without (v : V) (f : AV) (p : Bs → Bool) (hf : f.closed = true) (hfe : f.er = f) (hk : f.known = true) (hc : f.cells = [f]) (hlen : v.m.length < lim) (hp : ∀ k, callR ipU gU f [.str k] = some (.bool (p k))) :
    cR 145 [v.enc, f] = some (withoutV v p).enc := by
  refine cR_of (F := F145) rfl ?_
  obtain ⟨r, hr⟩ : ∃ r, r = (withoutV v p).enc := ⟨_, rfl⟩
  rw [← hr]
  unfold withoutV at hr
  cases h5 : v.kind == 5 with
  | false =>
    have hk5 : v.kind ≠ 5 := by simpa using h5
    rw [if_neg hk5] at hr
    simp only [U3Fc, EXA, Nat.reduceEqDiff, reduceIte, reduceCtorEq, Nat.reduceAdd, Nat.reduceLeDiff, Nat.reduceSub, Nat.reduceMul, Int.reduceEq, Int.reduceBEq, Int.reduceBNe, Int.reduceLT, Int.reduceLE, Nat.reduceLT, VX, readAt_some, h5, hk, hc, hr]
  | true =>
    have hk5 : v.kind = 5 := by simpa using h5
    rw [if_pos hk5] at hr
    have h154 : ∀ e ∈ v.m, callR ipU gU (.fn 154 [] [.vptr [f] 0]) [memE e] = some (.bool (p e.1)) := fun e _ => r_without1 f p hf hfe e.1 (hp e.1) e.2
    have hfc : (AV.fn 154 [] [.vptr [f] 0]).closed = true := by simp [AV.closed, closedL, hf]
    have hfee : (AV.fn 154 [] [.vptr [f] 0]).er = .fn 154 [] [.vptr [f] 0] := by simp only [AV.er, erL, hfe]
    obtain ⟨σ0, hσ⟩ : ∃ σ0 : Store, σ0 = ⟨2, [(1, .own [.int .i64 0, .int .i64 0, .str [], .nils, .nils]), (0, .own [.int .i64 v.kind, .int .i64 v.n, .str v.s, .vsl (v.l.map V.enc) none, .vsl (v.m.map memE) none])]⟩ := ⟨_, rfl⟩
    cases hm : v.m with
    | nil =>
      rw [hm] at hσ hr
      have c1 := c_cloneM0 none σ0
      have c2 := c_delete0 _ hfc hfee σ0
      rw [hσ] at c1 c2
      simp only [List.map_nil] at c1 c2
      simp only [U3Fc, EXA, Nat.reduceEqDiff, reduceIte, reduceCtorEq, Nat.reduceAdd, Nat.reduceLeDiff, Nat.reduceSub, Nat.reduceMul, Int.reduceEq, Int.reduceBEq, Int.reduceBNe, Int.reduceLT, Int.reduceLE, Nat.reduceLT, VX, readAt_some, h5, hk, hc, hm, List.map_nil, c1, c2]
      rw [hr, hk5]; rfl
    | cons x m =>
      have hlen' := hlen
      rw [hm] at hlen'
      have c1 := c_cloneM1 x m none σ0 hlen'
      rw [← hm] at c1
      have hnx : σ0.next = 2 := by rw [hσ]
      obtain ⟨σ', d1, ⟨rest, d2⟩, d3, d4⟩ := c_delete v.m _ (fun e => p e.1) hfc hfee hlen h154 (σ0.alloc (LMem.cells v.m)) σ0.next (get_alloc_next (σ := σ0)) (by simp [next_alloc])
      have z0 : look σ'.m 0 = look σ0.m 0 := (d4 0 (by simp [next_alloc]) (by omega)).trans (get_alloc (σ := σ0) (by omega))
      have z1 : look σ'.m 1 = look σ0.m 1 := (d4 1 (by rw [next_alloc]; omega) (by omega)).trans (get_alloc (σ := σ0) (by omega))
      rw [hnx] at c1 d1 d2
      simp only [hσ, look, if_true, Nat.succ_ne_self, if_false] at z0 z1
      clear d3 d4
      generalize hσa : σ0.alloc (LMem.cells v.m) = σa at c1 d1
      rw [hσ] at c1
      simp only [U3Fc, EXA, Nat.reduceEqDiff, reduceIte, reduceCtorEq, Nat.reduceAdd, Nat.reduceLeDiff, Nat.reduceSub, Nat.reduceMul, Int.reduceEq, Int.reduceBEq, Int.reduceBNe, Int.reduceLT, Int.reduceLE, Nat.reduceLT, VX, readAt_some, h5, hk, hc, c1, d1, z0, z1]
      have hcl : (AV.vsl (v.l.map V.enc) none).closed = true := by simp only [AV.closed, closedL_mapV]
      have hce : (AV.vsl (v.l.map V.enc) none).er = .vsl (v.l.map V.enc) none := by simp only [AV.er, erL_mapV]
      have hb := fun (σ1 : Store) (h2 : look σ1.m 2 = some (.own (LMem.cells (v.m.filter fun x => !p x.1) ++ rest))) =>
        RbL.agg (σ := σ1) (RbL.clo (x := .int .i64 v.kind) rfl (RbL.clo (x := .int .i64 v.n) rfl (RbL.clo (x := .str v.s) rfl (RbL.clo (x := .vsl (v.l.map V.enc) none) hcl (RbL.rp (L := LMem) (.inr ⟨2, rest, rfl, h2⟩) (RbL.nil σ1 23))))))
      simp only [er_int, er_str, hce] at hb
      rw [hr, V.enc_eq]
      exact hb _ (by simp only [look, Nat.reduceEqDiff, if_false]; exact d2)
theorem r_Drop1 (keys : List Bs) (hk : keys.length < big) (k : Bs) : callR ipU gU (.fn 144 [] [.vptr [.vsl (keys.map .str) none] 0]) [.str k] = some (.bool (hasS keys k)) := by
  have h := r_containsS keys k hk
  refine callR_of (F := F144) rfl (first := []) (caps := [.vptr [.vsl (keys.map .str) none] 0]) ?_
  simp only [F144, EXA, Nat.reduceEqDiff, reduceIte, reduceCtorEq, Nat.reduceAdd, Nat.reduceLeDiff, Nat.reduceSub, Nat.reduceMul, Int.reduceEq, Int.reduceBEq, Int.reduceBNe, Int.reduceLT, Int.reduceLE, Nat.reduceLT, VX, readAt_some, h]
def dropV (v : V) (keys : List Bs) : V := withoutV v (hasS keys)
theorem r_Drop (v : V) (keys : List Bs) (hlen : v.m.length < lim) (hk : keys.length < big) : cR 131 [v.enc, .vsl (keys.map .str) none] = some (dropV v keys).enc := by
  have hc : (AV.fn 144 [] [.vptr [.vsl (keys.map .str) none] 0]).closed = true := by simp only [AV.closed, closedL, closedL_strs, Bool.and_self]
  have he : (AV.fn 144 [] [.vptr [.vsl (keys.map .str) none] 0]).er = .fn 144 [] [.vptr [.vsl (keys.map .str) none] 0] := by simp only [AV.er, erL, erL_strs]
  have h := r_without v _ (hasS keys) hc he rfl rfl hlen (r_Drop1 keys hk)
  refine cR_of (F := F131) rfl ?_
  simp only [F131, EXA, Nat.reduceEqDiff, reduceIte, reduceCtorEq, Nat.reduceAdd, Nat.reduceLeDiff, Nat.reduceSub, Nat.reduceMul, Int.reduceEq, Int.reduceBEq, Int.reduceBNe, Int.reduceLT, Int.reduceLE, Nat.reduceLT, VX, readAt_some, h]
  unfold dropV
  simp
end Go.Ab
