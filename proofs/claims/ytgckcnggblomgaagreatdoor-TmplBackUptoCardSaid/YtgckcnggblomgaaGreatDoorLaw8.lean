/- What functions of the program, and of the library, answer. Conditions: none. -/
import Derived.Test.YtgckcnggblomgaaGreatDoorLaw7
import Derived.Test.YtgckcnggblomgaaGreatDoorLaw4
set_option linter.unusedVariables false
set_option linter.unusedSimpArgs false
set_option linter.defProp false
/- What is replied of a draft; TmplDrafts: true of any state and any names. -/
namespace Go.Ab
set_option maxHeartbeats 1000000
set_option maxRecDepth 100000
abbrev kEvent : Bs := [101, 118, 101, 110, 116]
abbrev kVersion : Bs := [114, 111, 111, 109, 95, 118, 101, 114, 115, 105, 111, 110]
abbrev sTen : Bs := [49, 48]
def replyP (e : Ev) : V := mapOf [(kEvent, dropV (mapOf (makeL e)) [kTs]), (kVersion, tV3 sTen)]
def replyR (e : Ev) : V := V.mk 5 0 [] [] (refMapL [(kVersion, tV3 sTen), (kEvent, keepV (V.mk 5 0 [] [] (refMapL (makeL e))) [kTs] false)])
theorem drop_keep (m : List Mem) (keys : List Bs) : dropV (V.mk 5 0 [] [] m) keys = keepV (V.mk 5 0 [] [] m) keys false := by
  unfold dropV withoutV keepV
  have h : (V.mk 5 0 [] [] m).kind = 5 := rfl
  rw [if_pos h, if_pos h]
  show V.mk 5 0 [] [] (m.filter fun x => !hasS keys x.1) = V.mk 5 0 [] [] (m.filter fun x => hasS keys x.1 == false)
  congr 1
  congr 1
  funext x
  cases hasS keys x.1 <;> rfl
theorem two_eq (X Y : V) : mapOf [(kEvent, X), (kVersion, Y)] = V.mk 5 0 [] [] (refMapL [(kVersion, Y), (kEvent, X)]) := by kernel_rfl
theorem reply_eq (e : Ev) : replyP e = replyR e := by
  unfold replyP replyR
  rw [two_eq, make_eq, drop_keep]
theorem makeL_len (e : Ev) : (makeL e).length ≤ 9 := by unfold makeL make8; split <;> simp
theorem mapOf_m (l : List Mem) : (mapOf l).m.length ≤ l.length := by
  have h1 := dedupM_len (sortM l)
  have h2 := sortM_len l
  show (dedupM (sortM l)).length ≤ _
  omega
/- How great they are. -/
theorem szM_append : ∀ (l m : List Mem), szM (l ++ m) = szM l + szM m
  | [], m => by simp [szM]
  | (k, v) :: l, m => by simp only [List.cons_append, szM, szM_append l m]; omega
theorem szM_set : ∀ (l : List Mem) (i : Nat) (m : Mem), szM (l.set i m) ≤ szM l + (m.1.length + m.2.sz)
  | [], i, m => by simp [szM]
  | (k, v) :: l, 0, m => by obtain ⟨a, b⟩ := m; simp only [List.set_cons_zero, szM]; omega
  | (k, v) :: l, i + 1, m => by have := szM_set l i m; simp only [List.set_cons_succ, szM]; omega
theorem szM_ins (acc : List Mem) (m : Mem) : szM (insM acc m) ≤ szM acc + (m.1.length + m.2.sz) := by
  unfold insM
  split
  · exact szM_set acc _ m
  · have e : szM acc = szM (acc.take (posM acc m.1)) + szM (acc.drop (posM acc m.1)) := by rw [← szM_append, List.take_append_drop]
    obtain ⟨a, b⟩ := m
    rw [szM_append]
    simp only [szM]
    simp only at e
    omega
theorem szM_foldl : ∀ (l acc : List Mem), szM (l.foldl insM acc) ≤ szM acc + szM l
  | [], acc => by simp [szM]
  | (k, v) :: l, acc => by
    have h1 := szM_foldl l (insM acc (k, v))
    have h2 := szM_ins acc (k, v)
    simp only [List.foldl_cons, szM]
    simp only at h2
    omega
theorem szM_refMap (l : List Mem) : szM (refMapL l) ≤ szM l := by
  have := szM_foldl l []
  unfold refMapL
  simpa [szM] using this
theorem szM_filter (p : Mem → Bool) : ∀ l : List Mem, szM (l.filter p) ≤ szM l
  | [] => by simp [szM]
  | (k, v) :: l => by
    have := szM_filter p l
    rw [List.filter_cons]
    split <;> simp only [szM] <;> omega
theorem szL_texts : ∀ l : List Bs, szL (l.map tV3) = strsSz l + l.length
  | [] => by simp [szL, strsSz]
  | s :: l => by
    have h := szL_texts l
    have e : (tV3 s).sz = s.length + 1 := by simp [tV3, V.sz, szL, szM]
    simp only [List.map_cons, szL, strsSz, List.length_cons, h, e]; omega
theorem lV_sz (l : List Bs) : (lV l).sz = strsSz l + l.length + 1 := by
  simp only [lV, V.sz, szL_texts, szM, List.length_nil]; omega
theorem makeL_sz (e : Ev) : szM (makeL e) ≤ e.sz + e.key.length + 200 := by
  have h1 : ∀ s, (tV3 s).sz = s.length + 1 := fun s => by simp [tV3, V.sz, szL, szM]
  have h2 : ∀ n, (iV2 n).sz = 1 := fun n => by simp [iV2, V.sz, szL, szM]
  have h3 : szM (make8 e) ≤ e.sz + 150 := by
    unfold make8 Ev.sz
    simp only [szM, h1, h2, lV_sz, List.length_cons, List.length_nil]
    omega
  unfold makeL
  split
  · rw [szM_append]
    simp only [szM, h1, List.length_cons, List.length_nil]
    omega
  · omega
theorem replyR_sz (e : Ev) : (replyR e).sz ≤ e.sz + e.key.length + 300 := by
  have h1 := szM_refMap [(kVersion, tV3 sTen), (kEvent, keepV (V.mk 5 0 [] [] (refMapL (makeL e))) [kTs] false)]
  have h2 := szM_refMap (makeL e)
  have h3 := makeL_sz e
  have h4 : (keepV (V.mk 5 0 [] [] (refMapL (makeL e))) [kTs] false).sz ≤ szM (refMapL (makeL e)) + 1 := by
    unfold keepV
    rw [if_pos (show (V.mk 5 0 [] [] (refMapL (makeL e))).kind = 5 from rfl)]
    have := szM_filter (fun x => hasS [kTs] x.1 == false) (refMapL (makeL e))
    have e1 : (V.mk 5 0 [] [] ((V.mk 5 0 [] [] (refMapL (makeL e))).m.filter fun x => hasS [kTs] x.1 == false)).sz = szM ((refMapL (makeL e)).filter fun x => hasS [kTs] x.1 == false) + 1 := by simp [V.sz, szL, V.m]
    rw [e1]; exact Nat.succ_le_succ this
  unfold replyR
  generalize keepV (V.mk 5 0 [] [] (refMapL (makeL e))) [kTs] false = D at h1 h4 ⊢
  have e2 : (V.mk 5 0 [] [] (refMapL [(kVersion, tV3 sTen), (kEvent, D)])).sz = szM (refMapL [(kVersion, tV3 sTen), (kEvent, D)]) + 1 := by simp [V.sz, szL]
  have e3 : szM [(kVersion, tV3 sTen), (kEvent, D)] = D.sz + 20 := by simp only [szM, List.length_cons, List.length_nil, tV3, V.sz, szL]; omega
  rw [e2]
  rw [e3] at h1
  omega
theorem r_Reply (e : Ev) (h1 : e.prev.length < lim) (h2 : e.auth.length < lim) : cR 118 [evE e] = some (replyP e).enc := by
  have a1 := r_Make e h1 h2
  have a2 := r_Drop (mapOf (makeL e)) [kTs] (by have := mapOf_m (makeL e); have := makeL_len e; unfold lim; omega) (by simp [big])
  have a3 : ∀ s, cR 18 [.str s] = some (tV3 s).enc := r_Text
  have a4 := r_Map [(kEvent, dropV (mapOf (makeL e)) [kTs]), (kVersion, tV3 sTen)] (by simp)
  obtain ⟨r, hr⟩ : ∃ r, r = (replyP e).enc := ⟨_, rfl⟩
  rw [← hr]
  unfold replyP at hr
  simp only [List.map_cons, List.map_nil] at a2 a4
  generalize dropV (mapOf (makeL e)) [kTs] = D at a2 a4 hr
  generalize mapOf [(kEvent, D), (kVersion, tV3 sTen)] = R at a4 hr
  generalize mapOf (makeL e) = M at a1 a2
  refine cR_of (F := F118) rfl ?_
  simp only [F118, EXA, Nat.reduceEqDiff, reduceIte, reduceCtorEq, Nat.reduceAdd, Nat.reduceLeDiff, Nat.reduceSub, Nat.reduceMul, Int.reduceEq, Int.reduceBEq, Int.reduceBNe, Int.reduceLT, Int.reduceLE, Nat.reduceLT, VX, readAt_some, evE_eta0, a1, a2, a3, a4, hr]
end Go.Ab
/- tmpl.Take. -/
namespace Go.Ab
set_option maxHeartbeats 1000000
def W7Fa := J @F121_23.eq_1 (J @F121_26.eq_1 (J @F121_28.eq_1 (J @F121_31.eq_1 (J @F121_32.eq_1 (@F121.eq_1)))))
set_option maxRecDepth 100000
def evT (room user : Bs) (d : Int) (p a : List Bs) (c : V) : Ev := ⟨V.zero, [], room, kMember, user, user, true, 0, d, p, a, c⟩
abbrev z20 : List AV := [.int .i64 0, .int .i64 0, .str [], .nils, .nils, .str [], .str [], .str [], .str [], .str [], .bool false, .int .i64 0, .int .i64 0, .nils, .nils, .int .i64 0, .int .i64 0, .str [], .nils, .nils]
theorem r_isC (e : V) (k x : Bs) (he : e.sz < big) : callR ipU gU (.fn 134 [e.enc] []) [.str k, .str x] = some (.bool (isV e k x)) := r_is e k x he
section
variable {room user to by_ : Bs} {p a' : List Bs} {d : Int} {e c' : V} {b15 b17 b19 b21 b23 b25 : Bool} {σ : Store} {i j : Nat} {c : ICode} {k : List Item} {Q : Fr → Store → Prop}
abbrev tkT (n : Nat) : List IOper := (opsOf F121_23).drop n
theorem tk1  : Ex ipU gU (.ops (opsOf F121_23) :: .code (.keep [1, 2, 3, 10, 18, 20, 22, 24, 135] c) :: k) [(1, .str room), (2, .str user), (3, .str to), (10, .ptr i 0), (15, .bool b15), (16, .ptr j 0), (17, .bool b17), (18, .str by_), (19, .bool b19), (20, .vsl (p.map .str) none), (21, .bool b21), (22, .vsl (a'.map .str) none), (23, .bool b23), (24, .int .i64 d), (25, .bool b25), (26, .fn 134 [e.enc] [])] σ Q ↔ Ex ipU gU (.ops (tkT 3) :: .code (.keep [1, 2, 3, 10, 18, 20, 22, 24, 135] c) :: k) [(1, .str room), (2, .str user), (3, .str to), (10, .ptr i 0), (16, .ptr j 0), (17, .bool b17), (18, .str by_), (19, .bool b19), (20, .vsl (p.map .str) none), (21, .bool b21), (22, .vsl (a'.map .str) none), (23, .bool b23), (24, .int .i64 d), (25, .bool b25), (26, .fn 134 [e.enc] []), (83, .bool (!b15))] σ Q := by
  rw [ex_cut 3]
  have hl : (liveIn [1, 2, 3, 10, 18, 20, 22, 24, 135] (tkT 3)).all (([1, 2, 3, 10, 16, 17, 18, 19, 20, 21, 22, 23, 24, 25, 26, 83] : List Nat).contains ·) = true := by kernel_rfl
  unfold tkT at hl ⊢
  generalize (opsOf F121_23).drop 3 = tl at hl ⊢
  simp only [opsOf, W7Fa, EXA, Nat.reduceEqDiff, reduceIte, reduceCtorEq, Nat.reduceAdd, Nat.reduceLeDiff, Nat.reduceSub, Nat.reduceMul, Int.reduceEq, Int.reduceBEq, Int.reduceBNe, Int.reduceLT, Int.reduceLE, Nat.reduceLT, VX, readAt_some]
  rw [ex_prune [1, 2, 3, 10, 16, 17, 18, 19, 20, 21, 22, 23, 24, 25, 26, 83] hl]
  simp only [EXA, Nat.reduceEqDiff, reduceIte, reduceCtorEq, Nat.reduceAdd, Nat.reduceLeDiff, Nat.reduceSub, Nat.reduceMul, Int.reduceEq, Int.reduceBEq, Int.reduceBNe, Int.reduceLT, Int.reduceLE, Nat.reduceLT]
theorem tk2  (a : Bool) : Ex ipU gU (.ops (tkT 3) :: .code (.keep [1, 2, 3, 10, 18, 20, 22, 24, 135] c) :: k) [(1, .str room), (2, .str user), (3, .str to), (10, .ptr i 0), (16, .ptr j 0), (17, .bool b17), (18, .str by_), (19, .bool b19), (20, .vsl (p.map .str) none), (21, .bool b21), (22, .vsl (a'.map .str) none), (23, .bool b23), (24, .int .i64 d), (25, .bool b25), (26, .fn 134 [e.enc] []), (83, .bool a)] σ Q ↔ Ex ipU gU (.ops (tkT 7) :: .code (.keep [1, 2, 3, 10, 18, 20, 22, 24, 135] c) :: k) [(1, .str room), (2, .str user), (3, .str to), (10, .ptr i 0), (16, .ptr j 0), (18, .str by_), (19, .bool b19), (20, .vsl (p.map .str) none), (21, .bool b21), (22, .vsl (a'.map .str) none), (23, .bool b23), (24, .int .i64 d), (25, .bool b25), (26, .fn 134 [e.enc] []), (87, .bool (a || !b17))] σ Q := by
  have hd : tkT 7 = (tkT 3).drop 4 := rfl
  rw [ex_cut 4, hd]
  have hl : (liveIn [1, 2, 3, 10, 18, 20, 22, 24, 135] ((tkT 3).drop 4)).all (([1, 2, 3, 10, 16, 18, 19, 20, 21, 22, 23, 24, 25, 26, 87] : List Nat).contains ·) = true := by kernel_rfl
  generalize (tkT 3).drop 4 = tl at hl ⊢
  cases a
  · simp only [tkT, opsOf, W7Fa, EXA, Nat.reduceEqDiff, reduceIte, reduceCtorEq, Nat.reduceAdd, Nat.reduceLeDiff, Nat.reduceSub, Nat.reduceMul, Int.reduceEq, Int.reduceBEq, Int.reduceBNe, Int.reduceLT, Int.reduceLE, Nat.reduceLT, VX, readAt_some, Bool.false_or]
    rw [ex_prune [1, 2, 3, 10, 16, 18, 19, 20, 21, 22, 23, 24, 25, 26, 87] hl]
    simp only [EXA, Nat.reduceEqDiff, reduceIte, reduceCtorEq, Nat.reduceAdd, Nat.reduceLeDiff, Nat.reduceSub, Nat.reduceMul, Int.reduceEq, Int.reduceBEq, Int.reduceBNe, Int.reduceLT, Int.reduceLE, Nat.reduceLT, Bool.false_or]
  · simp only [tkT, opsOf, W7Fa, EXA, Nat.reduceEqDiff, reduceIte, reduceCtorEq, Nat.reduceAdd, Nat.reduceLeDiff, Nat.reduceSub, Nat.reduceMul, Int.reduceEq, Int.reduceBEq, Int.reduceBNe, Int.reduceLT, Int.reduceLE, Nat.reduceLT, VX, readAt_some, Bool.true_or]
    rw [ex_prune [1, 2, 3, 10, 16, 18, 19, 20, 21, 22, 23, 24, 25, 26, 87] hl]
    simp only [EXA, Nat.reduceEqDiff, reduceIte, reduceCtorEq, Nat.reduceAdd, Nat.reduceLeDiff, Nat.reduceSub, Nat.reduceMul, Int.reduceEq, Int.reduceBEq, Int.reduceBNe, Int.reduceLT, Int.reduceLE, Nat.reduceLT, Bool.true_or]
theorem tk3  (a : Bool) : Ex ipU gU (.ops (tkT 7) :: .code (.keep [1, 2, 3, 10, 18, 20, 22, 24, 135] c) :: k) [(1, .str room), (2, .str user), (3, .str to), (10, .ptr i 0), (16, .ptr j 0), (18, .str by_), (19, .bool b19), (20, .vsl (p.map .str) none), (21, .bool b21), (22, .vsl (a'.map .str) none), (23, .bool b23), (24, .int .i64 d), (25, .bool b25), (26, .fn 134 [e.enc] []), (87, .bool a)] σ Q ↔ Ex ipU gU (.ops (tkT 11) :: .code (.keep [1, 2, 3, 10, 18, 20, 22, 24, 135] c) :: k) [(1, .str room), (2, .str user), (3, .str to), (10, .ptr i 0), (16, .ptr j 0), (18, .str by_), (20, .vsl (p.map .str) none), (21, .bool b21), (22, .vsl (a'.map .str) none), (23, .bool b23), (24, .int .i64 d), (25, .bool b25), (26, .fn 134 [e.enc] []), (91, .bool (a || !b19))] σ Q := by
  have hd : tkT 11 = (tkT 7).drop 4 := rfl
  rw [ex_cut 4, hd]
  have hl : (liveIn [1, 2, 3, 10, 18, 20, 22, 24, 135] ((tkT 7).drop 4)).all (([1, 2, 3, 10, 16, 18, 20, 21, 22, 23, 24, 25, 26, 91] : List Nat).contains ·) = true := by kernel_rfl
  generalize (tkT 7).drop 4 = tl at hl ⊢
  cases a
  · simp only [tkT, opsOf, W7Fa, EXA, Nat.reduceEqDiff, reduceIte, reduceCtorEq, Nat.reduceAdd, Nat.reduceLeDiff, Nat.reduceSub, Nat.reduceMul, Int.reduceEq, Int.reduceBEq, Int.reduceBNe, Int.reduceLT, Int.reduceLE, Nat.reduceLT, VX, readAt_some, Bool.false_or]
    rw [ex_prune [1, 2, 3, 10, 16, 18, 20, 21, 22, 23, 24, 25, 26, 91] hl]
    simp only [EXA, Nat.reduceEqDiff, reduceIte, reduceCtorEq, Nat.reduceAdd, Nat.reduceLeDiff, Nat.reduceSub, Nat.reduceMul, Int.reduceEq, Int.reduceBEq, Int.reduceBNe, Int.reduceLT, Int.reduceLE, Nat.reduceLT, Bool.false_or]
  · simp only [tkT, opsOf, W7Fa, EXA, Nat.reduceEqDiff, reduceIte, reduceCtorEq, Nat.reduceAdd, Nat.reduceLeDiff, Nat.reduceSub, Nat.reduceMul, Int.reduceEq, Int.reduceBEq, Int.reduceBNe, Int.reduceLT, Int.reduceLE, Nat.reduceLT, VX, readAt_some, Bool.true_or]
    rw [ex_prune [1, 2, 3, 10, 16, 18, 20, 21, 22, 23, 24, 25, 26, 91] hl]
    simp only [EXA, Nat.reduceEqDiff, reduceIte, reduceCtorEq, Nat.reduceAdd, Nat.reduceLeDiff, Nat.reduceSub, Nat.reduceMul, Int.reduceEq, Int.reduceBEq, Int.reduceBNe, Int.reduceLT, Int.reduceLE, Nat.reduceLT, Bool.true_or]
theorem tk4  (a : Bool) : Ex ipU gU (.ops (tkT 11) :: .code (.keep [1, 2, 3, 10, 18, 20, 22, 24, 135] c) :: k) [(1, .str room), (2, .str user), (3, .str to), (10, .ptr i 0), (16, .ptr j 0), (18, .str by_), (20, .vsl (p.map .str) none), (21, .bool b21), (22, .vsl (a'.map .str) none), (23, .bool b23), (24, .int .i64 d), (25, .bool b25), (26, .fn 134 [e.enc] []), (91, .bool a)] σ Q ↔ Ex ipU gU (.ops (tkT 15) :: .code (.keep [1, 2, 3, 10, 18, 20, 22, 24, 135] c) :: k) [(1, .str room), (2, .str user), (3, .str to), (10, .ptr i 0), (16, .ptr j 0), (18, .str by_), (20, .vsl (p.map .str) none), (22, .vsl (a'.map .str) none), (23, .bool b23), (24, .int .i64 d), (25, .bool b25), (26, .fn 134 [e.enc] []), (95, .bool (a || !b21))] σ Q := by
  have hd : tkT 15 = (tkT 11).drop 4 := rfl
  rw [ex_cut 4, hd]
  have hl : (liveIn [1, 2, 3, 10, 18, 20, 22, 24, 135] ((tkT 11).drop 4)).all (([1, 2, 3, 10, 16, 18, 20, 22, 23, 24, 25, 26, 95] : List Nat).contains ·) = true := by kernel_rfl
  generalize (tkT 11).drop 4 = tl at hl ⊢
  cases a
  · simp only [tkT, opsOf, W7Fa, EXA, Nat.reduceEqDiff, reduceIte, reduceCtorEq, Nat.reduceAdd, Nat.reduceLeDiff, Nat.reduceSub, Nat.reduceMul, Int.reduceEq, Int.reduceBEq, Int.reduceBNe, Int.reduceLT, Int.reduceLE, Nat.reduceLT, VX, readAt_some, Bool.false_or]
    rw [ex_prune [1, 2, 3, 10, 16, 18, 20, 22, 23, 24, 25, 26, 95] hl]
    simp only [EXA, Nat.reduceEqDiff, reduceIte, reduceCtorEq, Nat.reduceAdd, Nat.reduceLeDiff, Nat.reduceSub, Nat.reduceMul, Int.reduceEq, Int.reduceBEq, Int.reduceBNe, Int.reduceLT, Int.reduceLE, Nat.reduceLT, Bool.false_or]
  · simp only [tkT, opsOf, W7Fa, EXA, Nat.reduceEqDiff, reduceIte, reduceCtorEq, Nat.reduceAdd, Nat.reduceLeDiff, Nat.reduceSub, Nat.reduceMul, Int.reduceEq, Int.reduceBEq, Int.reduceBNe, Int.reduceLT, Int.reduceLE, Nat.reduceLT, VX, readAt_some, Bool.true_or]
    rw [ex_prune [1, 2, 3, 10, 16, 18, 20, 22, 23, 24, 25, 26, 95] hl]
    simp only [EXA, Nat.reduceEqDiff, reduceIte, reduceCtorEq, Nat.reduceAdd, Nat.reduceLeDiff, Nat.reduceSub, Nat.reduceMul, Int.reduceEq, Int.reduceBEq, Int.reduceBNe, Int.reduceLT, Int.reduceLE, Nat.reduceLT, Bool.true_or]
theorem tk5  (a : Bool) : Ex ipU gU (.ops (tkT 15) :: .code (.keep [1, 2, 3, 10, 18, 20, 22, 24, 135] c) :: k) [(1, .str room), (2, .str user), (3, .str to), (10, .ptr i 0), (16, .ptr j 0), (18, .str by_), (20, .vsl (p.map .str) none), (22, .vsl (a'.map .str) none), (23, .bool b23), (24, .int .i64 d), (25, .bool b25), (26, .fn 134 [e.enc] []), (95, .bool a)] σ Q ↔ Ex ipU gU (.ops (tkT 19) :: .code (.keep [1, 2, 3, 10, 18, 20, 22, 24, 135] c) :: k) [(1, .str room), (2, .str user), (3, .str to), (10, .ptr i 0), (16, .ptr j 0), (18, .str by_), (20, .vsl (p.map .str) none), (22, .vsl (a'.map .str) none), (24, .int .i64 d), (25, .bool b25), (26, .fn 134 [e.enc] []), (99, .bool (a || !b23))] σ Q := by
  have hd : tkT 19 = (tkT 15).drop 4 := rfl
  rw [ex_cut 4, hd]
  have hl : (liveIn [1, 2, 3, 10, 18, 20, 22, 24, 135] ((tkT 15).drop 4)).all (([1, 2, 3, 10, 16, 18, 20, 22, 24, 25, 26, 99] : List Nat).contains ·) = true := by kernel_rfl
  generalize (tkT 15).drop 4 = tl at hl ⊢
  cases a
  · simp only [tkT, opsOf, W7Fa, EXA, Nat.reduceEqDiff, reduceIte, reduceCtorEq, Nat.reduceAdd, Nat.reduceLeDiff, Nat.reduceSub, Nat.reduceMul, Int.reduceEq, Int.reduceBEq, Int.reduceBNe, Int.reduceLT, Int.reduceLE, Nat.reduceLT, VX, readAt_some, Bool.false_or]
    rw [ex_prune [1, 2, 3, 10, 16, 18, 20, 22, 24, 25, 26, 99] hl]
    simp only [EXA, Nat.reduceEqDiff, reduceIte, reduceCtorEq, Nat.reduceAdd, Nat.reduceLeDiff, Nat.reduceSub, Nat.reduceMul, Int.reduceEq, Int.reduceBEq, Int.reduceBNe, Int.reduceLT, Int.reduceLE, Nat.reduceLT, Bool.false_or]
  · simp only [tkT, opsOf, W7Fa, EXA, Nat.reduceEqDiff, reduceIte, reduceCtorEq, Nat.reduceAdd, Nat.reduceLeDiff, Nat.reduceSub, Nat.reduceMul, Int.reduceEq, Int.reduceBEq, Int.reduceBNe, Int.reduceLT, Int.reduceLE, Nat.reduceLT, VX, readAt_some, Bool.true_or]
    rw [ex_prune [1, 2, 3, 10, 16, 18, 20, 22, 24, 25, 26, 99] hl]
    simp only [EXA, Nat.reduceEqDiff, reduceIte, reduceCtorEq, Nat.reduceAdd, Nat.reduceLeDiff, Nat.reduceSub, Nat.reduceMul, Int.reduceEq, Int.reduceBEq, Int.reduceBNe, Int.reduceLT, Int.reduceLE, Nat.reduceLT, Bool.true_or]
theorem tk6  (a : Bool) : Ex ipU gU (.ops (tkT 19) :: .code (.keep [1, 2, 3, 10, 18, 20, 22, 24, 135] c) :: k) [(1, .str room), (2, .str user), (3, .str to), (10, .ptr i 0), (16, .ptr j 0), (18, .str by_), (20, .vsl (p.map .str) none), (22, .vsl (a'.map .str) none), (24, .int .i64 d), (25, .bool b25), (26, .fn 134 [e.enc] []), (99, .bool a)] σ Q ↔ Ex ipU gU (.ops (tkT 23) :: .code (.keep [1, 2, 3, 10, 18, 20, 22, 24, 135] c) :: k) [(1, .str room), (2, .str user), (3, .str to), (10, .ptr i 0), (16, .ptr j 0), (18, .str by_), (20, .vsl (p.map .str) none), (22, .vsl (a'.map .str) none), (24, .int .i64 d), (26, .fn 134 [e.enc] []), (103, .bool (a || !b25))] σ Q := by
  have hd : tkT 23 = (tkT 19).drop 4 := rfl
  rw [ex_cut 4, hd]
  have hl : (liveIn [1, 2, 3, 10, 18, 20, 22, 24, 135] ((tkT 19).drop 4)).all (([1, 2, 3, 10, 16, 18, 20, 22, 24, 26, 103] : List Nat).contains ·) = true := by kernel_rfl
  generalize (tkT 19).drop 4 = tl at hl ⊢
  cases a
  · simp only [tkT, opsOf, W7Fa, EXA, Nat.reduceEqDiff, reduceIte, reduceCtorEq, Nat.reduceAdd, Nat.reduceLeDiff, Nat.reduceSub, Nat.reduceMul, Int.reduceEq, Int.reduceBEq, Int.reduceBNe, Int.reduceLT, Int.reduceLE, Nat.reduceLT, VX, readAt_some, Bool.false_or]
    rw [ex_prune [1, 2, 3, 10, 16, 18, 20, 22, 24, 26, 103] hl]
    simp only [EXA, Nat.reduceEqDiff, reduceIte, reduceCtorEq, Nat.reduceAdd, Nat.reduceLeDiff, Nat.reduceSub, Nat.reduceMul, Int.reduceEq, Int.reduceBEq, Int.reduceBNe, Int.reduceLT, Int.reduceLE, Nat.reduceLT, Bool.false_or]
  · simp only [tkT, opsOf, W7Fa, EXA, Nat.reduceEqDiff, reduceIte, reduceCtorEq, Nat.reduceAdd, Nat.reduceLeDiff, Nat.reduceSub, Nat.reduceMul, Int.reduceEq, Int.reduceBEq, Int.reduceBNe, Int.reduceLT, Int.reduceLE, Nat.reduceLT, VX, readAt_some, Bool.true_or]
    rw [ex_prune [1, 2, 3, 10, 16, 18, 20, 22, 24, 26, 103] hl]
    simp only [EXA, Nat.reduceEqDiff, reduceIte, reduceCtorEq, Nat.reduceAdd, Nat.reduceLeDiff, Nat.reduceSub, Nat.reduceMul, Int.reduceEq, Int.reduceBEq, Int.reduceBNe, Int.reduceLT, Int.reduceLE, Nat.reduceLT, Bool.true_or]
theorem tk7  (a : Bool) : Ex ipU gU (.ops (tkT 23) :: .code (.keep [1, 2, 3, 10, 18, 20, 22, 24, 135] c) :: k) [(1, .str room), (2, .str user), (3, .str to), (10, .ptr i 0), (16, .ptr j 0), (18, .str by_), (20, .vsl (p.map .str) none), (22, .vsl (a'.map .str) none), (24, .int .i64 d), (26, .fn 134 [e.enc] []), (103, .bool a)] σ Q ↔ Ex ipU gU (.ops (tkT 27) :: .code (.keep [1, 2, 3, 10, 18, 20, 22, 24, 135] c) :: k) [(1, .str room), (2, .str user), (3, .str to), (10, .ptr i 0), (16, .ptr j 0), (18, .str by_), (20, .vsl (p.map .str) none), (22, .vsl (a'.map .str) none), (24, .int .i64 d), (26, .fn 134 [e.enc] []), (107, .bool (a || decide (d < 0)))] σ Q := by
  have hd : tkT 27 = (tkT 23).drop 4 := rfl
  rw [ex_cut 4, hd]
  have hl : (liveIn [1, 2, 3, 10, 18, 20, 22, 24, 135] ((tkT 23).drop 4)).all (([1, 2, 3, 10, 16, 18, 20, 22, 24, 26, 107] : List Nat).contains ·) = true := by kernel_rfl
  generalize (tkT 23).drop 4 = tl at hl ⊢
  cases a
  · simp only [tkT, opsOf, W7Fa, EXA, Nat.reduceEqDiff, reduceIte, reduceCtorEq, Nat.reduceAdd, Nat.reduceLeDiff, Nat.reduceSub, Nat.reduceMul, Int.reduceEq, Int.reduceBEq, Int.reduceBNe, Int.reduceLT, Int.reduceLE, Nat.reduceLT, VX, readAt_some, Bool.false_or]
    rw [ex_prune [1, 2, 3, 10, 16, 18, 20, 22, 24, 26, 107] hl]
    simp only [EXA, Nat.reduceEqDiff, reduceIte, reduceCtorEq, Nat.reduceAdd, Nat.reduceLeDiff, Nat.reduceSub, Nat.reduceMul, Int.reduceEq, Int.reduceBEq, Int.reduceBNe, Int.reduceLT, Int.reduceLE, Nat.reduceLT, Bool.false_or]
  · simp only [tkT, opsOf, W7Fa, EXA, Nat.reduceEqDiff, reduceIte, reduceCtorEq, Nat.reduceAdd, Nat.reduceLeDiff, Nat.reduceSub, Nat.reduceMul, Int.reduceEq, Int.reduceBEq, Int.reduceBNe, Int.reduceLT, Int.reduceLE, Nat.reduceLT, VX, readAt_some, Bool.true_or]
    rw [ex_prune [1, 2, 3, 10, 16, 18, 20, 22, 24, 26, 107] hl]
    simp only [EXA, Nat.reduceEqDiff, reduceIte, reduceCtorEq, Nat.reduceAdd, Nat.reduceLeDiff, Nat.reduceSub, Nat.reduceMul, Int.reduceEq, Int.reduceBEq, Int.reduceBNe, Int.reduceLT, Int.reduceLE, Nat.reduceLT, Bool.true_or]
theorem tk8  (he : e.sz < big) (a : Bool) : Ex ipU gU (.ops (tkT 27) :: .code (.keep [1, 2, 3, 10, 18, 20, 22, 24, 135] c) :: k) [(1, .str room), (2, .str user), (3, .str to), (10, .ptr i 0), (16, .ptr j 0), (18, .str by_), (20, .vsl (p.map .str) none), (22, .vsl (a'.map .str) none), (24, .int .i64 d), (26, .fn 134 [e.enc] []), (107, .bool a)] σ Q ↔ Ex ipU gU (.ops (tkT 32) :: .code (.keep [1, 2, 3, 10, 18, 20, 22, 24, 135] c) :: k) [(1, .str room), (2, .str user), (3, .str to), (10, .ptr i 0), (16, .ptr j 0), (18, .str by_), (20, .vsl (p.map .str) none), (22, .vsl (a'.map .str) none), (24, .int .i64 d), (26, .fn 134 [e.enc] []), (112, .bool (a || !isV e kT kMember))] σ Q := by
  have q := r_isC e kT kMember he
  have hd : tkT 32 = (tkT 27).drop 5 := rfl
  rw [ex_cut 5, hd]
  have hl : (liveIn [1, 2, 3, 10, 18, 20, 22, 24, 135] ((tkT 27).drop 5)).all (([1, 2, 3, 10, 16, 18, 20, 22, 24, 26, 112] : List Nat).contains ·) = true := by kernel_rfl
  generalize (tkT 27).drop 5 = tl at hl ⊢
  cases a
  · simp only [tkT, opsOf, W7Fa, EXA, Nat.reduceEqDiff, reduceIte, reduceCtorEq, Nat.reduceAdd, Nat.reduceLeDiff, Nat.reduceSub, Nat.reduceMul, Int.reduceEq, Int.reduceBEq, Int.reduceBNe, Int.reduceLT, Int.reduceLE, Nat.reduceLT, VX, readAt_some, q, Bool.false_or]
    rw [ex_prune [1, 2, 3, 10, 16, 18, 20, 22, 24, 26, 112] hl]
    simp only [EXA, Nat.reduceEqDiff, reduceIte, reduceCtorEq, Nat.reduceAdd, Nat.reduceLeDiff, Nat.reduceSub, Nat.reduceMul, Int.reduceEq, Int.reduceBEq, Int.reduceBNe, Int.reduceLT, Int.reduceLE, Nat.reduceLT, Bool.false_or]
  · simp only [tkT, opsOf, W7Fa, EXA, Nat.reduceEqDiff, reduceIte, reduceCtorEq, Nat.reduceAdd, Nat.reduceLeDiff, Nat.reduceSub, Nat.reduceMul, Int.reduceEq, Int.reduceBEq, Int.reduceBNe, Int.reduceLT, Int.reduceLE, Nat.reduceLT, VX, readAt_some, Bool.true_or]
    rw [ex_prune [1, 2, 3, 10, 16, 18, 20, 22, 24, 26, 112] hl]
    simp only [EXA, Nat.reduceEqDiff, reduceIte, reduceCtorEq, Nat.reduceAdd, Nat.reduceLeDiff, Nat.reduceSub, Nat.reduceMul, Int.reduceEq, Int.reduceBEq, Int.reduceBNe, Int.reduceLT, Int.reduceLE, Nat.reduceLT, Bool.true_or]
theorem tk9  (he : e.sz < big) (a : Bool) : Ex ipU gU (.ops (tkT 32) :: .code (.keep [1, 2, 3, 10, 18, 20, 22, 24, 135] c) :: k) [(1, .str room), (2, .str user), (3, .str to), (10, .ptr i 0), (16, .ptr j 0), (18, .str by_), (20, .vsl (p.map .str) none), (22, .vsl (a'.map .str) none), (24, .int .i64 d), (26, .fn 134 [e.enc] []), (112, .bool a)] σ Q ↔ Ex ipU gU (.ops (tkT 38) :: .code (.keep [1, 2, 3, 10, 18, 20, 22, 24, 135] c) :: k) [(1, .str room), (2, .str user), (3, .str to), (10, .ptr i 0), (16, .ptr j 0), (18, .str by_), (20, .vsl (p.map .str) none), (22, .vsl (a'.map .str) none), (24, .int .i64 d), (26, .fn 134 [e.enc] []), (118, .bool (a || !isV e kRoom room))] σ Q := by
  have q := r_isC e kRoom room he
  have hd : tkT 38 = (tkT 32).drop 6 := rfl
  rw [ex_cut 6, hd]
  have hl : (liveIn [1, 2, 3, 10, 18, 20, 22, 24, 135] ((tkT 32).drop 6)).all (([1, 2, 3, 10, 16, 18, 20, 22, 24, 26, 118] : List Nat).contains ·) = true := by kernel_rfl
  generalize (tkT 32).drop 6 = tl at hl ⊢
  cases a
  · simp only [tkT, opsOf, W7Fa, EXA, Nat.reduceEqDiff, reduceIte, reduceCtorEq, Nat.reduceAdd, Nat.reduceLeDiff, Nat.reduceSub, Nat.reduceMul, Int.reduceEq, Int.reduceBEq, Int.reduceBNe, Int.reduceLT, Int.reduceLE, Nat.reduceLT, VX, readAt_some, q, Bool.false_or]
    rw [ex_prune [1, 2, 3, 10, 16, 18, 20, 22, 24, 26, 118] hl]
    simp only [EXA, Nat.reduceEqDiff, reduceIte, reduceCtorEq, Nat.reduceAdd, Nat.reduceLeDiff, Nat.reduceSub, Nat.reduceMul, Int.reduceEq, Int.reduceBEq, Int.reduceBNe, Int.reduceLT, Int.reduceLE, Nat.reduceLT, Bool.false_or]
  · simp only [tkT, opsOf, W7Fa, EXA, Nat.reduceEqDiff, reduceIte, reduceCtorEq, Nat.reduceAdd, Nat.reduceLeDiff, Nat.reduceSub, Nat.reduceMul, Int.reduceEq, Int.reduceBEq, Int.reduceBNe, Int.reduceLT, Int.reduceLE, Nat.reduceLT, VX, readAt_some, Bool.true_or]
    rw [ex_prune [1, 2, 3, 10, 16, 18, 20, 22, 24, 26, 118] hl]
    simp only [EXA, Nat.reduceEqDiff, reduceIte, reduceCtorEq, Nat.reduceAdd, Nat.reduceLeDiff, Nat.reduceSub, Nat.reduceMul, Int.reduceEq, Int.reduceBEq, Int.reduceBNe, Int.reduceLT, Int.reduceLE, Nat.reduceLT, Bool.true_or]
theorem tk10  (he : e.sz < big) (a : Bool) : Ex ipU gU (.ops (tkT 38) :: .code (.keep [1, 2, 3, 10, 18, 20, 22, 24, 135] c) :: k) [(1, .str room), (2, .str user), (3, .str to), (10, .ptr i 0), (16, .ptr j 0), (18, .str by_), (20, .vsl (p.map .str) none), (22, .vsl (a'.map .str) none), (24, .int .i64 d), (26, .fn 134 [e.enc] []), (118, .bool a)] σ Q ↔ Ex ipU gU (.ops (tkT 44) :: .code (.keep [1, 2, 3, 10, 18, 20, 22, 24, 135] c) :: k) [(1, .str room), (2, .str user), (3, .str to), (10, .ptr i 0), (16, .ptr j 0), (18, .str by_), (20, .vsl (p.map .str) none), (22, .vsl (a'.map .str) none), (24, .int .i64 d), (26, .fn 134 [e.enc] []), (124, .bool (a || !isV e kSender user))] σ Q := by
  have q := r_isC e kSender user he
  have hd : tkT 44 = (tkT 38).drop 6 := rfl
  rw [ex_cut 6, hd]
  have hl : (liveIn [1, 2, 3, 10, 18, 20, 22, 24, 135] ((tkT 38).drop 6)).all (([1, 2, 3, 10, 16, 18, 20, 22, 24, 26, 124] : List Nat).contains ·) = true := by kernel_rfl
  generalize (tkT 38).drop 6 = tl at hl ⊢
  cases a
  · simp only [tkT, opsOf, W7Fa, EXA, Nat.reduceEqDiff, reduceIte, reduceCtorEq, Nat.reduceAdd, Nat.reduceLeDiff, Nat.reduceSub, Nat.reduceMul, Int.reduceEq, Int.reduceBEq, Int.reduceBNe, Int.reduceLT, Int.reduceLE, Nat.reduceLT, VX, readAt_some, q, Bool.false_or]
    rw [ex_prune [1, 2, 3, 10, 16, 18, 20, 22, 24, 26, 124] hl]
    simp only [EXA, Nat.reduceEqDiff, reduceIte, reduceCtorEq, Nat.reduceAdd, Nat.reduceLeDiff, Nat.reduceSub, Nat.reduceMul, Int.reduceEq, Int.reduceBEq, Int.reduceBNe, Int.reduceLT, Int.reduceLE, Nat.reduceLT, Bool.false_or]
  · simp only [tkT, opsOf, W7Fa, EXA, Nat.reduceEqDiff, reduceIte, reduceCtorEq, Nat.reduceAdd, Nat.reduceLeDiff, Nat.reduceSub, Nat.reduceMul, Int.reduceEq, Int.reduceBEq, Int.reduceBNe, Int.reduceLT, Int.reduceLE, Nat.reduceLT, VX, readAt_some, Bool.true_or]
    rw [ex_prune [1, 2, 3, 10, 16, 18, 20, 22, 24, 26, 124] hl]
    simp only [EXA, Nat.reduceEqDiff, reduceIte, reduceCtorEq, Nat.reduceAdd, Nat.reduceLeDiff, Nat.reduceSub, Nat.reduceMul, Int.reduceEq, Int.reduceBEq, Int.reduceBNe, Int.reduceLT, Int.reduceLE, Nat.reduceLT, Bool.true_or]
theorem tk11  (he : e.sz < big) (a : Bool) : Ex ipU gU (.ops (tkT 44) :: .code (.keep [1, 2, 3, 10, 18, 20, 22, 24, 135] c) :: k) [(1, .str room), (2, .str user), (3, .str to), (10, .ptr i 0), (16, .ptr j 0), (18, .str by_), (20, .vsl (p.map .str) none), (22, .vsl (a'.map .str) none), (24, .int .i64 d), (26, .fn 134 [e.enc] []), (124, .bool a)] σ Q ↔ Ex ipU gU (.ops (tkT 50) :: .code (.keep [1, 2, 3, 10, 18, 20, 22, 24, 135] c) :: k) [(1, .str room), (2, .str user), (3, .str to), (10, .ptr i 0), (16, .ptr j 0), (18, .str by_), (20, .vsl (p.map .str) none), (22, .vsl (a'.map .str) none), (24, .int .i64 d), (130, .bool (a || !isV e kStateKey user))] σ Q := by
  have q := r_isC e kStateKey user he
  have hd : tkT 50 = (tkT 44).drop 6 := rfl
  rw [ex_cut 6, hd]
  have hl : (liveIn [1, 2, 3, 10, 18, 20, 22, 24, 135] ((tkT 44).drop 6)).all (([1, 2, 3, 10, 16, 18, 20, 22, 24, 130] : List Nat).contains ·) = true := by kernel_rfl
  generalize (tkT 44).drop 6 = tl at hl ⊢
  cases a
  · simp only [tkT, opsOf, W7Fa, EXA, Nat.reduceEqDiff, reduceIte, reduceCtorEq, Nat.reduceAdd, Nat.reduceLeDiff, Nat.reduceSub, Nat.reduceMul, Int.reduceEq, Int.reduceBEq, Int.reduceBNe, Int.reduceLT, Int.reduceLE, Nat.reduceLT, VX, readAt_some, q, Bool.false_or]
    rw [ex_prune [1, 2, 3, 10, 16, 18, 20, 22, 24, 130] hl]
    simp only [EXA, Nat.reduceEqDiff, reduceIte, reduceCtorEq, Nat.reduceAdd, Nat.reduceLeDiff, Nat.reduceSub, Nat.reduceMul, Int.reduceEq, Int.reduceBEq, Int.reduceBNe, Int.reduceLT, Int.reduceLE, Nat.reduceLT, Bool.false_or]
  · simp only [tkT, opsOf, W7Fa, EXA, Nat.reduceEqDiff, reduceIte, reduceCtorEq, Nat.reduceAdd, Nat.reduceLeDiff, Nat.reduceSub, Nat.reduceMul, Int.reduceEq, Int.reduceBEq, Int.reduceBNe, Int.reduceLT, Int.reduceLE, Nat.reduceLT, VX, readAt_some, Bool.true_or]
    rw [ex_prune [1, 2, 3, 10, 16, 18, 20, 22, 24, 130] hl]
    simp only [EXA, Nat.reduceEqDiff, reduceIte, reduceCtorEq, Nat.reduceAdd, Nat.reduceLeDiff, Nat.reduceSub, Nat.reduceMul, Int.reduceEq, Int.reduceBEq, Int.reduceBNe, Int.reduceLT, Int.reduceLE, Nat.reduceLT, Bool.true_or]
theorem tk12  (hc : c'.sz < big) (h16 : look σ.m j = some (.own [.int .i64 c'.kind, .int .i64 c'.n, .str c'.s, .vsl (c'.l.map V.enc) none, .vsl (c'.m.map memE) none])) (a : Bool) : Ex ipU gU (.ops (tkT 50) :: .code (.keep [1, 2, 3, 10, 18, 20, 22, 24, 135] c) :: k) [(1, .str room), (2, .str user), (3, .str to), (10, .ptr i 0), (16, .ptr j 0), (18, .str by_), (20, .vsl (p.map .str) none), (22, .vsl (a'.map .str) none), (24, .int .i64 d), (130, .bool a)] σ Q ↔ Ex ipU gU (.ops (tkT 55) :: .code (.keep [1, 2, 3, 10, 18, 20, 22, 24, 135] c) :: k) [(1, .str room), (2, .str user), (3, .str to), (10, .ptr i 0), (18, .str by_), (20, .vsl (p.map .str) none), (22, .vsl (a'.map .str) none), (24, .int .i64 d), (135, .bool (a || !isV c' kMembership to))] σ Q := by
  have q := r_is c' kMembership to hc
  have hd : tkT 55 = (tkT 50).drop 5 := rfl
  rw [ex_cut 5, hd]
  have hl : (liveIn [1, 2, 3, 10, 18, 20, 22, 24, 135] ((tkT 50).drop 5)).all (([1, 2, 3, 10, 18, 20, 22, 24, 135] : List Nat).contains ·) = true := by kernel_rfl
  generalize (tkT 50).drop 5 = tl at hl ⊢
  cases a
  · simp only [tkT, opsOf, W7Fa, EXA, Nat.reduceEqDiff, reduceIte, reduceCtorEq, Nat.reduceAdd, Nat.reduceLeDiff, Nat.reduceSub, Nat.reduceMul, Int.reduceEq, Int.reduceBEq, Int.reduceBNe, Int.reduceLT, Int.reduceLE, Nat.reduceLT, VX, readAt_some, q, h16, Bool.false_or]
    rw [ex_prune [1, 2, 3, 10, 18, 20, 22, 24, 135] hl]
    simp only [EXA, Nat.reduceEqDiff, reduceIte, reduceCtorEq, Nat.reduceAdd, Nat.reduceLeDiff, Nat.reduceSub, Nat.reduceMul, Int.reduceEq, Int.reduceBEq, Int.reduceBNe, Int.reduceLT, Int.reduceLE, Nat.reduceLT, Bool.false_or]
  · simp only [tkT, opsOf, W7Fa, EXA, Nat.reduceEqDiff, reduceIte, reduceCtorEq, Nat.reduceAdd, Nat.reduceLeDiff, Nat.reduceSub, Nat.reduceMul, Int.reduceEq, Int.reduceBEq, Int.reduceBNe, Int.reduceLT, Int.reduceLE, Nat.reduceLT, VX, readAt_some, Bool.true_or]
    rw [ex_prune [1, 2, 3, 10, 18, 20, 22, 24, 135] hl]
    simp only [EXA, Nat.reduceEqDiff, reduceIte, reduceCtorEq, Nat.reduceAdd, Nat.reduceLeDiff, Nat.reduceSub, Nat.reduceMul, Int.reduceEq, Int.reduceBEq, Int.reduceBNe, Int.reduceLT, Int.reduceLE, Nat.reduceLT, Bool.true_or]
end
/-- The last part: whether all fits. -/
theorem tk_cond {room user to by_ : Bs} {p a : List Bs} {d : Int} {e c : V} {b15 b17 b19 b21 b23 b25 : Bool} {σ : Store} {i j : Nat} {r : AV} (he : e.sz < big) (hc : c.sz < big)
    (h10 : look σ.m i = some (.own z20)) (h16 : look σ.m j = some (.own [.int .i64 c.kind, .int .i64 c.n, .str c.s, .vsl (c.l.map V.enc) none, .vsl (c.m.map memE) none]))
    (hr : r = if (((((((((((!b15 || !b17) || !b19) || !b21) || !b23) || !b25) || decide (d < 0)) || !isV e kT kMember) || !isV e kRoom room) || !isV e kSender user) || !isV e kStateKey user) || !isV c kMembership to) = true then .tup [evE Ev.zero, .int .i64 19] else .tup [evE (evT room user d p a (contentP to by_)), .int .i64 0]) :
    Ex ipU gU [.code F121_32] [(1, .str room), (2, .str user), (3, .str to), (10, .ptr i 0), (15, .bool b15), (16, .ptr j 0), (17, .bool b17), (18, .str by_), (19, .bool b19), (20, .vsl (p.map .str) none), (21, .bool b21), (22, .vsl (a.map .str) none), (23, .bool b23), (24, .int .i64 d), (25, .bool b25), (26, .fn 134 [e.enc] [])] σ
      fun fr' σ1 => (resAll fr' σ1 F121.res).bind (rbE σ1) = some r := by
  have h126 := r_content to by_
  have e0 : ∀ K Q fr, Ex ipU gU (.code F121_32 :: K) fr σ Q ↔ Ex ipU gU (.ops (opsOf F121_23) :: .code (.keep [1, 2, 3, 10, 18, 20, 22, 24, 135] F121_26) :: .code F121_31 :: K) fr σ Q := fun K Q fr => by
    simp only [F121_32, F121_28, ex_seq]
    generalize h : F121_23 = x
    rw [← h]
    show Ex ipU gU (.code (.region (opsOf F121_23)) :: _) fr σ Q ↔ _
    rw [ex_region]
  rw [e0, tk1, tk2, tk3, tk4, tk5, tk6, tk7, tk8 he, tk9 he, tk10 he, tk11 he, tk12 hc h16]
  generalize (((((((((((!b15 || !b17) || !b19) || !b21) || !b23) || !b25) || decide (d < 0)) || !isV e kT kMember) || !isV e kRoom room) || !isV e kSender user) || !isV e kStateKey user) || !isV c kMembership to) = w at hr ⊢
  cases w with
  | true =>
    simp only [if_true] at hr
    simp only [tkT, opsOf, W7Fa, EXA, Nat.reduceEqDiff, reduceIte, reduceCtorEq, Nat.reduceAdd, Nat.reduceLeDiff, Nat.reduceSub, Nat.reduceMul, Int.reduceEq, Int.reduceBEq, Int.reduceBNe, Int.reduceLT, Int.reduceLE, Nat.reduceLT, VX, readAt_some, h10, hr, evE_zero]
  | false =>
    simp only [Bool.false_eq_true, if_false] at hr
    simp only [tkT, opsOf, W7Fa, EXA, Nat.reduceEqDiff, reduceIte, reduceCtorEq, Nat.reduceAdd, Nat.reduceLeDiff, Nat.reduceSub, Nat.reduceMul, Int.reduceEq, Int.reduceBEq, Int.reduceBNe, Int.reduceLT, Int.reduceLE, Nat.reduceLT, VX, readAt_some, h10, h126, hr, evE_zero]
    rfl
end Go.Ab
/- tmpl.Take, as a whole. -/
namespace Go.Ab
set_option maxHeartbeats 1000000
def W8Fa := J @F121_23.eq_1 (J @F121_26.eq_1 (J @F121_28.eq_1 (J @F121_31.eq_1 (@F121.eq_1))))
set_option maxRecDepth 100000
def takeP (v : V) (room user to server : Bs) : Ev × Int :=
  if (!v.good || (v.kind != 5)) = true then (Ev.zero, 1) else if isV v kVersion sTen = false then (Ev.zero, 15) else
  let e := tabV v kEvent; let c := tabV e.1 kContent; let b := byP c.1 to server; let p := eventsV e.1 kPrev 20; let a := eventsV e.1 kAuth 10; let d := intV (getV e.1 kDepth)
  if (((((((((((!e.2 || !c.2) || !b.2) || !p.2) || !a.2) || !d.2) || decide (d.1 < 0)) || !isV e.1 kT kMember) || !isV e.1 kRoom room) || !isV e.1 kSender user) || !isV e.1 kStateKey user) || !isV c.1 kMembership to) = true then (Ev.zero, 19)
  else (evT room user d.1 p.1 a.1 (contentP to b.1), 0)
theorem tabV_sz (v : V) (k : Bs) : (tabV v k).1.sz ≤ v.sz := getV_sz v k
theorem r_Take (v : V) (room user to server : Bs) (hb : v.sz < lim) : cR 121 [v.enc, .str room, .str user, .str to, .str server] = some (.tup [evE (takeP v room user to server).1, .int .i64 (takeP v room user to server).2]) := by
  unfold lim at hb
  have hbb : v.sz < big := by unfold big; omega
  have h25 := r_good v hbb
  have his := r_isC v kVersion sTen hbb
  have hte := r_tabAt v kEvent hbb
  have z1 := tabV_sz v kEvent
  have z2 := tabV_sz (tabV v kEvent).1 kContent
  have htc := r_tabAt (tabV v kEvent).1 kContent (by unfold big; omega)
  have hby := r_by (tabV (tabV v kEvent).1 kContent).1 to server (by unfold big; omega)
  have hep := r_events (tabV v kEvent).1 kPrev 20 (by unfold lim; omega)
  have hea := r_events (tabV v kEvent).1 kAuth 10 (by unfold lim; omega)
  have hid := r_intAt (tabV v kEvent).1 kDepth (by unfold big; omega)
  obtain ⟨r, hr⟩ : ∃ r, r = AV.tup [evE (takeP v room user to server).1, .int .i64 (takeP v room user to server).2] := ⟨_, rfl⟩
  rw [← hr]
  unfold takeP at hr
  refine cR_of (F := F121) rfl ?_
  cases hg : v.good with
  | false =>
    rw [hg] at h25 hr
    simp only [Bool.not_false, Bool.true_or, if_true] at hr
    simp only [W8Fa, EXA, Nat.reduceEqDiff, reduceIte, reduceCtorEq, Nat.reduceAdd, Nat.reduceLeDiff, Nat.reduceSub, Nat.reduceMul, Int.reduceEq, Int.reduceBEq, Int.reduceBNe, Int.reduceLT, Int.reduceLE, Nat.reduceLT, VX, readAt_some, h25, hr, evE_zero]
  | true =>
    rw [hg] at h25 hr
    cases h5 : v.kind != 5 with
    | true =>
      rw [h5] at hr
      simp only [Bool.or_true, if_true] at hr
      simp only [W8Fa, EXA, Nat.reduceEqDiff, reduceIte, reduceCtorEq, Nat.reduceAdd, Nat.reduceLeDiff, Nat.reduceSub, Nat.reduceMul, Int.reduceEq, Int.reduceBEq, Int.reduceBNe, Int.reduceLT, Int.reduceLE, Nat.reduceLT, VX, readAt_some, h25, h5, hr, evE_zero]
    | false =>
      rw [h5] at hr
      simp only [Bool.not_true, Bool.or_self, Bool.false_eq_true, if_false] at hr
      cases hi : isV v kVersion sTen with
      | false =>
        rw [hi] at his hr
        simp only [if_true] at hr
        simp only [W8Fa, EXA, Nat.reduceEqDiff, reduceIte, reduceCtorEq, Nat.reduceAdd, Nat.reduceLeDiff, Nat.reduceSub, Nat.reduceMul, Int.reduceEq, Int.reduceBEq, Int.reduceBNe, Int.reduceLT, Int.reduceLE, Nat.reduceLT, VX, readAt_some, h25, h5, his, hr, evE_zero]
      | true =>
        rw [hi] at his hr
        simp only [Bool.true_eq_false, if_false] at hr
        generalize tabV v kEvent = e at *
        generalize tabV e.1 kContent = c at *
        generalize byP c.1 to server = b at *
        generalize eventsV e.1 kPrev 20 = p at *
        generalize eventsV e.1 kAuth 10 = a at *
        generalize intV (getV e.1 kDepth) = d at *
        simp only [W8Fa, EXA, Nat.reduceEqDiff, reduceIte, reduceCtorEq, Nat.reduceAdd, Nat.reduceLeDiff, Nat.reduceSub, Nat.reduceMul, Int.reduceEq, Int.reduceBEq, Int.reduceBNe, Int.reduceLT, Int.reduceLE, Nat.reduceLT, VX, readAt_some, h25, h5, his, hte, htc, hby, hep, hea, hid]
        refine tk_cond (e := e.1) (c := c.1) (by unfold big; omega) (by unfold big; omega) rfl rfl ?_
        rw [hr]
        split <;> rfl
end Go.Ab
/- The document's Take: its chains of conditions. -/
namespace Go.Ab
set_option maxHeartbeats 1000000
set_option maxRecDepth 100000
section
variable {room user to server m1 s34 : Bs} {p a' : List Bs} {d : Int} {e c' x : V} {b15 b17 b24 b26 b28 b30 b35 : Bool} {σ : Store} {i j h g : Nat} {c : ICode} {k : List Item} {Q : Fr → Store → Prop}
end
end Go.Ab
/- The document's Take. -/
namespace Go.Ab
set_option maxHeartbeats 1000000
set_option maxRecDepth 100000
def okT (room user : Bs) (d : Int) (p a : List Bs) (c : V) : AV := .tup [evE (evT room user d p a (keepV c [kMembership, kAuthd] true)), .int .i64 0]
def erT : AV := .tup [evE Ev.zero, .int .i64 19]
def byBad (c : V) (to server : Bs) : Bool := (getR c kAuthd).2 && ((((!(to == kJoin4)) || ((getR c kAuthd).1.kind != 3)) || !(partsB (getR c kAuthd).1.s 64).2.2) || !((partsB (getR c kAuthd).1.s 64).2.1 == server))
theorem ex_chain {P Q' : ICode} {reg : ICode} {os : List IOper} {L : List Nat} {K : List Item} {fr : Fr} {σ : Store} {Q : Fr → Store → Prop} (h1 : P = .seq reg (.keep L Q')) (h2 : reg = .region os) :
    Ex ipU gU (.code P :: K) fr σ Q ↔ Ex ipU gU (.ops (opsOf reg) :: .code (.keep L Q') :: K) fr σ Q := by
  subst h1 h2
  rw [ex_seq, ex_region]; rfl
def fitBad (m : Bs × Bool) (to : Bs) (p a : List Bs × Bool) (d : Int × Bool) : Bool := (((((((!m.2) || !(m.1 == to)) || !p.2) || !a.2) || !d.2) || decide (d.1 < 0)) || decide ((p.1.length : Int) < 1)) || decide ((a.1.length : Int) < 1)
end Go.Ab
/- The document's Take: its table, and as a whole. -/
namespace Go.Ab
set_option maxHeartbeats 1000000
set_option maxRecDepth 100000
def isR (v : V) (k x : Bs) : Bool := (textR v k).2 && (textR v k).1 == x
abbrev tkK : List Bs := [kT, kRoom, kSender, kStateKey]
abbrev tkX (room user : Bs) : List Bs := [kMember, room, user, user]
def tabOk (e : V) (ks xs : List Bs) : Bool := (ks.zip xs).all fun p => isR e p.1 p.2
def restT (e c : V) (room user to server : Bs) : AV :=
  if fitBad (textR c kMembership) to (idsV (getR e kPrev) 20) (idsV (getR e kAuth) 10) (intV (getR e kDepth)) = true then erT else if byBad c to server = true then erT else okT room user (intV (getR e kDepth)).1 (idsV (getR e kPrev) 20).1 (idsV (getR e kAuth) 10).1 c
def takeR (v : V) (room user to server : Bs) : AV :=
  if ((v.kind != 5) || !v.good) = true then .tup [evE Ev.zero, .int .i64 1] else if isR v kVersion sTen = false then .tup [evE Ev.zero, .int .i64 15] else
  if ((((!(getR v kEvent).2) || !(getR (getR v kEvent).1 kContent).2) || ((getR v kEvent).1.kind != 5)) || ((getR (getR v kEvent).1 kContent).1.kind != 5)) = true then erT
  else if tabOk (getR v kEvent).1 tkK (tkX room user) = true then restT (getR v kEvent).1 (getR (getR v kEvent).1 kContent).1 room user to server else erT
end Go.Ab
/- What the program's Take and the document's tell is one. -/
namespace Go.Ab
set_option maxHeartbeats 1000000
set_option maxRecDepth 100000
theorem lookM_absent {k : Bs} : ∀ {m : List Mem}, (∀ e ∈ m, e.1 ≠ k) → lookM m k = none
  | [], _ => rfl
  | x :: r, h => by
    rw [lookM, if_neg (h x (by simp))]
    exact lookM_absent fun e he => h e (by simp [he])
theorem bl_ne {a b : Bs} (h : bytesLess a b = true) : b ≠ a := fun e => by subst e; rw [bl_irrefl] at h; cases h
theorem rises_absent {x : Mem} {r : List Mem} (h : Rises (x :: r)) {k : Bs} (hk : k = x.1 ∨ bytesLess k x.1 = true) : lookM r k = none := by
  refine lookM_absent fun e he => ?_
  have h1 : bytesLess x.1 e.1 = true := (List.pairwise_cons.1 h).1 e he
  rcases hk with rfl | hk
  · exact bl_ne h1
  · exact bl_ne (bl_trans hk h1)
def optM (k : Bs) : Option V → List Mem
  | some x => [(k, x)]
  | none => []
theorem filter_two : ∀ {m : List Mem}, Rises m → m.filter (fun x => hasS [kMembership, kAuthd] x.1 == true) = optM kAuthd (lookM m kAuthd) ++ optM kMembership (lookM m kMembership)
  | [], _ => rfl
  | (k, v) :: r, h => by
    have ih := filter_two (List.pairwise_cons.1 h).2
    have hAM : bytesLess kAuthd kMembership = true := by decide
    by_cases hA : k = kAuthd
    · subst hA
      have n1 := rises_absent h (k := kAuthd) (.inl rfl)
      rw [n1] at ih
      rw [List.filter_cons_of_pos (by simp [hasS]), ih, lookM, if_pos rfl, lookM, if_neg (show ¬ kAuthd = kMembership by decide)]
      rfl
    · by_cases hM : k = kMembership
      · subst hM
        have n1 := rises_absent h (k := kMembership) (.inl rfl)
        have n2 := rises_absent h (k := kAuthd) (.inr hAM)
        rw [n1, n2] at ih
        rw [List.filter_cons_of_pos (by simp [hasS]), ih, lookM, if_neg hA, lookM, if_pos rfl, n2]
        rfl
      · have : ¬ ((fun x : Mem => hasS [kMembership, kAuthd] x.1 == true) (k, v)) = true := by
          simp only [hasS, beq_iff_eq]
          simp [hA, hM]
        rw [List.filter_cons_of_neg (p := fun x : Mem => hasS [kMembership, kAuthd] x.1 == true) (a := (k, v)) (l := r) this, ih, lookM, if_neg hA, lookM, if_neg hM]
theorem text_fine {v : V} (hf : v.fine = true) (h3 : v.kind = 3) : v = tV3 v.s := by
  rw [V.fine_eq, h3] at hf
  simp [V.bare, V.n, V.l, V.m, V.s] at hf
  obtain ⟨k, n, s, l, m⟩ := v
  simp only [V.kind, V.n, V.s, V.l, V.m] at *
  unfold tV3
  simp_all
theorem keep_content {c : V} (hf : c.fine = true) (h5 : c.kind = 5) {x : V} {by_ : Bs} (hm : lookM c.m kMembership = some x) (hx : x.kind = 3)
    (ha : (lookM c.m kAuthd = none ∧ by_ = []) ∨ ∃ y, lookM c.m kAuthd = some y ∧ y.kind = 3 ∧ y.s = by_ ∧ by_ ≠ []) : keepV c [kMembership, kAuthd] true = contentP x.s by_ := by
  have hr := fine_rises h5 hf
  have fm : ∀ {k : Bs} {y : V}, lookM c.m k = some y → y.fine = true := fun {k y} h => by
    obtain ⟨e, he, rfl⟩ := lookM_mem h
    exact (fineM_mem (fine_m h5 hf) e he).1
  unfold keepV
  rw [if_pos h5, filter_two hr, hm, content_eq]
  have ex := text_fine (fm hm) hx
  congr 1
  rcases ha with ⟨h1, rfl⟩ | ⟨y, h1, h2, rfl, h3⟩
  · rw [h1]
    unfold contentL
    rw [if_pos rfl, ← ex]; rfl
  · rw [h1]
    unfold contentL
    rw [if_neg h3, ← ex, ← text_fine (fm h1) h2]
    rfl
end Go.Ab
/- The two Takes are one. -/
namespace Go.Ab
set_option maxHeartbeats 1000000
set_option maxRecDepth 100000
theorem idsF_len : ∀ {l : List V} {acc ids : List Bs}, idsF l acc = some ids → ids.length = acc.length + l.length
  | [], acc, ids, h => by simp only [idsF, Option.some.injEq] at h; subst h; simp
  | x :: l, acc, ids, h => by
    rw [idsF] at h
    split at h
    · rw [idsF_len h]; simp; omega
    · cases h
theorem getR_kind {v : V} {k : Bs} (h : (getR v k).2 = false) : (getR v k).1 = V.zero := by
  unfold getR at h ⊢
  by_cases h5 : v.kind = 5
  · rw [if_pos h5] at h ⊢
    cases hl : lookM v.m k with
    | none => rfl
    | some x => rw [hl] at h; cases h
  · rw [if_neg h5]
theorem dneg1 (n : Nat) : decide (1 ≤ n) = !decide ((n : Int) < 1) := by
  by_cases h : 1 ≤ n
  · rw [decide_eq_true h, decide_eq_false (by omega)]; rfl
  · rw [decide_eq_false h, decide_eq_true (by omega)]; rfl
theorem events_ids {v : V} (k : Bs) (max : Int) (hf : v.fine = true) : (eventsV v k max).2 = ((idsV (getR v k) max).2 && !decide (((idsV (getR v k) max).1.length : Int) < 1)) ∧ ((eventsV v k max).2 = true → (eventsV v k max).1 = (idsV (getR v k) max).1) := by
  unfold eventsV idsV
  rw [← getR_fine k hf]
  have hz := getR_kind (v := v) (k := k)
  generalize getR v k = g at *
  obtain ⟨g, b⟩ := g
  simp only at hz ⊢
  cases hi : idsF g.l [] with
  | none => simp
  | some ids =>
    have hl := idsF_len hi
    simp only [List.length_nil, Nat.zero_add] at hl
    simp only
    cases b with
    | false =>
      have := hz rfl
      subst this
      simp [V.zero, V.kind]
    | true =>
      by_cases h4 : g.kind = 4
      · by_cases hm : (g.l.length : Int) ≤ max
        · have hd := dneg1 ids.length
          have hm' : decide ((ids.length : Int) ≤ max) = true := by rw [hl]; simpa using hm
          rw [if_pos ⟨rfl, h4, hm⟩]
          simp only [h4, hm', hd, beq_self_eq_true, Bool.true_and, Bool.and_true]
          exact ⟨trivial, fun _ => trivial⟩
        · simp [h4, hm, hl]
      · simp [h4]
theorem by_bad {c : V} (to server : Bs) (hf : c.fine = true) : (byP c to server).2 = !byBad c to server ∧ ((byP c to server).2 = true → ((getR c kAuthd).2 = false ∧ (byP c to server).1 = []) ∨ ((getR c kAuthd).2 = true ∧ (getR c kAuthd).1.kind = 3 ∧ (getR c kAuthd).1.s = (byP c to server).1 ∧ (byP c to server).1 ≠ [])) := by
  unfold byP byBad textAt
  rw [← getR_fine kAuthd hf]
  generalize getR c kAuthd = g
  obtain ⟨g, b⟩ := g
  cases b with
  | false => simp
  | true =>
    have p0 : (partsB [] 64).2.2 = false := rfl
    by_cases h3 : g.kind = 3
    · simp only [h3, Bool.true_and, beq_self_eq_true, if_true]
      refine ⟨?_, fun h => .inr ⟨trivial, trivial, trivial, fun hs => ?_⟩⟩
      · cases to == kJoin4 <;> cases (partsB g.s 64).2.2 <;> cases (partsB g.s 64).2.1 == server <;> simp
      · rw [hs] at h
        simp [p0] at h
    · have : (g.kind == 3) = false := by simp [h3]
      have h3' : (g.kind != 3) = true := by simp [h3]
      simp [this, h3', p0]
theorem tabOk_eq (e : V) (room user : Bs) : tabOk e tkK (tkX room user) = (isR e kT kMember && (isR e kRoom room && (isR e kSender user && isR e kStateKey user))) := by
  show (isR e kT kMember && (isR e kRoom room && (isR e kSender user && (isR e kStateKey user && true)))) = _
  rw [Bool.and_true]
theorem isV_R {v : V} (k x : Bs) (hf : v.fine = true) : isV v k x = isR v k x := by unfold isV isR; rw [textR_fine k hf]
theorem chain_bool (e2 ke c2 kc b p pl a al d dn t1 t2 t3 t4 m1 m2 : Bool) :
    (((((((((((!(e2 && ke) || !(c2 && kc)) || !(!b)) || !(p && !pl)) || !(a && !al)) || !d) || dn) || !t1) || !t2) || !t3) || !t4) || !(m2 && m1)) =
    (((((!e2) || !c2) || !ke) || !kc) || (!(t1 && (t2 && (t3 && t4))) || ((((((((!m2) || !m1) || !p) || !a) || !d) || dn) || pl) || al || b))) := by
  cases e2 <;> cases c2 <;> cases ke <;> cases kc <;> (try rfl) <;> cases b <;> cases p <;> cases a <;> cases pl <;> cases al <;> (try rfl) <;> (revert d dn t1 t2 t3 t4 m1 m2; decide)
theorem take_eq (v : V) (room user to server : Bs) : (AV.tup [evE (takeP v room user to server).1, .int .i64 (takeP v room user to server).2]) = takeR v room user to server := by
  unfold takeP takeR
  rw [Bool.or_comm]
  by_cases h1 : ((v.kind != 5) || !v.good) = true
  · rw [if_pos h1, if_pos h1]
  rw [if_neg h1, if_neg h1]
  have hg : v.good = true := by
    cases h : v.good with
    | true => rfl
    | false => rw [h] at h1; simp at h1
  have hf : v.fine = true := by unfold V.good at hg; simp at hg; exact hg.1
  rw [isV_R _ _ hf]
  by_cases h2 : isR v kVersion sTen = false
  · rw [if_pos h2, if_pos h2]
  rw [if_neg h2, if_neg h2]
  have f1 := getR_fineV kEvent hf
  have f2 := getR_fineV kContent f1
  have e1 : tabV v kEvent = ((getR v kEvent).1, (getR v kEvent).2 && (getR v kEvent).1.kind == 5) := by unfold tabV; rw [getR_fine kEvent hf]
  rw [e1]
  simp only
  generalize getR v kEvent = e at *
  have e2 : tabV e.1 kContent = ((getR e.1 kContent).1, (getR e.1 kContent).2 && (getR e.1 kContent).1.kind == 5) := by unfold tabV; rw [getR_fine kContent f1]
  rw [e2]
  simp only
  generalize getR e.1 kContent = c at *
  obtain ⟨b1, b2⟩ := by_bad (c := c.1) to server f2
  obtain ⟨p1, p2⟩ := events_ids kPrev 20 f1
  obtain ⟨a1, a2⟩ := events_ids kAuth 10 f1
  rw [isV_R _ _ f1, isV_R _ _ f1, isV_R _ _ f1, isV_R _ _ f1, isV_R _ _ f2, ← getR_fine kDepth f1, tabOk_eq]
  have hW := chain_bool e.2 (e.1.kind == 5) c.2 (c.1.kind == 5) (byBad c.1 to server) (idsV (getR e.1 kPrev) 20).2 (decide (((idsV (getR e.1 kPrev) 20).1.length : Int) < 1)) (idsV (getR e.1 kAuth) 10).2 (decide (((idsV (getR e.1 kAuth) 10).1.length : Int) < 1)) (intV (getR e.1 kDepth)).2 (decide ((intV (getR e.1 kDepth)).1 < 0))
    (isR e.1 kT kMember) (isR e.1 kRoom room) (isR e.1 kSender user) (isR e.1 kStateKey user) ((textR c.1 kMembership).1 == to) (textR c.1 kMembership).2
  have hm : isR c.1 kMembership to = ((textR c.1 kMembership).2 && (textR c.1 kMembership).1 == to) := rfl
  have n1 : (e.1.kind != 5) = !(e.1.kind == 5) := rfl
  have n2 : (c.1.kind != 5) = !(c.1.kind == 5) := rfl
  have hF : fitBad (textR c.1 kMembership) to (idsV (getR e.1 kPrev) 20) (idsV (getR e.1 kAuth) 10) (intV (getR e.1 kDepth)) = ((((((((!(textR c.1 kMembership).2) || !((textR c.1 kMembership).1 == to)) || !(idsV (getR e.1 kPrev) 20).2) || !(idsV (getR e.1 kAuth) 10).2) || !(intV (getR e.1 kDepth)).2) || decide ((intV (getR e.1 kDepth)).1 < 0)) || decide (((idsV (getR e.1 kPrev) 20).1.length : Int) < 1)) || decide (((idsV (getR e.1 kAuth) 10).1.length : Int) < 1)) := rfl
  unfold restT
  rw [n1, n2, p1, a1, b1, hm, hW, ← hF]
  have okw : ∀ {P : Bool} {x y : Ev × Int}, P = true → (if P = true then x else y) = x := fun h => if_pos h
  cases hA : (((!e.2) || !c.2) || !(e.1.kind == 5)) || !(c.1.kind == 5) with
  | true => rw [Bool.true_or]; rfl
  | false =>
    cases hT : (isR e.1 kT kMember && (isR e.1 kRoom room && (isR e.1 kSender user && isR e.1 kStateKey user))) with
    | false => rfl
    | true =>
      cases hFF : fitBad (textR c.1 kMembership) to (idsV (getR e.1 kPrev) 20) (idsV (getR e.1 kAuth) 10) (intV (getR e.1 kDepth)) with
      | true => rfl
      | false =>
        cases hB : byBad c.1 to server with
        | true => rfl
        | false =>
          rw [hF] at hFF
          simp only [Bool.or_eq_false_iff, Bool.not_eq_false'] at hFF hA
          obtain ⟨⟨⟨⟨⟨⟨⟨g1, g2⟩, g3⟩, g4⟩, g5⟩, g6⟩, g7⟩, g8⟩ := hFF
          have k5 : c.1.kind = 5 := by simpa using hA.2
          have hp := p2 (by rw [p1, g3, g7]; rfl)
          have ha := a2 (by rw [a1, g4, g8]; rfl)
          have hb := b2 (by rw [b1, hB]; rfl)
          have hto : (textR c.1 kMembership).1 = to := by simpa using g2
          have look : ∀ {k : Bs}, (getR c.1 k).2 = true → lookM c.1.m k = some (getR c.1 k).1 := fun {k} h => by
            unfold getR at h ⊢
            rw [if_pos k5] at h ⊢
            cases hl : lookM c.1.m k with
            | none => rw [hl] at h; cases h
            | some x => rfl
          have look0 : ∀ {k : Bs}, (getR c.1 k).2 = false → lookM c.1.m k = none := fun {k} h => by
            unfold getR at h
            rw [if_pos k5] at h
            cases hl : lookM c.1.m k with
            | none => rfl
            | some x => rw [hl] at h; cases h
          have hm2 : ((getR c.1 kMembership).2 = true ∧ (getR c.1 kMembership).1.kind = 3) ∧ (getR c.1 kMembership).1.s = to := by
            unfold textR at g1 hto
            split at g1
            · rename_i h
              rw [if_pos h] at hto
              simp only [Bool.and_eq_true, beq_iff_eq] at h
              exact ⟨h, hto⟩
            · cases g1
          have hkc := keep_content f2 k5 (look hm2.1.1) hm2.1.2 (by_ := (byP c.1 to server).1) (by
            rcases hb with ⟨h, h'⟩ | ⟨h, h3, hs, hn⟩
            · exact .inl ⟨look0 h, h'⟩
            · exact .inr ⟨_, look h, h3, hs, hn⟩)
          rw [hm2.2] at hkc
          simp only [Bool.false_or, Bool.not_true, Bool.false_eq_true, if_false, if_true]
          unfold okT
          rw [hkc, hp, ha]
end Go.Ab
/- What the document tells of a draft: it is so. -/
namespace Go.Ab
set_option maxHeartbeats 1000000
set_option maxRecDepth 100000
theorem r_awake27 : cR 115 [] = some (.bool true) := cR_closed 100000 (by kernel_rfl)
end Go.Ab
/- TmplDrafts: true of any state and any names. -/
namespace Go.Ab
set_option maxHeartbeats 1000000
set_option maxRecDepth 100000
structure Nms where
  room : Bs
  sender : Bs
  key : Bs
  to : Bs
  by_ : Bs
def nmsE (n : Nms) : AV := .agg [.str n.room, .str n.sender, .str n.key, .str n.to, .str n.by_]
theorem pickF_sz (l : List Ev) : ∀ ns : List Slt, (pickF l ns).length ≤ ns.length ∧ strsSz (pickF l ns) ≤ ns.length * evsSz l
  | [] => by simp [pickF, strsSz]
  | s :: ns => by
    have ih := pickF_sz l ns
    rw [pickF_cons]
    have e : (ns.length + 1) * evsSz l = ns.length * evsSz l + evsSz l := by rw [Nat.add_mul]; omega
    simp only [List.length_cons]
    cases hf : l.find? (isAt s) with
    | none => simp only; omega
    | some y =>
      have hm := evsSz_mem (List.mem_of_find?_eq_some hf)
      have : y.id.length ≤ y.sz := by unfold Ev.sz; omega
      simp only [List.length_cons, strsSz]
      omega
end Go.Ab
/- TmplTakes: true. -/
namespace Go.Ab
set_option maxHeartbeats 1000000
set_option maxRecDepth 100000
end Go.Ab
/- What a reply holds. -/
namespace Go.Ab
set_option maxHeartbeats 1000000
set_option maxRecDepth 100000
def evVal (d : Ev) : V := V.mk 5 0 [] [] [(kAuth, lV d.auth), (kContent, d.content), (kDepth, iV2 d.depth), (kPrev, lV d.prev), (kRoom, tV3 d.room), (kSender, tV3 d.sender), (kStateKey, tV3 d.key), (kT, tV3 d.type)]
theorem shape0 (a b c d e f g h i : V) : keepV (V.mk 5 0 [] [] (refMapL [(kT, a), (kRoom, b), (kSender, c), (kTs, d), (kDepth, e), (kPrev, f), (kAuth, g), (kContent, h), (kStateKey, i)])) [kTs] false =
    V.mk 5 0 [] [] [(kAuth, g), (kContent, h), (kDepth, e), (kPrev, f), (kRoom, b), (kSender, c), (kStateKey, i), (kT, a)] := by kernel_rfl
theorem shape1 (a b : V) : refMapL [(kVersion, a), (kEvent, b)] = [(kEvent, b), (kVersion, a)] := by kernel_rfl
theorem reply_shape (d : Ev) (h : d.isState = true) : replyR d = V.mk 5 0 [] [] [(kEvent, evVal d), (kVersion, tV3 sTen)] := by
  unfold replyR makeL
  rw [if_pos h]
  unfold make8
  simp only [List.cons_append, List.nil_append]
  rw [shape0, shape1]; rfl
section
variable (d : Ev)
theorem gv_auth : getR (evVal d) kAuth = (lV d.auth, true) := rfl
theorem gv_content : getR (evVal d) kContent = (d.content, true) := rfl
theorem gv_depth : getR (evVal d) kDepth = (iV2 d.depth, true) := rfl
theorem gv_prev : getR (evVal d) kPrev = (lV d.prev, true) := rfl
theorem gv_room : getR (evVal d) kRoom = (tV3 d.room, true) := rfl
theorem gv_sender : getR (evVal d) kSender = (tV3 d.sender, true) := rfl
theorem gv_key : getR (evVal d) kStateKey = (tV3 d.key, true) := rfl
theorem gv_type : getR (evVal d) kT = (tV3 d.type, true) := rfl
end
theorem textR_tV3 {v : V} {k s : Bs} (h : getR v k = (tV3 s, true)) : textR v k = (s, true) := by
  unfold textR; rw [h]; rfl
theorem fine_text {s : Bs} (h : vu s = true) : (tV3 s).fine = true := by
  rw [V.fine_eq]
  simp [tV3, V.kind, V.n, V.s, V.l, V.m, V.bare, h]
theorem fineL_texts : ∀ {l : List Bs}, (∀ x ∈ l, vu x = true) → fineL (l.map tV3) = true
  | [], _ => rfl
  | x :: l, h => by
    simp only [List.map_cons, fineL, fine_text (h x (by simp)), Bool.true_and]
    exact fineL_texts fun y hy => h y (by simp [hy])
theorem fine_list {l : List Bs} (h : ∀ x ∈ l, vu x = true) : (lV l).fine = true := by
  rw [V.fine_eq]
  simp [lV, V.kind, V.n, V.s, V.l, V.m, V.bare, fineL_texts h]
theorem fine_int {n : Int} (h : numOk n = true) : (iV2 n).fine = true := by
  rw [V.fine_eq]
  simp [iV2, V.kind, V.n, V.s, V.l, V.m, V.bare, h]
end Go.Ab
/- A reply of a draft is good, and is taken as the draft. -/
namespace Go.Ab
set_option maxHeartbeats 1000000
set_option maxRecDepth 100000
theorem vu_low_all : ∀ {s : Bs}, (∀ c ∈ s, c < 128) → vu s = true
  | [], _ => rfl
  | a :: r, h => by
    rw [vu_low (h a (by simp))]
    exact vu_low_all fun c hc => h c (by simp [hc])
theorem nbF_hit {c : Nat} : ∀ n j : Nat, j + n = 64 → nbF c n j < 64 → ∃ i, i < 64 ∧ sgn i = c
  | 0, j, _, h => by simp only [nbF] at h; omega
  | n + 1, j, hj, h => by
    rw [nbF] at h
    split at h
    · rename_i hc
      exact ⟨j, by omega, hc⟩
    · exact nbF_hit n (j + 1) (by omega) h
theorem okC_low {c : UInt8} (h : okC c = true) : c < 128 := by
  unfold okC at h
  have h' : nbF c.toNat 64 0 < 64 := of_decide_eq_true h
  obtain ⟨i, hi, hs⟩ := nbF_hit 64 0 rfl h'
  have : c.toNat < 128 := by
    rw [← hs]; unfold sgn
    split
    · omega
    · split
      · omega
      · split
        · omega
        · split <;> omega
  exact UInt8.lt_iff_toNat_lt.2 this
theorem evId_vu {s : Bs} (h : evId s = true) : vu s = true := by
  unfold evId at h
  simp only [Bool.and_eq_true] at h
  obtain ⟨h1, h2, _⟩ := h
  cases s with
  | nil => rfl
  | cons c r =>
    have hc : c = 36 := by simpa [pre36] using h1
    unfold okB at h2
    simp only [Bool.and_eq_true, List.drop_one, List.tail_cons] at h2
    refine vu_low_all fun x hx => ?_
    rcases List.mem_cons.1 hx with rfl | hx
    · rw [hc]; decide
    · exact okC_low (List.all_eq_true.1 h2.1 x hx)
theorem topD_nonneg : ∀ (l : List Ev) (a : Int), 0 ≤ a → 0 ≤ l.foldl (fun a e => if e.depth > a then e.depth else a) a
  | [], a, h => h
  | e :: l, a, h => by
    rw [List.foldl_cons]
    refine topD_nonneg l _ ?_
    split <;> omega
theorem deeper_ok (l : List Ev) : numOk (deeper l) = true ∧ 0 ≤ deeper l := by
  have h : 0 ≤ topD l := topD_nonneg l 0 (by decide)
  have : 1 ≤ deeper l ∧ deeper l ≤ 9007199254740991 := by
    unfold deeper
    split
    · omega
    · generalize topD l = t at *
      simp only [IntKind.wrap, IntKind.bits, IntKind.signed]
      simp; omega
  refine ⟨?_, by omega⟩
  unfold numOk
  rw [decide_eq_true (by omega), decide_eq_true this.2]; rfl
theorem idsF_all : ∀ {l : List Bs} {acc : List Bs}, (∀ x ∈ l, evId x = true) → (∀ x ∈ l, hasS acc x = false) → l.Nodup → idsF (l.map tV3) acc = some (acc ++ l)
  | [], acc, _, _, _ => by simp [idsF]
  | x :: l, acc, h1, h2, h3 => by
    obtain ⟨h4, h5⟩ := List.nodup_cons.1 h3
    rw [List.map_cons, idsF]
    have ho : okId (tV3 x) acc = true := by
      unfold okId
      show ((3 : Int) == 3 && (evId x && !hasS acc x)) = true
      rw [h1 x (by simp), h2 x (by simp)]; rfl
    rw [if_pos ho]
    show idsF (l.map tV3) (acc ++ [x]) = _
    rw [idsF_all (fun y hy => h1 y (by simp [hy])) (fun y hy => ?_) h5, List.append_assoc]; rfl
    have := h2 y (by simp [hy])
    unfold hasS at this ⊢
    rw [List.any_append, this]
    have hne : y ≠ x := fun e => h4 (e ▸ hy)
    simp [hne]
theorem contentP_shape (to by_ : Bs) : contentP to by_ = V.mk 5 0 [] [] (if by_ = [] then [(kMembership, tV3 to)] else [(kAuthd, tV3 by_), (kMembership, tV3 to)]) := by
  rw [content_eq]
  unfold contentL
  by_cases h : by_ = []
  · rw [if_pos h, if_pos h]; rfl
  · rw [if_neg h, if_neg h]; rfl
theorem content_fine {to by_ : Bs} (h1 : vu to = true) (h2 : vu by_ = true) : (contentP to by_).fine = true := by
  have k1 : vu kAuthd = true := by kernel_rfl
  have k2 : vu kMembership = true := by kernel_rfl
  have k3 : bytesLess kAuthd kMembership = true := by decide
  rw [contentP_shape, V.fine_eq]
  by_cases h : by_ = []
  · rw [if_pos h]
    simp [V.kind, V.n, V.s, V.l, V.m, V.bare, fineM, fine_text h1, k2]
  · rw [if_neg h]
    simp [V.kind, V.n, V.s, V.l, V.m, V.bare, fineM, fine_text h1, fine_text h2, k1, k2, k3]
theorem content_dep (to by_ : Bs) : (contentP to by_).dep ≤ 1 := by
  rw [contentP_shape]
  by_cases h : by_ = []
  · rw [if_pos h]; simp [V.dep, depM, tV3]
  · rw [if_neg h]; simp [V.dep, depM, tV3]
theorem list_dep : ∀ l : List Bs, depL (l.map tV3) = 0
  | [] => rfl
  | x :: l => by simp only [List.map_cons, depL, list_dep l]; rfl
theorem reply_good {d : Ev} (hs : d.isState = true) (h1 : ∀ x ∈ d.auth, evId x = true) (h2 : ∀ x ∈ d.prev, evId x = true) (h3 : numOk d.depth = true) (h4 : vu d.room = true) (h5 : vu d.sender = true) (h6 : vu d.key = true) (h7 : vu d.type = true)
    (h8 : d.content.fine = true) (h9 : d.content.dep ≤ 1) : (replyR d).good = true := by
  rw [reply_shape d hs]
  have a1 : (lV d.auth).fine = true := fine_list fun x hx => evId_vu (h1 x hx)
  have a2 : (lV d.prev).fine = true := fine_list fun x hx => evId_vu (h2 x hx)
  have kv : vu kAuth = true ∧ vu kContent = true ∧ vu kDepth = true ∧ vu kPrev = true ∧ vu kRoom = true ∧ vu kSender = true ∧ vu kStateKey = true ∧ vu kT = true ∧ vu kEvent = true ∧ vu kVersion = true ∧ vu sTen = true := by
    refine ⟨?_, ?_, ?_, ?_, ?_, ?_, ?_, ?_, ?_, ?_, ?_⟩ <;> kernel_rfl
  have ko : bytesLess kAuth kContent = true ∧ bytesLess kContent kDepth = true ∧ bytesLess kDepth kPrev = true ∧ bytesLess kPrev kRoom = true ∧ bytesLess kRoom kSender = true ∧ bytesLess kSender kStateKey = true ∧ bytesLess kStateKey kT = true ∧ bytesLess kEvent kVersion = true := by decide
  obtain ⟨v1, v2, v3, v4, v5, v6, v7, v8, v9, va, vb⟩ := kv
  obtain ⟨o1, o2, o3, o4, o5, o6, o7, o8⟩ := ko
  have fe : (evVal d).fine = true := by
    rw [V.fine_eq]
    unfold evVal
    simp only [V.kind, V.n, V.s, V.l, V.m, V.bare, fineM, a1, a2, h8, fine_int h3, fine_text h4, fine_text h5, fine_text h6, fine_text h7, v1, v2, v3, v4, v5, v6, v7, v8, o1, o2, o3, o4, o5, o6, o7]
    rfl
  have de : (evVal d).dep ≤ 2 := by
    unfold evVal
    have e1 : (lV d.auth).dep = 1 := by simp [lV, V.dep, list_dep]
    have e2 : (lV d.prev).dep = 1 := by simp [lV, V.dep, list_dep]
    have e3 : ∀ s, (tV3 s).dep = 0 := fun s => by simp [tV3, V.dep]
    have e4 : ∀ s, (iV2 s).dep = 0 := fun s => by simp [iV2, V.dep]
    simp only [V.dep, depM, e1, e2, e3, e4]
    simp; omega
  unfold V.good
  have f0 : (V.mk 5 0 [] [] [(kEvent, evVal d), (kVersion, tV3 sTen)]).fine = true := by
    rw [V.fine_eq]
    simp only [V.kind, V.n, V.s, V.l, V.m, V.bare, fineM, fe, fine_text vb, v9, va, o8]
    rfl
  have d0 : (V.mk 5 0 [] [] [(kEvent, evVal d), (kVersion, tV3 sTen)]).dep ≤ 50 := by
    have e3 : ∀ s, (tV3 s).dep = 0 := fun s => by simp [tV3, V.dep]
    simp only [V.dep, depM, e3]
    simp; omega
  rw [f0, decide_eq_true d0]; rfl
end Go.Ab
/- What is taken of a reply. -/
namespace Go.Ab
set_option maxHeartbeats 1000000
set_option maxRecDepth 100000
theorem cont_mem (to by_ : Bs) : getR (contentP to by_) kMembership = (tV3 to, true) := by
  rw [contentP_shape]
  by_cases h : by_ = []
  · rw [if_pos h]; rfl
  · rw [if_neg h]; rfl
theorem cont_by (to by_ : Bs) : getR (contentP to by_) kAuthd = if by_ = [] then (V.zero, false) else (tV3 by_, true) := by
  rw [contentP_shape]
  by_cases h : by_ = []
  · rw [if_pos h, if_pos h]; rfl
  · rw [if_neg h, if_neg h]; rfl
theorem cont_keep (to by_ : Bs) : keepV (contentP to by_) [kMembership, kAuthd] true = contentP to by_ := by
  rw [contentP_shape]
  by_cases h : by_ = []
  · rw [if_pos h]; rfl
  · rw [if_neg h]; rfl
theorem ids_lV {l : List Bs} {max : Int} (h1 : ∀ x ∈ l, evId x = true) (h2 : l.Nodup) (h3 : (l.length : Int) ≤ max) : idsV (lV l, true) max = (l, true) := by
  unfold idsV
  have e : (lV l).l = l.map tV3 := rfl
  rw [if_pos ⟨rfl, rfl, by rw [e]; simpa using h3⟩]
  simp only [e]
  rw [idsF_all h1 (fun x _ => rfl) h2]; rfl
theorem take_reply {d : Ev} {to by_ server : Bs} (hs : d.isState = true) (hg : (replyR d).good = true) (ht : d.type = kMember) (hk : d.key = d.sender) (hc : d.content = contentP to by_)
    (p1 : ∀ x ∈ d.prev, evId x = true) (p2 : d.prev.Nodup) (p3 : d.prev.length ≤ 20) (p4 : 1 ≤ d.prev.length) (a1 : ∀ x ∈ d.auth, evId x = true) (a2 : d.auth.Nodup) (a3 : d.auth.length ≤ 10) (hd : 0 ≤ d.depth)
    (hb : by_ = [] ∨ (to = kJoin4 ∧ (partsB by_ 64).2.2 = true ∧ (partsB by_ 64).2.1 = server)) :
    takeR (replyR d) d.room d.sender to server = if d.auth = [] then erT else .tup [evE (evT d.room d.sender d.depth d.prev d.auth d.content), .int .i64 0] := by
  have sh := reply_shape d hs
  unfold takeR
  have k5 : ((replyR d).kind != 5) = false := by rw [sh]; rfl
  rw [k5, hg, if_neg (by simp)]
  have gv : getR (replyR d) kVersion = (tV3 sTen, true) := by rw [sh]; rfl
  have ge : getR (replyR d) kEvent = (evVal d, true) := by rw [sh]; rfl
  have iv : isR (replyR d) kVersion sTen = true := by unfold isR; rw [textR_tV3 gv]; simp
  rw [iv, if_neg (by simp), ge]
  simp only
  rw [gv_content]
  simp only
  have c5 : (d.content.kind != 5) = false := by rw [hc, contentP_shape]; rfl
  have e5 : ((evVal d).kind != 5) = false := rfl
  rw [c5, e5, if_neg (by simp)]
  have tb : tabOk (evVal d) tkK (tkX d.room d.sender) = true := by
    rw [tabOk_eq]
    unfold isR
    rw [textR_tV3 (gv_type d), textR_tV3 (gv_room d), textR_tV3 (gv_sender d), textR_tV3 (gv_key d), ht, hk]
    simp
  rw [tb, if_pos rfl]
  unfold restT fitBad
  rw [gv_prev, gv_auth, gv_depth, ids_lV p1 p2 (by omega), ids_lV a1 a2 (by omega), hc, textR_tV3 (cont_mem to by_)]
  have hi : intV (iV2 d.depth, true) = (d.depth, true) := rfl
  rw [hi]
  have hdn : decide (d.depth < 0) = false := by simp; omega
  have hpl : decide ((d.prev.length : Int) < 1) = false := by simp; omega
  have hbad : byBad (contentP to by_) to server = false := by
    unfold byBad
    rw [cont_by]
    rcases hb with h | ⟨h1, h2, h3⟩
    · rw [if_pos h]; rfl
    · by_cases h : by_ = []
      · rw [if_pos h]; rfl
      · rw [if_neg h]
        show (true && ((((!(to == kJoin4)) || ((3 : Int) != 3)) || !(partsB by_ 64).2.2) || !((partsB by_ 64).2.1 == server))) = false
        rw [h1, h2, h3]; simp
  rw [hbad]
  by_cases ha : d.auth = []
  · rw [if_pos ha, ha]; simp
  · have hal : decide ((d.auth.length : Int) < 1) = false := by
      have : d.auth.length ≠ 0 := fun h => ha (List.length_eq_zero_iff.1 h)
      simp; omega
    rw [if_neg ha]
    simp only [hdn, hpl, hal]
    unfold okT
    rw [cont_keep]
    simp
end Go.Ab
/- TmplBack: its first conditions. -/
namespace Go.Ab
set_option maxHeartbeats 1000000
def X4Fa := J @F123_7.eq_1 (J @F123_10.eq_1 (J @F123_11.eq_1 (J @F123_12.eq_1 (J @F123_17.eq_1 (J @F123_22.eq_1 (J @F123_33.eq_1 (J @F123_34.eq_1 (J @F123_51.eq_1 (J @F123_52.eq_1 (J @F123_63.eq_1 (J @F123_68.eq_1 (J @F123_73.eq_1 (J @F123_84.eq_1 (J @F123_85.eq_1 (J @F123_102.eq_1 (J @F123_103.eq_1 (J @F123_120.eq_1 (J @F123_121.eq_1 (J @F123_123.eq_1 (J @F123_124.eq_1 (J @F123_130.eq_1 (J @F123_131.eq_1 (@F123.eq_1)))))))))))))))))))))))
set_option maxRecDepth 100000
section
variable {l : List Ev} {last : List Bs} {name to : Bs} {by4 L : Bool} {σ : Store} {c : ICode} {k : List Item} {Q : Fr → Store → Prop}
abbrev bkT (n : Nat) : List IOper := (opsOf F123_7).drop n
theorem bk1  (hL : cR 2 [.vsl (l.map evE) none, .int .i64 30] = some (.bool L)) : Ex ipU gU (.ops (opsOf F123_7) :: .code (.keep [0, 1, 2, 3, 4, 55] c) :: k) [(0, .vsl (l.map evE) none), (1, .vsl (last.map .str) none), (2, .str name), (3, .str to), (4, .bool by4)] σ Q ↔ Ex ipU gU (.ops (bkT 4) :: .code (.keep [0, 1, 2, 3, 4, 55] c) :: k) [(0, .vsl (l.map evE) none), (1, .vsl (last.map .str) none), (2, .str name), (3, .str to), (4, .bool by4), (24, .bool (!L))] σ Q := by
  rw [ex_cut 4]
  have hl : (liveIn [0, 1, 2, 3, 4, 55] (bkT 4)).all (([0, 1, 2, 3, 4, 24] : List Nat).contains ·) = true := by kernel_rfl
  unfold bkT at hl ⊢
  generalize (opsOf F123_7).drop 4 = tl at hl ⊢
  simp only [opsOf, X4Fa, EXA, Nat.reduceEqDiff, reduceIte, reduceCtorEq, Nat.reduceAdd, Nat.reduceLeDiff, Nat.reduceSub, Nat.reduceMul, Int.reduceEq, Int.reduceBEq, Int.reduceBNe, Int.reduceLT, Int.reduceLE, Nat.reduceLT, VX, readAt_some, hL]
  rw [ex_prune [0, 1, 2, 3, 4, 24] hl]
  simp only [EXA, Nat.reduceEqDiff, reduceIte, reduceCtorEq, Nat.reduceAdd, Nat.reduceLeDiff, Nat.reduceSub, Nat.reduceMul, Int.reduceEq, Int.reduceBEq, Int.reduceBNe, Int.reduceLT, Int.reduceLE, Nat.reduceLT]
theorem bk2  (a : Bool) : Ex ipU gU (.ops (bkT 4) :: .code (.keep [0, 1, 2, 3, 4, 55] c) :: k) [(0, .vsl (l.map evE) none), (1, .vsl (last.map .str) none), (2, .str name), (3, .str to), (4, .bool by4), (24, .bool a)] σ Q ↔ Ex ipU gU (.ops (bkT 9) :: .code (.keep [0, 1, 2, 3, 4, 55] c) :: k) [(0, .vsl (l.map evE) none), (1, .vsl (last.map .str) none), (2, .str name), (3, .str to), (4, .bool by4), (29, .bool (a || decide ((last.length : Int) < 1)))] σ Q := by
  have hd : bkT 9 = (bkT 4).drop 5 := rfl
  rw [ex_cut 5, hd]
  have hl : (liveIn [0, 1, 2, 3, 4, 55] ((bkT 4).drop 5)).all (([0, 1, 2, 3, 4, 29] : List Nat).contains ·) = true := by kernel_rfl
  generalize (bkT 4).drop 5 = tl at hl ⊢
  cases a
  · simp only [bkT, opsOf, X4Fa, EXA, Nat.reduceEqDiff, reduceIte, reduceCtorEq, Nat.reduceAdd, Nat.reduceLeDiff, Nat.reduceSub, Nat.reduceMul, Int.reduceEq, Int.reduceBEq, Int.reduceBNe, Int.reduceLT, Int.reduceLE, Nat.reduceLT, VX, readAt_some, List.length_map, Bool.false_or]
    rw [ex_prune [0, 1, 2, 3, 4, 29] hl]
    simp only [EXA, Nat.reduceEqDiff, reduceIte, reduceCtorEq, Nat.reduceAdd, Nat.reduceLeDiff, Nat.reduceSub, Nat.reduceMul, Int.reduceEq, Int.reduceBEq, Int.reduceBNe, Int.reduceLT, Int.reduceLE, Nat.reduceLT, Bool.false_or]
  · simp only [bkT, opsOf, X4Fa, EXA, Nat.reduceEqDiff, reduceIte, reduceCtorEq, Nat.reduceAdd, Nat.reduceLeDiff, Nat.reduceSub, Nat.reduceMul, Int.reduceEq, Int.reduceBEq, Int.reduceBNe, Int.reduceLT, Int.reduceLE, Nat.reduceLT, VX, readAt_some, Bool.true_or]
    rw [ex_prune [0, 1, 2, 3, 4, 29] hl]
    simp only [EXA, Nat.reduceEqDiff, reduceIte, reduceCtorEq, Nat.reduceAdd, Nat.reduceLeDiff, Nat.reduceSub, Nat.reduceMul, Int.reduceEq, Int.reduceBEq, Int.reduceBNe, Int.reduceLT, Int.reduceLE, Nat.reduceLT, Bool.true_or]
theorem bk3  (a : Bool) : Ex ipU gU (.ops (bkT 9) :: .code (.keep [0, 1, 2, 3, 4, 55] c) :: k) [(0, .vsl (l.map evE) none), (1, .vsl (last.map .str) none), (2, .str name), (3, .str to), (4, .bool by4), (29, .bool a)] σ Q ↔ Ex ipU gU (.ops (bkT 14) :: .code (.keep [0, 1, 2, 3, 4, 55] c) :: k) [(0, .vsl (l.map evE) none), (1, .vsl (last.map .str) none), (2, .str name), (3, .str to), (4, .bool by4), (34, .bool (a || decide ((last.length : Int) > 20)))] σ Q := by
  have hd : bkT 14 = (bkT 9).drop 5 := rfl
  rw [ex_cut 5, hd]
  have hl : (liveIn [0, 1, 2, 3, 4, 55] ((bkT 9).drop 5)).all (([0, 1, 2, 3, 4, 34] : List Nat).contains ·) = true := by kernel_rfl
  generalize (bkT 9).drop 5 = tl at hl ⊢
  cases a
  · simp only [bkT, opsOf, X4Fa, EXA, Nat.reduceEqDiff, reduceIte, reduceCtorEq, Nat.reduceAdd, Nat.reduceLeDiff, Nat.reduceSub, Nat.reduceMul, Int.reduceEq, Int.reduceBEq, Int.reduceBNe, Int.reduceLT, Int.reduceLE, Nat.reduceLT, VX, readAt_some, List.length_map, Bool.false_or]
    rw [ex_prune [0, 1, 2, 3, 4, 34] hl]
    simp only [EXA, Nat.reduceEqDiff, reduceIte, reduceCtorEq, Nat.reduceAdd, Nat.reduceLeDiff, Nat.reduceSub, Nat.reduceMul, Int.reduceEq, Int.reduceBEq, Int.reduceBNe, Int.reduceLT, Int.reduceLE, Nat.reduceLT, Bool.false_or]
  · simp only [bkT, opsOf, X4Fa, EXA, Nat.reduceEqDiff, reduceIte, reduceCtorEq, Nat.reduceAdd, Nat.reduceLeDiff, Nat.reduceSub, Nat.reduceMul, Int.reduceEq, Int.reduceBEq, Int.reduceBNe, Int.reduceLT, Int.reduceLE, Nat.reduceLT, VX, readAt_some, Bool.true_or]
    rw [ex_prune [0, 1, 2, 3, 4, 34] hl]
    simp only [EXA, Nat.reduceEqDiff, reduceIte, reduceCtorEq, Nat.reduceAdd, Nat.reduceLeDiff, Nat.reduceSub, Nat.reduceMul, Int.reduceEq, Int.reduceBEq, Int.reduceBNe, Int.reduceLT, Int.reduceLE, Nat.reduceLT, Bool.true_or]
theorem bk4  (hn : to.length < lim) (a : Bool) : Ex ipU gU (.ops (bkT 14) :: .code (.keep [0, 1, 2, 3, 4, 55] c) :: k) [(0, .vsl (l.map evE) none), (1, .vsl (last.map .str) none), (2, .str name), (3, .str to), (4, .bool by4), (34, .bool a)] σ Q ↔ Ex ipU gU (.ops (bkT 20) :: .code (.keep [0, 1, 2, 3, 4, 55] c) :: k) [(0, .vsl (l.map evE) none), (1, .vsl (last.map .str) none), (2, .str name), (3, .str to), (4, .bool by4), (40, .bool (a || !(tV3 to).good))] σ Q := by
  have q1 : cR 18 [.str to] = some (tV3 to).enc := r_Text to
  have q2 := r_good (tV3 to) (by simp only [tV3, V.sz, szL, szM]; unfold lim at hn; unfold big; omega)
  have hd : bkT 20 = (bkT 14).drop 6 := rfl
  rw [ex_cut 6, hd]
  have hl : (liveIn [0, 1, 2, 3, 4, 55] ((bkT 14).drop 6)).all (([0, 1, 2, 3, 4, 40] : List Nat).contains ·) = true := by kernel_rfl
  generalize (bkT 14).drop 6 = tl at hl ⊢
  cases a
  · simp only [bkT, opsOf, X4Fa, EXA, Nat.reduceEqDiff, reduceIte, reduceCtorEq, Nat.reduceAdd, Nat.reduceLeDiff, Nat.reduceSub, Nat.reduceMul, Int.reduceEq, Int.reduceBEq, Int.reduceBNe, Int.reduceLT, Int.reduceLE, Nat.reduceLT, VX, readAt_some, q1, q2, Bool.false_or]
    rw [ex_prune [0, 1, 2, 3, 4, 40] hl]
    simp only [EXA, Nat.reduceEqDiff, reduceIte, reduceCtorEq, Nat.reduceAdd, Nat.reduceLeDiff, Nat.reduceSub, Nat.reduceMul, Int.reduceEq, Int.reduceBEq, Int.reduceBNe, Int.reduceLT, Int.reduceLE, Nat.reduceLT, Bool.false_or]
  · simp only [bkT, opsOf, X4Fa, EXA, Nat.reduceEqDiff, reduceIte, reduceCtorEq, Nat.reduceAdd, Nat.reduceLeDiff, Nat.reduceSub, Nat.reduceMul, Int.reduceEq, Int.reduceBEq, Int.reduceBNe, Int.reduceLT, Int.reduceLE, Nat.reduceLT, VX, readAt_some, Bool.true_or]
    rw [ex_prune [0, 1, 2, 3, 4, 40] hl]
    simp only [EXA, Nat.reduceEqDiff, reduceIte, reduceCtorEq, Nat.reduceAdd, Nat.reduceLeDiff, Nat.reduceSub, Nat.reduceMul, Int.reduceEq, Int.reduceBEq, Int.reduceBNe, Int.reduceLT, Int.reduceLE, Nat.reduceLT, Bool.true_or]
theorem bk5  (a : Bool) : Ex ipU gU (.ops (bkT 20) :: .code (.keep [0, 1, 2, 3, 4, 55] c) :: k) [(0, .vsl (l.map evE) none), (1, .vsl (last.map .str) none), (2, .str name), (3, .str to), (4, .bool by4), (40, .bool a)] σ Q ↔ Ex ipU gU (.ops (bkT 25) :: .code (.keep [0, 1, 2, 3, 4, 55] c) :: k) [(0, .vsl (l.map evE) none), (1, .vsl (last.map .str) none), (2, .str name), (3, .str to), (4, .bool by4), (45, .bool (a || decide ((to.length : Int) > 50)))] σ Q := by
  have hd : bkT 25 = (bkT 20).drop 5 := rfl
  rw [ex_cut 5, hd]
  have hl : (liveIn [0, 1, 2, 3, 4, 55] ((bkT 20).drop 5)).all (([0, 1, 2, 3, 4, 45] : List Nat).contains ·) = true := by kernel_rfl
  generalize (bkT 20).drop 5 = tl at hl ⊢
  cases a
  · simp only [bkT, opsOf, X4Fa, EXA, Nat.reduceEqDiff, reduceIte, reduceCtorEq, Nat.reduceAdd, Nat.reduceLeDiff, Nat.reduceSub, Nat.reduceMul, Int.reduceEq, Int.reduceBEq, Int.reduceBNe, Int.reduceLT, Int.reduceLE, Nat.reduceLT, VX, readAt_some, Bool.false_or]
    rw [ex_prune [0, 1, 2, 3, 4, 45] hl]
    simp only [EXA, Nat.reduceEqDiff, reduceIte, reduceCtorEq, Nat.reduceAdd, Nat.reduceLeDiff, Nat.reduceSub, Nat.reduceMul, Int.reduceEq, Int.reduceBEq, Int.reduceBNe, Int.reduceLT, Int.reduceLE, Nat.reduceLT, Bool.false_or]
  · simp only [bkT, opsOf, X4Fa, EXA, Nat.reduceEqDiff, reduceIte, reduceCtorEq, Nat.reduceAdd, Nat.reduceLeDiff, Nat.reduceSub, Nat.reduceMul, Int.reduceEq, Int.reduceBEq, Int.reduceBNe, Int.reduceLT, Int.reduceLE, Nat.reduceLT, VX, readAt_some, Bool.true_or]
    rw [ex_prune [0, 1, 2, 3, 4, 45] hl]
    simp only [EXA, Nat.reduceEqDiff, reduceIte, reduceCtorEq, Nat.reduceAdd, Nat.reduceLeDiff, Nat.reduceSub, Nat.reduceMul, Int.reduceEq, Int.reduceBEq, Int.reduceBNe, Int.reduceLT, Int.reduceLE, Nat.reduceLT, Bool.true_or]
theorem bk6  (a : Bool) : Ex ipU gU (.ops (bkT 25) :: .code (.keep [0, 1, 2, 3, 4, 55] c) :: k) [(0, .vsl (l.map evE) none), (1, .vsl (last.map .str) none), (2, .str name), (3, .str to), (4, .bool by4), (45, .bool a)] σ Q ↔ Ex ipU gU (.ops (bkT 30) :: .code (.keep [0, 1, 2, 3, 4, 55] c) :: k) [(0, .vsl (l.map evE) none), (1, .vsl (last.map .str) none), (2, .str name), (3, .str to), (4, .bool by4), (50, .bool (a || decide ((name.length : Int) > 200)))] σ Q := by
  have hd : bkT 30 = (bkT 25).drop 5 := rfl
  rw [ex_cut 5, hd]
  have hl : (liveIn [0, 1, 2, 3, 4, 55] ((bkT 25).drop 5)).all (([0, 1, 2, 3, 4, 50] : List Nat).contains ·) = true := by kernel_rfl
  generalize (bkT 25).drop 5 = tl at hl ⊢
  cases a
  · simp only [bkT, opsOf, X4Fa, EXA, Nat.reduceEqDiff, reduceIte, reduceCtorEq, Nat.reduceAdd, Nat.reduceLeDiff, Nat.reduceSub, Nat.reduceMul, Int.reduceEq, Int.reduceBEq, Int.reduceBNe, Int.reduceLT, Int.reduceLE, Nat.reduceLT, VX, readAt_some, Bool.false_or]
    rw [ex_prune [0, 1, 2, 3, 4, 50] hl]
    simp only [EXA, Nat.reduceEqDiff, reduceIte, reduceCtorEq, Nat.reduceAdd, Nat.reduceLeDiff, Nat.reduceSub, Nat.reduceMul, Int.reduceEq, Int.reduceBEq, Int.reduceBNe, Int.reduceLT, Int.reduceLE, Nat.reduceLT, Bool.false_or]
  · simp only [bkT, opsOf, X4Fa, EXA, Nat.reduceEqDiff, reduceIte, reduceCtorEq, Nat.reduceAdd, Nat.reduceLeDiff, Nat.reduceSub, Nat.reduceMul, Int.reduceEq, Int.reduceBEq, Int.reduceBNe, Int.reduceLT, Int.reduceLE, Nat.reduceLT, VX, readAt_some, Bool.true_or]
    rw [ex_prune [0, 1, 2, 3, 4, 50] hl]
    simp only [EXA, Nat.reduceEqDiff, reduceIte, reduceCtorEq, Nat.reduceAdd, Nat.reduceLeDiff, Nat.reduceSub, Nat.reduceMul, Int.reduceEq, Int.reduceBEq, Int.reduceBNe, Int.reduceLT, Int.reduceLE, Nat.reduceLT, Bool.true_or]
theorem bk7  (hn : name.length < lim) (a : Bool) : Ex ipU gU (.ops (bkT 30) :: .code (.keep [0, 1, 2, 3, 4, 55] c) :: k) [(0, .vsl (l.map evE) none), (1, .vsl (last.map .str) none), (2, .str name), (3, .str to), (4, .bool by4), (50, .bool a)] σ Q ↔ Ex ipU gU (.ops (bkT 35) :: .code (.keep [0, 1, 2, 3, 4, 55] c) :: k) [(0, .vsl (l.map evE) none), (1, .vsl (last.map .str) none), (2, .str name), (3, .str to), (4, .bool by4), (55, .bool (a || !(tV3 name).good))] σ Q := by
  have q1 : cR 18 [.str name] = some (tV3 name).enc := r_Text name
  have q2 := r_good (tV3 name) (by simp only [tV3, V.sz, szL, szM]; unfold lim at hn; unfold big; omega)
  have hd : bkT 35 = (bkT 30).drop 5 := rfl
  rw [ex_cut 5, hd]
  have hl : (liveIn [0, 1, 2, 3, 4, 55] ((bkT 30).drop 5)).all (([0, 1, 2, 3, 4, 55] : List Nat).contains ·) = true := by kernel_rfl
  generalize (bkT 30).drop 5 = tl at hl ⊢
  cases a
  · simp only [bkT, opsOf, X4Fa, EXA, Nat.reduceEqDiff, reduceIte, reduceCtorEq, Nat.reduceAdd, Nat.reduceLeDiff, Nat.reduceSub, Nat.reduceMul, Int.reduceEq, Int.reduceBEq, Int.reduceBNe, Int.reduceLT, Int.reduceLE, Nat.reduceLT, VX, readAt_some, q1, q2, Bool.false_or]
    rw [ex_prune [0, 1, 2, 3, 4, 55] hl]
    simp only [EXA, Nat.reduceEqDiff, reduceIte, reduceCtorEq, Nat.reduceAdd, Nat.reduceLeDiff, Nat.reduceSub, Nat.reduceMul, Int.reduceEq, Int.reduceBEq, Int.reduceBNe, Int.reduceLT, Int.reduceLE, Nat.reduceLT, Bool.false_or]
  · simp only [bkT, opsOf, X4Fa, EXA, Nat.reduceEqDiff, reduceIte, reduceCtorEq, Nat.reduceAdd, Nat.reduceLeDiff, Nat.reduceSub, Nat.reduceMul, Int.reduceEq, Int.reduceBEq, Int.reduceBNe, Int.reduceLT, Int.reduceLE, Nat.reduceLT, VX, readAt_some, Bool.true_or]
    rw [ex_prune [0, 1, 2, 3, 4, 55] hl]
    simp only [EXA, Nat.reduceEqDiff, reduceIte, reduceCtorEq, Nat.reduceAdd, Nat.reduceLeDiff, Nat.reduceSub, Nat.reduceMul, Int.reduceEq, Int.reduceBEq, Int.reduceBNe, Int.reduceLT, Int.reduceLE, Nat.reduceLT, Bool.true_or]
end
end Go.Ab
/- TmplBack: names without repeats. -/
namespace Go.Ab
set_option maxHeartbeats 1000000
def X5Fa := J @F123_7.eq_1 (J @F123_10.eq_1 (J @F123_11.eq_1 (J @F123_12.eq_1 (J @F123_17.eq_1 (J @F123_22.eq_1 (J @F123_33.eq_1 (J @F123_34.eq_1 (J @F123_51.eq_1 (J @F123_52.eq_1 (J @F123_63.eq_1 (J @F123_68.eq_1 (J @F123_73.eq_1 (J @F123_84.eq_1 (J @F123_85.eq_1 (J @F123_102.eq_1 (J @F123_103.eq_1 (J @F123_120.eq_1 (J @F123_121.eq_1 (J @F123_123.eq_1 (J @F123_124.eq_1 (J @F123_130.eq_1 (J @F123_131.eq_1 (@F123.eq_1)))))))))))))))))))))))
def X5Fb := J @F123_7.eq_1 (J @F123_10.eq_1 (J @F123_11.eq_1 (J @F123_12.eq_1 (J @F123_17.eq_1 (J @F123_22.eq_1 (J @F123_33.eq_1 (J @F123_51.eq_1 (J @F123_52.eq_1 (J @F123_63.eq_1 (J @F123_68.eq_1 (J @F123_73.eq_1 (J @F123_84.eq_1 (J @F123_85.eq_1 (J @F123_102.eq_1 (J @F123_103.eq_1 (J @F123_120.eq_1 (J @F123_121.eq_1 (J @F123_123.eq_1 (J @F123_124.eq_1 (J @F123_130.eq_1 (J @F123_131.eq_1 (@F123.eq_1))))))))))))))))))))))
set_option maxRecDepth 100000
section
variable {l : List Ev} {last : List Bs} {name to : Bs} {by4 : Bool} {σ : Store} {K : List Item} {Q : Fr → Store → Prop}
theorem bk_in {i : Nat} {x : Bs} (hx : last[i]? = some x) (hb : last.length < big) (hq : ∀ fr' : Fr, (look fr' 10).getD .undef = .bool true → Q fr' σ)
    (hk : (∀ (j : Nat) (y : Bs), j < i → last[j]? = some y → y ≠ x) → ∀ fr : Fr, Ex ipU gU K ((0, .vsl (l.map evE) none) :: (1, .vsl (last.map .str) none) :: (2, .str name) :: (3, .str to) :: (4, .bool by4) :: (11, .int .i64 (i : Int)) :: fr) σ Q) :
    Ex ipU gU (.code F123_34 :: .inLoop [0, 1, 2, 3, 4, 11, 12] F123_34 :: .inBlock 2 :: K) [(0, .vsl (l.map evE) none), (1, .vsl (last.map .str) none), (2, .str name), (3, .str to), (4, .bool by4), (11, .int .i64 (i : Int)), (12, .int .i64 0)] σ Q := by
  unfold big at hb
  have hi := lt_of_get hx
  refine ex_while (S := Nat) (fun j => [(0, .vsl (l.map evE) none), (1, .vsl (last.map .str) none), (2, .str name), (3, .str to), (4, .bool by4), (11, .int .i64 (i : Int)), (12, .int .i64 (j : Int))]) (fun _ => σ) (fun j => i - j) (fun j => ∀ (t : Nat) (y : Bs), t < j → last[t]? = some y → y ≠ x) ?_ 0 (fun t y h => by omega)
  intro b j hj ih
  by_cases hlt : j < i
  · obtain ⟨y, hy⟩ := get_lt (l := last) (j := j) (by omega)
    have hcond := dlt hlt
    have i1 := idx_str (c := none) hx
    have i2 := idx_str (c := none) hy
    have hw := wsucc hlt (by omega)
    cases hxy : x == y with
    | true =>
      simp only [X5Fa, EXA, Nat.reduceEqDiff, reduceIte, reduceCtorEq, Nat.reduceAdd, Nat.reduceLeDiff, Nat.reduceSub, Nat.reduceMul, Int.reduceEq, Int.reduceBEq, Int.reduceBNe, Int.reduceLT, Int.reduceLE, Nat.reduceLT, VX, readAt_some, hcond, i1, i2, hxy]
      exact hq _ rfl
    | false =>
      simp only [X5Fa, EXA, Nat.reduceEqDiff, reduceIte, reduceCtorEq, Nat.reduceAdd, Nat.reduceLeDiff, Nat.reduceSub, Nat.reduceMul, Int.reduceEq, Int.reduceBEq, Int.reduceBNe, Int.reduceLT, Int.reduceLE, Nat.reduceLT, VX, readAt_some, hcond, i1, i2, hxy, hw]
      refine ih (j + 1) _ _ (by omega) (fun t z ht hz => ?_) rfl rfl
      by_cases h : t = j
      · subst h
        rw [hy] at hz
        obtain rfl := Option.some.inj hz
        intro he
        subst he
        simp at hxy
      · exact hj t z (by omega) hz
  · have hcond := dge (Nat.not_lt.1 hlt)
    simp only [X5Fa, EXA, Nat.reduceEqDiff, reduceIte, reduceCtorEq, Nat.reduceAdd, Nat.reduceLeDiff, Nat.reduceSub, Nat.reduceMul, Int.reduceEq, Int.reduceBEq, Int.reduceBNe, Int.reduceLT, Int.reduceLE, Nat.reduceLT, VX, readAt_some, hcond]
    exact hk (fun t y ht hy => hj t y (by omega) hy) _
theorem nodup_take {l : List Bs} {i : Nat} {x : Bs} (hx : l[i]? = some x) (h : (l.take i).Nodup) (hn : ∀ (j : Nat) (y : Bs), j < i → l[j]? = some y → y ≠ x) : (l.take (i + 1)).Nodup := by
  rw [List.take_add_one, hx]
  refine List.nodup_append.2 ⟨h, by simp, fun a ha b hb => ?_⟩
  obtain ⟨j, hj, rfl⟩ := List.mem_iff_getElem.1 ha
  simp only [Option.toList_some, List.mem_singleton] at hb
  subst hb
  have h1 : j < i := by simp at hj; omega
  exact hn j _ h1 (by simp [List.getElem_take])
theorem bk_last (hb : last.length < big) (hq : ∀ fr' : Fr, (look fr' 10).getD .undef = .bool true → Q fr' σ)
    (hk : (∀ x ∈ last, evId x = true) → last.Nodup → ∀ fr : Fr, Ex ipU gU K ((0, .vsl (l.map evE) none) :: (1, .vsl (last.map .str) none) :: (2, .str name) :: (3, .str to) :: (4, .bool by4) :: fr) σ Q) :
    Ex ipU gU (.code F123_52 :: .inLoop [0, 1, 2, 3, 4, 11] F123_52 :: .inBlock 0 :: K) [(0, .vsl (l.map evE) none), (1, .vsl (last.map .str) none), (2, .str name), (3, .str to), (4, .bool by4), (11, .int .i64 0)] σ Q := by
  refine ex_while (S := Nat) (fun i => [(0, .vsl (l.map evE) none), (1, .vsl (last.map .str) none), (2, .str name), (3, .str to), (4, .bool by4), (11, .int .i64 (i : Int))]) (fun _ => σ) (fun i => last.length - i) (fun i => (∀ x ∈ last.take i, evId x = true) ∧ (last.take i).Nodup) ?_ 0 ⟨by simp, by simp⟩
  intro b i ⟨h1, h2⟩ ih
  by_cases hlt : i < last.length
  · obtain ⟨x, hx⟩ := get_lt hlt
    have hcond := dlt hlt
    have hw := wsucc hlt (by unfold big at hb; omega)
    have i1 := idx_str (c := none) hx
    have hev := r_EventID x
    simp only [X5Fb, ex_loop, EXA, Nat.reduceEqDiff, reduceIte, reduceCtorEq, Nat.reduceAdd, Nat.reduceLeDiff, Nat.reduceSub, Nat.reduceMul, Int.reduceEq, Int.reduceBEq, Int.reduceBNe, Int.reduceLT, Int.reduceLE, Nat.reduceLT, VX, readAt_some, hcond]
    refine bk_in hx hb hq fun hn fr => ?_
    cases he : evId x with
    | false =>
      rw [he] at hev
      simp only [X5Fb, EXA, Nat.reduceEqDiff, reduceIte, reduceCtorEq, Nat.reduceAdd, Nat.reduceLeDiff, Nat.reduceSub, Nat.reduceMul, Int.reduceEq, Int.reduceBEq, Int.reduceBNe, Int.reduceLT, Int.reduceLE, Nat.reduceLT, VX, readAt_some, i1, hev]
      exact hq _ rfl
    | true =>
      rw [he] at hev
      simp only [X5Fb, EXA, Nat.reduceEqDiff, reduceIte, reduceCtorEq, Nat.reduceAdd, Nat.reduceLeDiff, Nat.reduceSub, Nat.reduceMul, Int.reduceEq, Int.reduceBEq, Int.reduceBNe, Int.reduceLT, Int.reduceLE, Nat.reduceLT, VX, readAt_some, i1, hev, hw]
      refine ih (i + 1) _ _ (by omega) ⟨fun y hy => ?_, nodup_take hx h2 hn⟩ rfl rfl
      rw [List.take_add_one, hx] at hy
      rcases List.mem_append.1 hy with hy | hy
      · exact h1 y hy
      · simp only [Option.toList_some, List.mem_singleton] at hy
        subst hy; exact he
  · have hcond := dge (Nat.not_lt.1 hlt)
    rw [List.take_of_length_le (by omega)] at h1 h2
    simp only [X5Fb, EXA, Nat.reduceEqDiff, reduceIte, reduceCtorEq, Nat.reduceAdd, Nat.reduceLeDiff, Nat.reduceSub, Nat.reduceMul, Int.reduceEq, Int.reduceBEq, Int.reduceBNe, Int.reduceLT, Int.reduceLE, Nat.reduceLT, VX, readAt_some, hcond]
    exact hk h1 h2 _
end
end Go.Ab
/- TmplBack: the names that a draft leans on. -/
namespace Go.Ab
set_option maxHeartbeats 1000000
def X6Fa := J @F123_7.eq_1 (J @F123_10.eq_1 (J @F123_11.eq_1 (J @F123_12.eq_1 (J @F123_17.eq_1 (J @F123_22.eq_1 (J @F123_33.eq_1 (J @F123_34.eq_1 (J @F123_51.eq_1 (J @F123_52.eq_1 (J @F123_63.eq_1 (J @F123_68.eq_1 (J @F123_73.eq_1 (J @F123_84.eq_1 (J @F123_85.eq_1 (J @F123_102.eq_1 (J @F123_103.eq_1 (J @F123_120.eq_1 (J @F123_121.eq_1 (J @F123_123.eq_1 (J @F123_124.eq_1 (J @F123_130.eq_1 (J @F123_131.eq_1 (@F123.eq_1)))))))))))))))))))))))
def X6Fb := J @F123_7.eq_1 (J @F123_10.eq_1 (J @F123_11.eq_1 (J @F123_12.eq_1 (J @F123_17.eq_1 (J @F123_22.eq_1 (J @F123_33.eq_1 (J @F123_34.eq_1 (J @F123_51.eq_1 (J @F123_52.eq_1 (J @F123_63.eq_1 (J @F123_68.eq_1 (J @F123_73.eq_1 (J @F123_84.eq_1 (J @F123_102.eq_1 (J @F123_103.eq_1 (J @F123_120.eq_1 (J @F123_121.eq_1 (J @F123_123.eq_1 (J @F123_124.eq_1 (J @F123_130.eq_1 (J @F123_131.eq_1 (@F123.eq_1))))))))))))))))))))))
set_option maxRecDepth 100000
section
variable {d : Ev} {name to : Bs} {σ : Store} {K : List Item} {Q : Fr → Store → Prop}
theorem bk_ain {i : Nat} {x : Bs} (hx : d.auth[i]? = some x) (hb : d.auth.length < big) (h0 : look σ.m 0 = some (.own (evC d))) (hq : ∀ fr' : Fr, (look fr' 10).getD .undef = .bool true → Q fr' σ)
    (hk : (∀ (j : Nat) (y : Bs), j < i → d.auth[j]? = some y → y ≠ x) → ∀ fr : Fr, Ex ipU gU K ((2, .str name) :: (3, .str to) :: (14, .ptr 0 0) :: (15, .int .i64 (i : Int)) :: fr) σ Q) :
    Ex ipU gU (.code F123_85 :: .inLoop [2, 3, 14, 15, 16] F123_85 :: .inBlock 6 :: K) [(2, .str name), (3, .str to), (14, .ptr 0 0), (15, .int .i64 (i : Int)), (16, .int .i64 0)] σ Q := by
  unfold big at hb
  have hi := lt_of_get hx
  refine ex_while (S := Nat) (fun j => [(2, .str name), (3, .str to), (14, .ptr 0 0), (15, .int .i64 (i : Int)), (16, .int .i64 (j : Int))]) (fun _ => σ) (fun j => i - j) (fun j => ∀ (t : Nat) (y : Bs), t < j → d.auth[t]? = some y → y ≠ x) ?_ 0 (fun t y h => by omega)
  intro b j hj ih
  by_cases hlt : j < i
  · obtain ⟨y, hy⟩ := get_lt (l := d.auth) (j := j) (by omega)
    have hcond := dlt hlt
    have i1 := idx_str (c := none) hx
    have i2 := idx_str (c := none) hy
    have hw := wsucc hlt (by omega)
    cases hxy : x == y with
    | true =>
      simp only [X6Fa, EXA, Nat.reduceEqDiff, reduceIte, reduceCtorEq, Nat.reduceAdd, Nat.reduceLeDiff, Nat.reduceSub, Nat.reduceMul, Int.reduceEq, Int.reduceBEq, Int.reduceBNe, Int.reduceLT, Int.reduceLE, Nat.reduceLT, VX, readAt_some, List.length_map, hcond, h0, evr_auth, i1, i2, hxy]
      exact hq _ rfl
    | false =>
      simp only [X6Fa, EXA, Nat.reduceEqDiff, reduceIte, reduceCtorEq, Nat.reduceAdd, Nat.reduceLeDiff, Nat.reduceSub, Nat.reduceMul, Int.reduceEq, Int.reduceBEq, Int.reduceBNe, Int.reduceLT, Int.reduceLE, Nat.reduceLT, VX, readAt_some, List.length_map, hcond, h0, evr_auth, i1, i2, hxy, hw]
      refine ih (j + 1) _ _ (by omega) (fun t z ht hz => ?_) rfl rfl
      by_cases h : t = j
      · subst h
        rw [hy] at hz
        obtain rfl := Option.some.inj hz
        intro he
        subst he
        simp at hxy
      · exact hj t z (by omega) hz
  · have hcond := dge (Nat.not_lt.1 hlt)
    simp only [X6Fa, EXA, Nat.reduceEqDiff, reduceIte, reduceCtorEq, Nat.reduceAdd, Nat.reduceLeDiff, Nat.reduceSub, Nat.reduceMul, Int.reduceEq, Int.reduceBEq, Int.reduceBNe, Int.reduceLT, Int.reduceLE, Nat.reduceLT, VX, readAt_some, List.length_map, hcond, h0, evr_auth]
    exact hk (fun t y ht hy => hj t y (by omega) hy) _
theorem bk_auth (hb : d.auth.length < big) (h0 : look σ.m 0 = some (.own (evC d))) (hq : ∀ fr' : Fr, (look fr' 10).getD .undef = .bool true → Q fr' σ)
    (hk : (∀ x ∈ d.auth, evId x = true) → d.auth.Nodup → ∀ fr : Fr, Ex ipU gU K ((2, .str name) :: (3, .str to) :: (14, .ptr 0 0) :: fr) σ Q) :
    Ex ipU gU (.code F123_103 :: .inLoop [2, 3, 14, 15] F123_103 :: .inBlock 4 :: K) [(2, .str name), (3, .str to), (14, .ptr 0 0), (15, .int .i64 0)] σ Q := by
  refine ex_while (S := Nat) (fun i => [(2, .str name), (3, .str to), (14, .ptr 0 0), (15, .int .i64 (i : Int))]) (fun _ => σ) (fun i => d.auth.length - i) (fun i => (∀ x ∈ d.auth.take i, evId x = true) ∧ (d.auth.take i).Nodup) ?_ 0 ⟨by simp, by simp⟩
  intro b i ⟨h1, h2⟩ ih
  by_cases hlt : i < d.auth.length
  · obtain ⟨x, hx⟩ := get_lt hlt
    have hcond := dlt hlt
    have hw := wsucc hlt (by unfold big at hb; omega)
    have i1 := idx_str (c := none) hx
    have hev := r_EventID x
    simp only [X6Fb, ex_loop, EXA, Nat.reduceEqDiff, reduceIte, reduceCtorEq, Nat.reduceAdd, Nat.reduceLeDiff, Nat.reduceSub, Nat.reduceMul, Int.reduceEq, Int.reduceBEq, Int.reduceBNe, Int.reduceLT, Int.reduceLE, Nat.reduceLT, VX, readAt_some, List.length_map, hcond, h0, evr_auth]
    refine bk_ain hx hb h0 hq fun hn fr => ?_
    cases he : evId x with
    | false =>
      rw [he] at hev
      simp only [X6Fb, EXA, Nat.reduceEqDiff, reduceIte, reduceCtorEq, Nat.reduceAdd, Nat.reduceLeDiff, Nat.reduceSub, Nat.reduceMul, Int.reduceEq, Int.reduceBEq, Int.reduceBNe, Int.reduceLT, Int.reduceLE, Nat.reduceLT, VX, readAt_some, h0, evr_auth, i1, hev]
      exact hq _ rfl
    | true =>
      rw [he] at hev
      simp only [X6Fb, EXA, Nat.reduceEqDiff, reduceIte, reduceCtorEq, Nat.reduceAdd, Nat.reduceLeDiff, Nat.reduceSub, Nat.reduceMul, Int.reduceEq, Int.reduceBEq, Int.reduceBNe, Int.reduceLT, Int.reduceLE, Nat.reduceLT, VX, readAt_some, h0, evr_auth, i1, hev, hw]
      refine ih (i + 1) _ _ (by omega) ⟨fun y hy => ?_, nodup_take hx h2 hn⟩ rfl rfl
      rw [List.take_add_one, hx] at hy
      rcases List.mem_append.1 hy with hy | hy
      · exact h1 y hy
      · simp only [Option.toList_some, List.mem_singleton] at hy
        subst hy; exact he
  · have hcond := dge (Nat.not_lt.1 hlt)
    rw [List.take_of_length_le (by omega)] at h1 h2
    simp only [X6Fb, EXA, Nat.reduceEqDiff, reduceIte, reduceCtorEq, Nat.reduceAdd, Nat.reduceLeDiff, Nat.reduceSub, Nat.reduceMul, Int.reduceEq, Int.reduceBEq, Int.reduceBNe, Int.reduceLT, Int.reduceLE, Nat.reduceLT, VX, readAt_some, List.length_map, hcond, h0, evr_auth]
    exact hk h1 h2 _
end
end Go.Ab
/- TmplBack: true. -/
namespace Go.Ab
set_option maxHeartbeats 1000000
set_option maxRecDepth 100000
theorem good_vu {s : Bs} (h : (tV3 s).good = true) : vu s = true := by
  unfold V.good at h
  simp only [Bool.and_eq_true] at h
  have := h.1
  rw [V.fine_eq] at this
  simpa [tV3, V.kind, V.n, V.s, V.l, V.m, V.bare] using this
abbrev kR : Bs := [33, 114, 58, 97, 46, 111, 114, 103]
abbrev kA : Bs := [97, 46, 111, 114, 103]
abbrev kU : Bs := [64, 117, 58, 97, 46, 111, 114, 103]
theorem partsU : (partsB kU 64).2.2 = true ∧ (partsB kU 64).2.1 = kA := by
  constructor <;> kernel_rfl
theorem back_take (l : List Ev) (last : List Bs) (name to by_ : Bs) (hn : vu name = true) (ht : vu to = true) (hb : by_ = [] ∨ (by_ = kU ∧ to = kJoin4)) (p1 : ∀ x ∈ last, evId x = true) (p2 : last.Nodup) (p3 : last.length ≤ 20) (p4 : 1 ≤ last.length)
    (a1 : ∀ x ∈ (draftE l last kR name name to by_).auth, evId x = true) (a2 : (draftE l last kR name name to by_).auth.Nodup) (a3 : (draftE l last kR name name to by_).auth.length ≤ 10) :
    takeR (replyR (draftE l last kR name name to by_)) kR name to kA = if (draftE l last kR name name to by_).auth = [] then erT else .tup [evE (draftE l last kR name name to by_), .int .i64 0] := by
  have hby : vu by_ = true := by
    rcases hb with rfl | ⟨rfl, _⟩
    · rfl
    · kernel_rfl
  have d1 := deeper_ok l
  have hg := reply_good (d := draftE l last kR name name to by_) rfl a1 p1 d1.1 (by kernel_rfl) hn hn (by kernel_rfl) (content_fine ht hby) (content_dep to by_)
  have := take_reply (d := draftE l last kR name name to by_) (to := to) (by_ := by_) (server := kA) rfl hg rfl rfl rfl p1 p2 p3 p4 a1 a2 a3 d1.2 (by
    rcases hb with h | ⟨rfl, h⟩
    · exact .inl h
    · exact .inr ⟨h, partsU.1, partsU.2⟩)
  exact this
end Go.Ab
/- TmplBack: the walk's second half, and as a whole. -/
namespace Go.Ab
set_option maxHeartbeats 1000000
def X8Fa := J @F123_7.eq_1 (J @F123_10.eq_1 (J @F123_11.eq_1 (J @F123_12.eq_1 (J @F123_17.eq_1 (J @F123_22.eq_1 (J @F123_33.eq_1 (J @F123_34.eq_1 (J @F123_51.eq_1 (J @F123_52.eq_1 (J @F123_63.eq_1 (J @F123_68.eq_1 (J @F123_73.eq_1 (J @F123_84.eq_1 (J @F123_85.eq_1 (J @F123_102.eq_1 (J @F123_103.eq_1 (J @F123_120.eq_1 (J @F123_121.eq_1 (J @F123_123.eq_1 (J @F123_124.eq_1 (J @F123_130.eq_1 (J @F123_131.eq_1 (@F123.eq_1)))))))))))))))))))))))
def X8Fc := J @F123_7.eq_1 (J @F123_10.eq_1 (J @F123_11.eq_1 (J @F123_17.eq_1 (J @F123_22.eq_1 (J @F123_33.eq_1 (J @F123_34.eq_1 (J @F123_51.eq_1 (J @F123_52.eq_1 (J @F123_63.eq_1 (J @F123_68.eq_1 (J @F123_73.eq_1 (J @F123_84.eq_1 (J @F123_85.eq_1 (J @F123_102.eq_1 (J @F123_103.eq_1 (J @F123_120.eq_1 (J @F123_121.eq_1 (J @F123_123.eq_1 (J @F123_130.eq_1 (@F123.eq_1))))))))))))))))))))
def X8Fd := J @F123_7.eq_1 (J @F123_10.eq_1 (J @F123_11.eq_1 (J @F123_17.eq_1 (J @F123_22.eq_1 (J @F123_33.eq_1 (J @F123_34.eq_1 (J @F123_51.eq_1 (J @F123_63.eq_1 (J @F123_68.eq_1 (J @F123_73.eq_1 (J @F123_84.eq_1 (J @F123_85.eq_1 (J @F123_102.eq_1 (J @F123_103.eq_1 (J @F123_120.eq_1 (J @F123_121.eq_1 (J @F123_123.eq_1 (J @F123_130.eq_1 (J @F123_131.eq_1 (@F123.eq_1))))))))))))))))))))
set_option maxRecDepth 100000
/-- From the draft on. -/
theorem bk_draft {l : List Ev} {last : List Bs} {name to by_ : Bs} {r : AV} (h1 : evsSz l ≤ 1048576) (h2 : last.length + strsSz last ≤ 1048576) (h3 : name.length ≤ 1048576) (h4 : to.length ≤ 1048576) (h5 : by_.length ≤ 10)
    (hn : vu name = true) (ht : vu to = true) (hb : by_ = [] ∨ (by_ = kU ∧ to = kJoin4)) (p1 : ∀ x ∈ last, evId x = true) (p2 : last.Nodup) (p3 : last.length ≤ 20) (p4 : 1 ≤ last.length) (hr : r = .bool true) :
    Ex ipU gU [.code F123_124] [(0, .vsl (l.map evE) none), (1, .vsl (last.map .str) none), (2, .str name), (3, .str to), (13, .str by_)] .empty fun fr' σ1 => (resAll fr' σ1 F123.res).bind (rbE σ1) = some r := by
  have hlen := evsSz_len l
  have hmem : ∀ x ∈ l, x.sz ≤ 1048576 := fun x hx => by have := evsSz_mem hx; omega
  have hs : ∀ x ∈ l, x.prev.length < lim ∧ x.auth.length < lim := fun x hx => by
    have h := hmem x hx
    unfold Ev.sz at h
    unfold lim; omega
  have c116 := r_Draft l last kR name name to by_ (by unfold big; omega) (by unfold lim; omega) hs (by unfold lim; omega) (by unfold lim; omega)
  have hcs := contentP_sz to by_
  have hns := needs_len (draft0 l last kR name name to by_)
  have hps := pickF_sz l (needs (draft0 l last kR name name to by_))
  have bt := back_take l last name to by_ hn ht hb p1 p2 p3 p4
  obtain ⟨d, hd⟩ : ∃ d, d = draftE l last kR name name to by_ := ⟨_, rfl⟩
  rw [← hd] at bt c116
  have hdv : d.v.sz = 1 := by rw [hd]; rfl
  have hdc : d.content.sz ≤ 2200000 := by rw [hd]; show (contentP to by_).sz ≤ _; omega
  have hdp : d.prev = last := by rw [hd]; rfl
  have hda : d.auth = pickF l (needs (draft0 l last kR name name to by_)) := by rw [hd]; rfl
  have hal : d.auth.length ≤ 7 ∧ strsSz d.auth ≤ 7 * 1048576 := by
    rw [hda]
    refine ⟨by omega, Nat.le_trans hps.2 ?_⟩
    exact Nat.mul_le_mul hns h1
  have hdz : d.sz + d.key.length ≤ 100000000 := by
    have e1 : d.id.length = 0 := by rw [hd]; rfl
    have e2 : d.room.length = 8 := by rw [hd]; rfl
    have e3 : d.type.length = 13 := by rw [hd]; rfl
    have e4 : d.sender = name := by rw [hd]; rfl
    have e5 : d.key = name := by rw [hd]; rfl
    unfold Ev.sz
    rw [hdv, e1, e2, e3, e4, e5, hdp]
    omega
  have c11 := r_sameEvent d (by rw [hdv]; unfold big; omega) (by unfold big; omega) (by rw [hdp]; unfold big; omega) (by unfold big; omega)
  have c118 := r_Reply d (by rw [hdp]; unfold lim; omega) (by unfold lim; omega)
  have hrz := replyR_sz d
  rw [reply_eq] at c118
  have c121 := r_Take (replyR d) kR name to kA (by unfold lim; omega)
  rw [take_eq] at c121
  simp only [F123_7, F123_10, F123_11, F123_12, F123_17, F123_22, F123_33, F123_34, F123_51, F123_52, F123_63, F123_68, F123_73, F123_84, F123_85, F123_102, F123_120, F123_123, F123_124, F123_130, F123_131, F123, ex_loop, EXA, Nat.reduceEqDiff, reduceIte, reduceCtorEq, Nat.reduceAdd, Nat.reduceLeDiff, Nat.reduceSub, Nat.reduceMul, Int.reduceEq, Int.reduceBEq, Int.reduceBNe, Int.reduceLT, Int.reduceLE, Nat.reduceLT, VX, readAt_some, c116]
  refine bk_auth (d := d) (by unfold big; omega) rfl (fun fr' h => ?_) (fun a1 a2 fr => ?_)
  · simp only [h, hr]; rfl
  have bt' := bt a1 a2 (by omega)
  rw [bt'] at c121
  clear bt bt' hd hdv hdc hdp hda hdz hrz hps hns hcs
  generalize replyR d = R at c118 c121
  by_cases ha : d.auth = []
  · rw [if_pos ha] at c121
    unfold erT at c121
    have hz : ((d.auth.length : Int) == 0) = true := by rw [ha]; rfl
    simp only [X8Fa, EXA, Nat.reduceEqDiff, reduceIte, reduceCtorEq, Nat.reduceAdd, Nat.reduceLeDiff, Nat.reduceSub, Nat.reduceMul, Int.reduceEq, Int.reduceBEq, Int.reduceBNe, Int.reduceLT, Int.reduceLE, Nat.reduceLT, VX, readAt_some, evE_eta0, c118, c121, List.length_map, hz, hr]
  · rw [if_neg ha] at c121
    have hz : ((d.auth.length : Int) == 0) = false := by
      have : d.auth.length ≠ 0 := fun h => ha (List.length_eq_zero_iff.1 h)
      rw [beq_eq_false_iff_ne]; omega
    simp only [X8Fa, EXA, Nat.reduceEqDiff, reduceIte, reduceCtorEq, Nat.reduceAdd, Nat.reduceLeDiff, Nat.reduceSub, Nat.reduceMul, Int.reduceEq, Int.reduceBEq, Int.reduceBNe, Int.reduceLT, Int.reduceLE, Nat.reduceLT, VX, readAt_some, evE_eta0, c118, c121, c11, List.length_map, hz, hr]
theorem r_TmplBack (l : List Ev) (last : List Bs) (name to : Bs) (by4 : Bool) (h1 : evsSz l ≤ 1048576) (h2 : last.length + strsSz last ≤ 1048576) (h3 : name.length ≤ 1048576) (h4 : to.length ≤ 1048576) :
    cR 123 [.vsl (l.map evE) none, .vsl (last.map .str) none, .str name, .str to, .bool by4] = some (.bool true) := by
  have hlen := evsSz_len l
  have hbl : ∀ x ∈ l, x.content.sz < big := fun x hx => by
    have h := evsSz_mem hx
    unfold Ev.sz at h
    unfold big; omega
  have c2 := r_light l 30 hbl (by unfold big; omega)
  refine cR_of (F := F123) rfl ?_
  obtain ⟨r, hr⟩ : ∃ r, r = AV.bool true := ⟨_, rfl⟩
  rw [← hr]
  simp only [X8Fc, EXA, Nat.reduceEqDiff, reduceIte, reduceCtorEq, Nat.reduceAdd, Nat.reduceLeDiff, Nat.reduceSub, Nat.reduceMul, Int.reduceEq, Int.reduceBEq, Int.reduceBNe, Int.reduceLT, Int.reduceLE, Nat.reduceLT, VX, readAt_some, r_awake27]
  rw [ex_chain (P := F123_12) (reg := F123_7) (L := [0, 1, 2, 3, 4, 55]) (Q' := F123_10) rfl rfl, bk1 c2, bk2, bk3, bk4 (by unfold lim; omega), bk5, bk6, bk7 (by unfold lim; omega)]
  cases hw : ((((((!(!(decide ((l.length : Int) > 30)) && l.all lightE)) || decide ((last.length : Int) < 1)) || decide ((last.length : Int) > 20)) || !(tV3 to).good) || decide ((to.length : Int) > 50)) || decide ((name.length : Int) > 200)) || !(tV3 name).good with
  | true =>
    simp only [bkT, opsOf, X8Fc, EXA, Nat.reduceEqDiff, reduceIte, reduceCtorEq, Nat.reduceAdd, Nat.reduceLeDiff, Nat.reduceSub, Nat.reduceMul, Int.reduceEq, Int.reduceBEq, Int.reduceBNe, Int.reduceLT, Int.reduceLE, Nat.reduceLT, VX, readAt_some, hr]
  | false =>
    simp only [Bool.or_eq_false_iff, Bool.not_eq_false', decide_eq_false_iff_not] at hw
    obtain ⟨⟨⟨⟨⟨⟨_, g1⟩, g2⟩, g3⟩, g4⟩, g5⟩, g6⟩ := hw
    simp only [bkT, opsOf, X8Fd, ex_loop, EXA, Nat.reduceEqDiff, reduceIte, reduceCtorEq, Nat.reduceAdd, Nat.reduceLeDiff, Nat.reduceSub, Nat.reduceMul, Int.reduceEq, Int.reduceBEq, Int.reduceBNe, Int.reduceLT, Int.reduceLE, Nat.reduceLT, VX, readAt_some]
    refine bk_last (by unfold big; omega) (fun fr' h => ?_) (fun p1 p2 fr => ?_)
    · simp only [h, hr]; rfl
    have fin : ∀ by_ : Bs, by_.length ≤ 10 → (by_ = [] ∨ (by_ = kU ∧ to = kJoin4)) → _ := fun by_ h5 hb => bk_draft (r := r) h1 h2 h3 h4 h5 (good_vu g6) (good_vu g3) hb p1 p2 (by omega) (by omega) hr
    cases by4 with
    | false =>
      simp only [X8Fd, EXA, Nat.reduceEqDiff, reduceIte, reduceCtorEq, Nat.reduceAdd, Nat.reduceLeDiff, Nat.reduceSub, Nat.reduceMul, Int.reduceEq, Int.reduceBEq, Int.reduceBNe, Int.reduceLT, Int.reduceLE, Nat.reduceLT, VX, readAt_some]
      exact fin [] (by decide) (.inl rfl)
    | true =>
      cases hj : to == kJoin4 with
      | false =>
        simp only [X8Fd, EXA, Nat.reduceEqDiff, reduceIte, reduceCtorEq, Nat.reduceAdd, Nat.reduceLeDiff, Nat.reduceSub, Nat.reduceMul, Int.reduceEq, Int.reduceBEq, Int.reduceBNe, Int.reduceLT, Int.reduceLE, Nat.reduceLT, VX, readAt_some, hj]
        exact fin [] (by decide) (.inl rfl)
      | true =>
        simp only [X8Fd, EXA, Nat.reduceEqDiff, reduceIte, reduceCtorEq, Nat.reduceAdd, Nat.reduceLeDiff, Nat.reduceSub, Nat.reduceMul, Int.reduceEq, Int.reduceBEq, Int.reduceBNe, Int.reduceLT, Int.reduceLE, Nat.reduceLT, VX, readAt_some, hj]
        exact fin kU (by decide) (.inr ⟨rfl, by simpa using hj⟩)
end Go.Ab
