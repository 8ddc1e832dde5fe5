/- What functions of the program, and of the library, answer. Conditions: none. -/
import Derived.Test.YtgckcnggblomgaaGreatDoorLaw8
set_option linter.unusedVariables false
set_option linter.unusedSimpArgs false
set_option linter.defProp false
/- The document's Take. -/
namespace Go.Ab
set_option maxHeartbeats 1000000
def W10Fa := J @F122_18.eq_1 (J @F122_21.eq_1 (J @F122_23.eq_1 (J @F122_24.eq_1 (J @F122_30.eq_1 (J @F122_44.eq_1 (J @F122_45.eq_1 (J @F122_54.eq_1 (J @F122_57.eq_1 (J @F122_58.eq_1 (J @F122_63.eq_1 (J @F122_66.eq_1 (J @F122_67.eq_1 (J @F122_68.eq_1 (J @F122_75.eq_1 (J @F122_78.eq_1 (J @F122_80.eq_1 (J @F122_81.eq_1 (J @F122_94.eq_1 (J @F122_95.eq_1 (J @F122_96.eq_1 (J @F122_97.eq_1 (@F122.eq_1))))))))))))))))))))))
def W10Fb := J @F122_18.eq_1 (J @F122_21.eq_1 (J @F122_23.eq_1 (J @F122_24.eq_1 (J @F122_30.eq_1 (J @F122_44.eq_1 (J @F122_45.eq_1 (J @F122_54.eq_1 (J @F122_57.eq_1 (J @F122_58.eq_1 (J @F122_59.eq_1 (J @F122_63.eq_1 (J @F122_66.eq_1 (J @F122_67.eq_1 (J @F122_75.eq_1 (J @F122_78.eq_1 (J @F122_79.eq_1 (J @F122_80.eq_1 (J @F122_81.eq_1 (J @F122_94.eq_1 (J @F122_95.eq_1 (J @F122_96.eq_1 (J @F122_97.eq_1 (@F122.eq_1)))))))))))))))))))))))
set_option maxRecDepth 100000
abbrev ownV (x : V) : Blk := .own [.int .i64 x.kind, .int .i64 x.n, .str x.s, .vsl (x.l.map V.enc) none, .vsl (x.m.map memE) none]
def okT (room user : Bs) (d : Int) (p a : List Bs) (c : V) : AV := .tup [evE (evT room user d p a (keepV c [kMembership, kAuthd] true)), .int .i64 0]
def erT : AV := .tup [evE Ev.zero, .int .i64 19]
def byBad (c : V) (to server : Bs) : Bool := (getR c kAuthd).2 && ((((!(to == kJoin4)) || ((getR c kAuthd).1.kind != 3)) || !(partsB (getR c kAuthd).1.s 64).2.2) || !((partsB (getR c kAuthd).1.s 64).2.1 == server))
theorem ex_chain {P Q' : ICode} {reg : ICode} {os : List IOper} {L : List Nat} {K : List Item} {fr : Fr} {σ : Store} {Q : Fr → Store → Prop} (h1 : P = .seq reg (.keep L Q')) (h2 : reg = .region os) :
    Ex ipU gU (.code P :: K) fr σ Q ↔ Ex ipU gU (.ops (opsOf reg) :: .code (.keep L Q') :: K) fr σ Q := by
  subst h1 h2
  rw [ex_seq, ex_region]; rfl
theorem rt_by {room user to server : Bs} {p a : List Bs} {d : Int} {c : V} {σ : Store} {i h : Nat} {r : AV} (hc : c.sz < lim) (h0 : (σ.next = i) = False) (h1 : (σ.next = h) = False)
    (h10 : look σ.m i = some (.own z20)) (h16 : look σ.m h = some (ownV c)) (hr : r = if byBad c to server = true then erT else okT room user d p a c) :
    Ex ipU gU [.code F122_79] [(1, .str room), (2, .str user), (3, .str to), (4, .str server), (10, .ptr i 0), (16, .ptr h 0), (25, .vsl (p.map .str) none), (27, .vsl (a.map .str) none), (29, .int .i64 d)] σ
      fun fr' σ1 => (resAll fr' σ1 F122.res).bind (rbE σ1) = some r := by
  unfold lim at hc
  have hg := r_refGet c kAuthd (by unfold big; omega)
  have hgz := getR_sz c kAuthd
  have hu := r_refUser (getR c kAuthd).1.s (by have := (getR c kAuthd).1.sz_eq; unfold big; omega)
  have hk := r_Keep c [kMembership, kAuthd] true (by decide) (by have := m_len_sz c; unfold lim; omega)
  unfold byBad at hr
  generalize getR c kAuthd = b at *
  generalize partsB b.1.s 64 = u at *
  obtain ⟨x, b⟩ := b
  obtain ⟨u1, u2, u3⟩ := u
  simp only at hr hg hu
  unfold okT at hr
  simp only [List.map_cons, List.map_nil] at hk
  generalize keepV c [kMembership, kAuthd] true = kc at *
  cases b with
  | false =>
    simp only [Bool.false_and, Bool.false_eq_true, if_false] at hr
    simp only [W10Fb, EXA, Nat.reduceEqDiff, reduceIte, reduceCtorEq, Nat.reduceAdd, Nat.reduceLeDiff, Nat.reduceSub, Nat.reduceMul, Int.reduceEq, Int.reduceBEq, Int.reduceBNe, Int.reduceLT, Int.reduceLE, Nat.reduceLT, VX, readAt_some, hg, h0, h1, h10, h16, hk]
    rw [hr]
    rfl
  | true =>
    rw [Bool.true_and] at hr
    simp only [W10Fb, EXA, Nat.reduceEqDiff, reduceIte, reduceCtorEq, Nat.reduceAdd, Nat.reduceLeDiff, Nat.reduceSub, Nat.reduceMul, Int.reduceEq, Int.reduceBEq, Int.reduceBNe, Int.reduceLT, Int.reduceLE, Nat.reduceLT, VX, readAt_some, hg, hu, h0, h1, h10, h16]
    rw [ex_chain (P := F122_68) (reg := F122_63) (L := [1, 2, 10, 16, 25, 27, 29, 195]) (Q' := F122_66) rfl rfl, rc1, rc2 (x := x), rc3, rc4]
    · generalize ((((!(to == kJoin4)) || (x.kind != 3)) || !u3) || !(u2 == server)) = w at hr ⊢
      cases w with
      | true =>
        simp only [if_true] at hr
        simp only [rcT, opsOf, W10Fb, EXA, Nat.reduceEqDiff, reduceIte, reduceCtorEq, Nat.reduceAdd, Nat.reduceLeDiff, Nat.reduceSub, Nat.reduceMul, Int.reduceEq, Int.reduceBEq, Int.reduceBNe, Int.reduceLT, Int.reduceLE, Nat.reduceLT, VX, readAt_some, h0, h1, h10, h16, hr]
        rfl
      | false =>
        simp only [Bool.false_eq_true, if_false] at hr
        simp only [rcT, opsOf, W10Fb, EXA, Nat.reduceEqDiff, reduceIte, reduceCtorEq, Nat.reduceAdd, Nat.reduceLeDiff, Nat.reduceSub, Nat.reduceMul, Int.reduceEq, Int.reduceBEq, Int.reduceBNe, Int.reduceLT, Int.reduceLE, Nat.reduceLT, VX, readAt_some, h0, h1, h10, h16, hk, hr]
        rfl
    · simp only [look, if_true]
def fitBad (m : Bs × Bool) (to : Bs) (p a : List Bs × Bool) (d : Int × Bool) : Bool := (((((((!m.2) || !(m.1 == to)) || !p.2) || !a.2) || !d.2) || decide (d.1 < 0)) || decide ((p.1.length : Int) < 1)) || decide ((a.1.length : Int) < 1)
theorem rt_fit {room user to server : Bs} {m : Bs × Bool} {p a : List Bs × Bool} {d : Int × Bool} {c : V} {σ : Store} {i h : Nat} {r : AV} (hc : c.sz < lim) (h0 : (σ.next = i) = False) (h1 : (σ.next = h) = False)
    (h10 : look σ.m i = some (.own z20)) (h16 : look σ.m h = some (ownV c)) (hr : r = if fitBad m to p a d = true then erT else if byBad c to server = true then erT else okT room user d.1 p.1 a.1 c) :
    Ex ipU gU [.code F122_81] [(1, .str room), (2, .str user), (3, .str to), (4, .str server), (10, .ptr i 0), (16, .ptr h 0), (23, .str m.1), (24, .bool m.2), (25, .vsl (p.1.map .str) none), (26, .bool p.2), (27, .vsl (a.1.map .str) none), (28, .bool a.2), (29, .int .i64 d.1), (30, .bool d.2)] σ
      fun fr' σ1 => (resAll fr' σ1 F122.res).bind (rbE σ1) = some r := by
  obtain ⟨m1, m2⟩ := m
  obtain ⟨p1, p2⟩ := p
  obtain ⟨a1, a2⟩ := a
  obtain ⟨d1, d2⟩ := d
  unfold fitBad at hr
  simp only at hr ⊢
  have e : ∀ K fr Q, Ex ipU gU (.code F122_81 :: K) fr σ Q ↔ Ex ipU gU (.code F122_59 :: .code F122_80 :: K) fr σ Q := fun K fr Q => by rw [F122_81, ex_seq]
  rw [e, ex_chain (P := F122_59) (reg := F122_54) (L := [1, 2, 3, 4, 10, 16, 25, 27, 29, 165]) (Q' := F122_57) rfl rfl, rb_1, rb_2, rb_3, rb_4, rb_5, rb_6, rb_7, rb_8]
  generalize ((((((((!m2) || !(m1 == to)) || !p2) || !a2) || !d2) || decide (d1 < 0)) || decide ((p1.length : Int) < 1)) || decide ((a1.length : Int) < 1)) = w at hr ⊢
  cases w with
  | true =>
    simp only [if_true] at hr
    simp only [rb_T, opsOf, W10Fa, EXA, Nat.reduceEqDiff, reduceIte, reduceCtorEq, Nat.reduceAdd, Nat.reduceLeDiff, Nat.reduceSub, Nat.reduceMul, Int.reduceEq, Int.reduceBEq, Int.reduceBNe, Int.reduceLT, Int.reduceLE, Nat.reduceLT, VX, readAt_some, h10, h16, hr]
    rfl
  | false =>
    simp only [Bool.false_eq_true, if_false] at hr
    simp only [rb_T, opsOf, W10Fa, EXA, Nat.reduceEqDiff, reduceIte, reduceCtorEq, Nat.reduceAdd, Nat.reduceLeDiff, Nat.reduceSub, Nat.reduceMul, Int.reduceEq, Int.reduceBEq, Int.reduceBNe, Int.reduceLT, Int.reduceLE, Nat.reduceLT, VX, readAt_some]
    exact rt_by hc h0 h1 h10 h16 hr
end Go.Ab
/- The document's Take: its table, and as a whole. -/
namespace Go.Ab
set_option maxHeartbeats 1000000
def W11Fb := J @F122_18.eq_1 (J @F122_21.eq_1 (J @F122_23.eq_1 (J @F122_24.eq_1 (J @F122_30.eq_1 (J @F122_44.eq_1 (J @F122_45.eq_1 (J @F122_54.eq_1 (J @F122_57.eq_1 (J @F122_58.eq_1 (J @F122_59.eq_1 (J @F122_63.eq_1 (J @F122_66.eq_1 (J @F122_67.eq_1 (J @F122_68.eq_1 (J @F122_75.eq_1 (J @F122_78.eq_1 (J @F122_79.eq_1 (J @F122_80.eq_1 (J @F122_94.eq_1 (J @F122_95.eq_1 (J @F122_96.eq_1 (J @F122_97.eq_1 (@F122.eq_1)))))))))))))))))))))))
def W11Fc := J @F122_18.eq_1 (J @F122_21.eq_1 (J @F122_23.eq_1 (J @F122_24.eq_1 (J @F122_30.eq_1 (J @F122_44.eq_1 (J @F122_45.eq_1 (J @F122_54.eq_1 (J @F122_57.eq_1 (J @F122_58.eq_1 (J @F122_59.eq_1 (J @F122_63.eq_1 (J @F122_66.eq_1 (J @F122_67.eq_1 (J @F122_68.eq_1 (J @F122_75.eq_1 (J @F122_78.eq_1 (J @F122_79.eq_1 (J @F122_80.eq_1 (J @F122_81.eq_1 (J @F122_94.eq_1 (J @F122_96.eq_1 (J @F122_97.eq_1 (@F122.eq_1)))))))))))))))))))))))
def W11Fd := J @F122_18.eq_1 (J @F122_21.eq_1 (J @F122_23.eq_1 (J @F122_24.eq_1 (J @F122_30.eq_1 (J @F122_44.eq_1 (J @F122_45.eq_1 (J @F122_54.eq_1 (J @F122_57.eq_1 (J @F122_58.eq_1 (J @F122_59.eq_1 (J @F122_63.eq_1 (J @F122_66.eq_1 (J @F122_67.eq_1 (J @F122_68.eq_1 (J @F122_75.eq_1 (J @F122_78.eq_1 (J @F122_79.eq_1 (J @F122_80.eq_1 (J @F122_81.eq_1 (J @F122_94.eq_1 (J @F122_95.eq_1 (J @F122_96.eq_1 (@F122.eq_1)))))))))))))))))))))))
set_option maxRecDepth 100000
def isR (v : V) (k x : Bs) : Bool := (textR v k).2 && (textR v k).1 == x
abbrev tkK : List Bs := [kT, kRoom, kSender, kStateKey]
abbrev tkX (room user : Bs) : List Bs := [kMember, room, user, user]
def tabOk (e : V) (ks xs : List Bs) : Bool := (ks.zip xs).all fun p => isR e p.1 p.2
def restT (e c : V) (room user to server : Bs) : AV :=
  if fitBad (textR c kMembership) to (idsV (getR e kPrev) 20) (idsV (getR e kAuth) 10) (intV (getR e kDepth)) = true then erT else if byBad c to server = true then erT else okT room user (intV (getR e kDepth)).1 (idsV (getR e kPrev) 20).1 (idsV (getR e kAuth) 10).1 c
theorem rt_tab {room user to server : Bs} {e c : V} {σ : Store} {i j h : Nat} {r : AV} (he : e.sz < lim) (hc : c.sz < lim) (h0 : (σ.next = i) = False) (h1 : (σ.next = h) = False)
    (h10 : look σ.m i = some (.own z20)) (h14 : look σ.m j = some (ownV e)) (h16 : look σ.m h = some (ownV c)) (hr : r = if tabOk e tkK (tkX room user) = true then restT e c room user to server else erT) :
    Ex ipU gU [.code F122_95] [(1, .str room), (2, .str user), (3, .str to), (4, .str server), (10, .ptr i 0), (14, .ptr j 0), (16, .ptr h 0)] σ
      fun fr' σ1 => (resAll fr' σ1 F122.res).bind (rbE σ1) = some r := by
  have heb : e.sz < big := by unfold lim at he; unfold big; omega
  have hcb : c.sz < big := by unfold lim at hc; unfold big; omega
  simp only [F122_18, F122_21, F122_23, F122_24, F122_30, F122_44, F122_54, F122_57, F122_58, F122_59, F122_63, F122_66, F122_67, F122_68, F122_75, F122_78, F122_79, F122_80, F122_94, F122_95, F122_96, F122_97, F122, ex_loop, EXA, Nat.reduceEqDiff, reduceIte, reduceCtorEq, Nat.reduceAdd, Nat.reduceLeDiff, Nat.reduceSub, Nat.reduceMul, Int.reduceEq, Int.reduceBEq, Int.reduceBNe, Int.reduceLT, Int.reduceLE, Nat.reduceLT, VX, readAt_some]
  refine ex_while (S := Nat) (fun t => [(1, .str room), (2, .str user), (3, .str to), (4, .str server), (10, .ptr i 0), (14, .ptr j 0), (16, .ptr h 0), (18, .vsl (tkK.map .str) (some 4)), (19, .vsl ((tkX room user).map .str) (some 4)), (20, .int .i64 (t : Int))]) (fun _ => σ) (fun t => 4 - t)
    (fun t => tabOk e (tkK.drop t) ((tkX room user).drop t) = tabOk e tkK (tkX room user)) ?_ 0 rfl
  intro b t ht ih
  by_cases hlt : t < 4
  · obtain ⟨k, hk⟩ := get_lt (l := tkK) (j := t) hlt
    obtain ⟨x, hx⟩ := get_lt (l := tkX room user) (j := t) hlt
    have hcond : decide ((t : Int) < 4) = true := by simp; omega
    have hw := wsucc hlt (by omega)
    have i1 : idxOf 1 none (.vsl [.str kT, .str kRoom, .str kSender, .str kStateKey] (some 4)) (.int .i64 (t : Int)) = some (.vptr [.str k] 0) := idx_str (c := some 4) hk
    have i2 : idxOf 1 none (.vsl [.str kMember, .str room, .str user, .str user] (some 4)) (.int .i64 (t : Int)) = some (.vptr [.str x] 0) := idx_str (c := some 4) hx
    have q := r_refTextAt e k heb
    rw [drop_cons hk, drop_cons hx] at ht
    have ht' : tabOk e tkK (tkX room user) = (isR e k x && tabOk e (tkK.drop (t + 1)) ((tkX room user).drop (t + 1))) := ht.symm
    unfold isR at ht'
    generalize textR e k = y at q ht'
    obtain ⟨y1, y2⟩ := y
    simp only at q ht'
    cases y2 with
    | false =>
      rw [Bool.false_and, Bool.false_and] at ht'
      rw [ht'] at hr
      simp only [Bool.false_eq_true, if_false] at hr
      simp only [W11Fb, EXA, Nat.reduceEqDiff, reduceIte, reduceCtorEq, Nat.reduceAdd, Nat.reduceLeDiff, Nat.reduceSub, Nat.reduceMul, Int.reduceEq, Int.reduceBEq, Int.reduceBNe, Int.reduceLT, Int.reduceLE, Nat.reduceLT, VX, readAt_some, hcond, i1, i2, q, h10, h14, hr]
      rfl
    | true =>
      rw [Bool.true_and] at ht'
      cases hy : y1 == x with
      | false =>
        rw [hy, Bool.false_and] at ht'
        rw [ht'] at hr
        simp only [Bool.false_eq_true, if_false] at hr
        simp only [W11Fb, EXA, Nat.reduceEqDiff, reduceIte, reduceCtorEq, Nat.reduceAdd, Nat.reduceLeDiff, Nat.reduceSub, Nat.reduceMul, Int.reduceEq, Int.reduceBEq, Int.reduceBNe, Int.reduceLT, Int.reduceLE, Nat.reduceLT, VX, readAt_some, hcond, i1, i2, q, h10, h14, hy, hr]
        rfl
      | true =>
        rw [hy, Bool.true_and] at ht'
        simp only [W11Fb, EXA, Nat.reduceEqDiff, reduceIte, reduceCtorEq, Nat.reduceAdd, Nat.reduceLeDiff, Nat.reduceSub, Nat.reduceMul, Int.reduceEq, Int.reduceBEq, Int.reduceBNe, Int.reduceLT, Int.reduceLE, Nat.reduceLT, VX, readAt_some, hcond, i1, i2, q, h10, h14, hy, hw]
        exact ih (t + 1) _ _ (by omega) ht'.symm rfl rfl
  · have hcond : decide ((t : Int) < 4) = false := by simp; omega
    have h4 : tabOk e (tkK.drop t) ((tkX room user).drop t) = true := by
      rw [List.drop_eq_nil_of_le (by show 4 ≤ t; omega)]; rfl
    rw [← ht, h4] at hr
    simp only [if_true] at hr
    have q1 := r_refTextAt c kMembership hcb
    have q2 := r_IDs e kPrev 20 he
    have q3 := r_IDs e kAuth 10 he
    have q4 := r_refIntAt e kDepth heb
    unfold restT at hr
    simp only [W11Fb, EXA, Nat.reduceEqDiff, reduceIte, reduceCtorEq, Nat.reduceAdd, Nat.reduceLeDiff, Nat.reduceSub, Nat.reduceMul, Int.reduceEq, Int.reduceBEq, Int.reduceBNe, Int.reduceLT, Int.reduceLE, Nat.reduceLT, VX, readAt_some, hcond, q1, q2, q3, q4, h14, h16]
    exact rt_fit hc h0 h1 h10 h16 hr
theorem rt_head {room user to server : Bs} {e c : V × Bool} {σ : Store} {i j h : Nat} {r : AV} (he : e.1.sz < lim) (hc : c.1.sz < lim) (h0 : (σ.next = i) = False) (h1 : (σ.next = h) = False)
    (h10 : look σ.m i = some (.own z20)) (h14 : look σ.m j = some (ownV e.1)) (h16 : look σ.m h = some (ownV c.1))
    (hr : r = if ((((!e.2) || !c.2) || (e.1.kind != 5)) || (c.1.kind != 5)) = true then erT else if tabOk e.1 tkK (tkX room user) = true then restT e.1 c.1 room user to server else erT) :
    Ex ipU gU [.code F122_97] [(1, .str room), (2, .str user), (3, .str to), (4, .str server), (10, .ptr i 0), (14, .ptr j 0), (15, .bool e.2), (16, .ptr h 0), (17, .bool c.2)] σ
      fun fr' σ1 => (resAll fr' σ1 F122.res).bind (rbE σ1) = some r := by
  have e1 : ∀ K fr Q, Ex ipU gU (.code F122_97 :: K) fr σ Q ↔ Ex ipU gU (.code F122_23 :: .code F122_96 :: K) fr σ Q := fun K fr Q => by rw [F122_97, ex_seq]
  rw [e1, ex_chain (P := F122_23) (reg := F122_18) (L := [1, 2, 3, 4, 10, 14, 16, 82]) (Q' := F122_21) rfl rfl, ra1, ra2, ra3 (e := e.1) h14, ra4 (c' := c.1) h16]
  generalize ((((!e.2) || !c.2) || (e.1.kind != 5)) || (c.1.kind != 5)) = w at hr ⊢
  cases w with
  | true =>
    simp only [if_true] at hr
    simp only [raT, opsOf, W11Fc, EXA, Nat.reduceEqDiff, reduceIte, reduceCtorEq, Nat.reduceAdd, Nat.reduceLeDiff, Nat.reduceSub, Nat.reduceMul, Int.reduceEq, Int.reduceBEq, Int.reduceBNe, Int.reduceLT, Int.reduceLE, Nat.reduceLT, VX, readAt_some, h10, h16, hr]
    rfl
  | false =>
    simp only [Bool.false_eq_true, if_false] at hr
    simp only [raT, opsOf, W11Fc, EXA, Nat.reduceEqDiff, reduceIte, reduceCtorEq, Nat.reduceAdd, Nat.reduceLeDiff, Nat.reduceSub, Nat.reduceMul, Int.reduceEq, Int.reduceBEq, Int.reduceBNe, Int.reduceLT, Int.reduceLE, Nat.reduceLT, VX, readAt_some]
    exact rt_tab he hc h0 h1 h10 h14 h16 hr
def takeR (v : V) (room user to server : Bs) : AV :=
  if ((v.kind != 5) || !v.good) = true then .tup [evE Ev.zero, .int .i64 1] else if isR v kVersion sTen = false then .tup [evE Ev.zero, .int .i64 15] else
  if ((((!(getR v kEvent).2) || !(getR (getR v kEvent).1 kContent).2) || ((getR v kEvent).1.kind != 5)) || ((getR (getR v kEvent).1 kContent).1.kind != 5)) = true then erT
  else if tabOk (getR v kEvent).1 tkK (tkX room user) = true then restT (getR v kEvent).1 (getR (getR v kEvent).1 kContent).1 room user to server else erT
theorem r_refTake (v : V) (room user to server : Bs) (hb : v.sz < lim) : cR 122 [v.enc, .str room, .str user, .str to, .str server] = some (takeR v room user to server) := by
  have hbb : v.sz < big := by unfold lim at hb; unfold big; omega
  have hg := r_refGood v hbb
  have hv := r_refTextAt v kVersion hbb
  have z1 := getR_sz v kEvent
  have z2 := getR_sz (getR v kEvent).1 kContent
  have q1 := r_refGet v kEvent hbb
  have q2 := r_refGet (getR v kEvent).1 kContent (by omega)
  obtain ⟨r, hr⟩ : ∃ r, r = takeR v room user to server := ⟨_, rfl⟩
  rw [← hr]
  unfold takeR at hr
  refine cR_of (F := F122) rfl ?_
  cases h5 : v.kind != 5 with
  | true =>
    rw [h5, Bool.true_or] at hr
    simp only [if_true] at hr
    simp only [W11Fd, EXA, Nat.reduceEqDiff, reduceIte, reduceCtorEq, Nat.reduceAdd, Nat.reduceLeDiff, Nat.reduceSub, Nat.reduceMul, Int.reduceEq, Int.reduceBEq, Int.reduceBNe, Int.reduceLT, Int.reduceLE, Nat.reduceLT, VX, readAt_some, h5, hr, evE_zero]
  | false =>
    rw [h5, Bool.false_or] at hr
    cases hgd : v.good with
    | false =>
      rw [hgd] at hg hr
      simp only [Bool.not_false, if_true] at hr
      simp only [W11Fd, EXA, Nat.reduceEqDiff, reduceIte, reduceCtorEq, Nat.reduceAdd, Nat.reduceLeDiff, Nat.reduceSub, Nat.reduceMul, Int.reduceEq, Int.reduceBEq, Int.reduceBNe, Int.reduceLT, Int.reduceLE, Nat.reduceLT, VX, readAt_some, h5, hg, hr, evE_zero]
    | true =>
      rw [hgd] at hg hr
      simp only [Bool.not_true, Bool.false_eq_true, if_false] at hr
      unfold isR at hr
      generalize textR v kVersion = y at hv hr
      obtain ⟨y1, y2⟩ := y
      simp only at hv hr
      cases y2 with
      | false =>
        rw [Bool.false_and] at hr
        simp only [if_true] at hr
        simp only [W11Fd, EXA, Nat.reduceEqDiff, reduceIte, reduceCtorEq, Nat.reduceAdd, Nat.reduceLeDiff, Nat.reduceSub, Nat.reduceMul, Int.reduceEq, Int.reduceBEq, Int.reduceBNe, Int.reduceLT, Int.reduceLE, Nat.reduceLT, VX, readAt_some, h5, hg, hv, hr, evE_zero]
      | true =>
        rw [Bool.true_and] at hr
        cases hy : y1 == sTen with
        | false =>
          rw [hy] at hr
          simp only [if_true] at hr
          simp only [W11Fd, EXA, Nat.reduceEqDiff, reduceIte, reduceCtorEq, Nat.reduceAdd, Nat.reduceLeDiff, Nat.reduceSub, Nat.reduceMul, Int.reduceEq, Int.reduceBEq, Int.reduceBNe, Int.reduceLT, Int.reduceLE, Nat.reduceLT, VX, readAt_some, h5, hg, hv, hy, hr, evE_zero]
        | true =>
          rw [hy] at hr
          simp only [Bool.true_eq_false, if_false] at hr
          generalize getR v kEvent = e at *
          generalize getR e.1 kContent = c at *
          simp only [W11Fd, EXA, Nat.reduceEqDiff, reduceIte, reduceCtorEq, Nat.reduceAdd, Nat.reduceLeDiff, Nat.reduceSub, Nat.reduceMul, Int.reduceEq, Int.reduceBEq, Int.reduceBNe, Int.reduceLT, Int.reduceLE, Nat.reduceLT, VX, readAt_some, h5, hg, hv, hy, q1, q2]
          refine rt_head (e := e) (c := c) (by omega) (by omega) (by simp) (by simp) rfl rfl rfl hr
end Go.Ab
/- What the program's Take and the document's tell is one. -/
namespace Go.Ab
set_option maxHeartbeats 1000000
set_option maxRecDepth 100000
theorem lookM_absent {k : Bs} : ∀ {m : List Mem}, (∀ e ∈ m, e.1 ≠ k) → lookM m k = none
  | [], _ => rfl
  | x :: r, h => by
    rw [lookM, if_neg (h x (by simp))]
    exact lookM_absent fun e he => h e (by simp [he])
theorem bl_ne {a b : Bs} (h : bytesLess a b = true) : b ≠ a := fun e => by subst e; rw [bl_irrefl] at h; cases h
theorem rises_absent {x : Mem} {r : List Mem} (h : Rises (x :: r)) {k : Bs} (hk : k = x.1 ∨ bytesLess k x.1 = true) : lookM r k = none := by
  refine lookM_absent fun e he => ?_
  have h1 : bytesLess x.1 e.1 = true := (List.pairwise_cons.1 h).1 e he
  rcases hk with rfl | hk
  · exact bl_ne h1
  · exact bl_ne (bl_trans hk h1)
def optM (k : Bs) : Option V → List Mem
  | some x => [(k, x)]
  | none => []
theorem filter_two : ∀ {m : List Mem}, Rises m → m.filter (fun x => hasS [kMembership, kAuthd] x.1 == true) = optM kAuthd (lookM m kAuthd) ++ optM kMembership (lookM m kMembership)
  | [], _ => rfl
  | (k, v) :: r, h => by
    have ih := filter_two (List.pairwise_cons.1 h).2
    have hAM : bytesLess kAuthd kMembership = true := by decide
    by_cases hA : k = kAuthd
    · subst hA
      have n1 := rises_absent h (k := kAuthd) (.inl rfl)
      rw [n1] at ih
      rw [List.filter_cons_of_pos (by simp [hasS]), ih, lookM, if_pos rfl, lookM, if_neg (show ¬ kAuthd = kMembership by decide)]
      rfl
    · by_cases hM : k = kMembership
      · subst hM
        have n1 := rises_absent h (k := kMembership) (.inl rfl)
        have n2 := rises_absent h (k := kAuthd) (.inr hAM)
        rw [n1, n2] at ih
        rw [List.filter_cons_of_pos (by simp [hasS]), ih, lookM, if_neg hA, lookM, if_pos rfl, n2]
        rfl
      · have : ¬ ((fun x : Mem => hasS [kMembership, kAuthd] x.1 == true) (k, v)) = true := by
          simp only [hasS, beq_iff_eq]
          simp [hA, hM]
        rw [List.filter_cons_of_neg (p := fun x : Mem => hasS [kMembership, kAuthd] x.1 == true) (a := (k, v)) (l := r) this, ih, lookM, if_neg hA, lookM, if_neg hM]
theorem text_fine {v : V} (hf : v.fine = true) (h3 : v.kind = 3) : v = tV3 v.s := by
  rw [V.fine_eq, h3] at hf
  simp [V.bare, V.n, V.l, V.m, V.s] at hf
  obtain ⟨k, n, s, l, m⟩ := v
  simp only [V.kind, V.n, V.s, V.l, V.m] at *
  unfold tV3
  simp_all
theorem keep_content {c : V} (hf : c.fine = true) (h5 : c.kind = 5) {x : V} {by_ : Bs} (hm : lookM c.m kMembership = some x) (hx : x.kind = 3)
    (ha : (lookM c.m kAuthd = none ∧ by_ = []) ∨ ∃ y, lookM c.m kAuthd = some y ∧ y.kind = 3 ∧ y.s = by_ ∧ by_ ≠ []) : keepV c [kMembership, kAuthd] true = contentP x.s by_ := by
  have hr := fine_rises h5 hf
  have fm : ∀ {k : Bs} {y : V}, lookM c.m k = some y → y.fine = true := fun {k y} h => by
    obtain ⟨e, he, rfl⟩ := lookM_mem h
    exact (fineM_mem (fine_m h5 hf) e he).1
  unfold keepV
  rw [if_pos h5, filter_two hr, hm, content_eq]
  have ex := text_fine (fm hm) hx
  congr 1
  rcases ha with ⟨h1, rfl⟩ | ⟨y, h1, h2, rfl, h3⟩
  · rw [h1]
    unfold contentL
    rw [if_pos rfl, ← ex]; rfl
  · rw [h1]
    unfold contentL
    rw [if_neg h3, ← ex, ← text_fine (fm h1) h2]
    rfl
end Go.Ab
/- The two Takes are one. -/
namespace Go.Ab
set_option maxHeartbeats 1000000
set_option maxRecDepth 100000
theorem idsF_len : ∀ {l : List V} {acc ids : List Bs}, idsF l acc = some ids → ids.length = acc.length + l.length
  | [], acc, ids, h => by simp only [idsF, Option.some.injEq] at h; subst h; simp
  | x :: l, acc, ids, h => by
    rw [idsF] at h
    split at h
    · rw [idsF_len h]; simp; omega
    · cases h
theorem getR_kind {v : V} {k : Bs} (h : (getR v k).2 = false) : (getR v k).1 = V.zero := by
  unfold getR at h ⊢
  by_cases h5 : v.kind = 5
  · rw [if_pos h5] at h ⊢
    cases hl : lookM v.m k with
    | none => rfl
    | some x => rw [hl] at h; cases h
  · rw [if_neg h5]
theorem dneg1 (n : Nat) : decide (1 ≤ n) = !decide ((n : Int) < 1) := by
  by_cases h : 1 ≤ n
  · rw [decide_eq_true h, decide_eq_false (by omega)]; rfl
  · rw [decide_eq_false h, decide_eq_true (by omega)]; rfl
theorem events_ids {v : V} (k : Bs) (max : Int) (hf : v.fine = true) : (eventsV v k max).2 = ((idsV (getR v k) max).2 && !decide (((idsV (getR v k) max).1.length : Int) < 1)) ∧ ((eventsV v k max).2 = true → (eventsV v k max).1 = (idsV (getR v k) max).1) := by
  unfold eventsV idsV
  rw [← getR_fine k hf]
  have hz := getR_kind (v := v) (k := k)
  generalize getR v k = g at *
  obtain ⟨g, b⟩ := g
  simp only at hz ⊢
  cases hi : idsF g.l [] with
  | none => simp
  | some ids =>
    have hl := idsF_len hi
    simp only [List.length_nil, Nat.zero_add] at hl
    simp only
    cases b with
    | false =>
      have := hz rfl
      subst this
      simp [V.zero, V.kind]
    | true =>
      by_cases h4 : g.kind = 4
      · by_cases hm : (g.l.length : Int) ≤ max
        · have hd := dneg1 ids.length
          have hm' : decide ((ids.length : Int) ≤ max) = true := by rw [hl]; simpa using hm
          rw [if_pos ⟨rfl, h4, hm⟩]
          simp only [h4, hm', hd, beq_self_eq_true, Bool.true_and, Bool.and_true]
          exact ⟨trivial, fun _ => trivial⟩
        · simp [h4, hm, hl]
      · simp [h4]
theorem by_bad {c : V} (to server : Bs) (hf : c.fine = true) : (byP c to server).2 = !byBad c to server ∧ ((byP c to server).2 = true → ((getR c kAuthd).2 = false ∧ (byP c to server).1 = []) ∨ ((getR c kAuthd).2 = true ∧ (getR c kAuthd).1.kind = 3 ∧ (getR c kAuthd).1.s = (byP c to server).1 ∧ (byP c to server).1 ≠ [])) := by
  unfold byP byBad textAt
  rw [← getR_fine kAuthd hf]
  generalize getR c kAuthd = g
  obtain ⟨g, b⟩ := g
  cases b with
  | false => simp
  | true =>
    have p0 : (partsB [] 64).2.2 = false := rfl
    by_cases h3 : g.kind = 3
    · simp only [h3, Bool.true_and, beq_self_eq_true, if_true]
      refine ⟨?_, fun h => .inr ⟨trivial, trivial, trivial, fun hs => ?_⟩⟩
      · cases to == kJoin4 <;> cases (partsB g.s 64).2.2 <;> cases (partsB g.s 64).2.1 == server <;> simp
      · rw [hs] at h
        simp [p0] at h
    · have : (g.kind == 3) = false := by simp [h3]
      have h3' : (g.kind != 3) = true := by simp [h3]
      simp [this, h3', p0]
theorem tabOk_eq (e : V) (room user : Bs) : tabOk e tkK (tkX room user) = (isR e kT kMember && (isR e kRoom room && (isR e kSender user && isR e kStateKey user))) := by
  show (isR e kT kMember && (isR e kRoom room && (isR e kSender user && (isR e kStateKey user && true)))) = _
  rw [Bool.and_true]
theorem isV_R {v : V} (k x : Bs) (hf : v.fine = true) : isV v k x = isR v k x := by unfold isV isR; rw [textR_fine k hf]
theorem chain_bool (e2 ke c2 kc b p pl a al d dn t1 t2 t3 t4 m1 m2 : Bool) :
    (((((((((((!(e2 && ke) || !(c2 && kc)) || !(!b)) || !(p && !pl)) || !(a && !al)) || !d) || dn) || !t1) || !t2) || !t3) || !t4) || !(m2 && m1)) =
    (((((!e2) || !c2) || !ke) || !kc) || (!(t1 && (t2 && (t3 && t4))) || ((((((((!m2) || !m1) || !p) || !a) || !d) || dn) || pl) || al || b))) := by
  cases e2 <;> cases c2 <;> cases ke <;> cases kc <;> (try rfl) <;> cases b <;> cases p <;> cases a <;> cases pl <;> cases al <;> (try rfl) <;> (revert d dn t1 t2 t3 t4 m1 m2; decide)
theorem take_eq (v : V) (room user to server : Bs) : (AV.tup [evE (takeP v room user to server).1, .int .i64 (takeP v room user to server).2]) = takeR v room user to server := by
  unfold takeP takeR
  rw [Bool.or_comm]
  by_cases h1 : ((v.kind != 5) || !v.good) = true
  · rw [if_pos h1, if_pos h1]
  rw [if_neg h1, if_neg h1]
  have hg : v.good = true := by
    cases h : v.good with
    | true => rfl
    | false => rw [h] at h1; simp at h1
  have hf : v.fine = true := by unfold V.good at hg; simp at hg; exact hg.1
  rw [isV_R _ _ hf]
  by_cases h2 : isR v kVersion sTen = false
  · rw [if_pos h2, if_pos h2]
  rw [if_neg h2, if_neg h2]
  have f1 := getR_fineV kEvent hf
  have f2 := getR_fineV kContent f1
  have e1 : tabV v kEvent = ((getR v kEvent).1, (getR v kEvent).2 && (getR v kEvent).1.kind == 5) := by unfold tabV; rw [getR_fine kEvent hf]
  rw [e1]
  simp only
  generalize getR v kEvent = e at *
  have e2 : tabV e.1 kContent = ((getR e.1 kContent).1, (getR e.1 kContent).2 && (getR e.1 kContent).1.kind == 5) := by unfold tabV; rw [getR_fine kContent f1]
  rw [e2]
  simp only
  generalize getR e.1 kContent = c at *
  obtain ⟨b1, b2⟩ := by_bad (c := c.1) to server f2
  obtain ⟨p1, p2⟩ := events_ids kPrev 20 f1
  obtain ⟨a1, a2⟩ := events_ids kAuth 10 f1
  rw [isV_R _ _ f1, isV_R _ _ f1, isV_R _ _ f1, isV_R _ _ f1, isV_R _ _ f2, ← getR_fine kDepth f1, tabOk_eq]
  have hW := chain_bool e.2 (e.1.kind == 5) c.2 (c.1.kind == 5) (byBad c.1 to server) (idsV (getR e.1 kPrev) 20).2 (decide (((idsV (getR e.1 kPrev) 20).1.length : Int) < 1)) (idsV (getR e.1 kAuth) 10).2 (decide (((idsV (getR e.1 kAuth) 10).1.length : Int) < 1)) (intV (getR e.1 kDepth)).2 (decide ((intV (getR e.1 kDepth)).1 < 0))
    (isR e.1 kT kMember) (isR e.1 kRoom room) (isR e.1 kSender user) (isR e.1 kStateKey user) ((textR c.1 kMembership).1 == to) (textR c.1 kMembership).2
  have hm : isR c.1 kMembership to = ((textR c.1 kMembership).2 && (textR c.1 kMembership).1 == to) := rfl
  have n1 : (e.1.kind != 5) = !(e.1.kind == 5) := rfl
  have n2 : (c.1.kind != 5) = !(c.1.kind == 5) := rfl
  have hF : fitBad (textR c.1 kMembership) to (idsV (getR e.1 kPrev) 20) (idsV (getR e.1 kAuth) 10) (intV (getR e.1 kDepth)) = ((((((((!(textR c.1 kMembership).2) || !((textR c.1 kMembership).1 == to)) || !(idsV (getR e.1 kPrev) 20).2) || !(idsV (getR e.1 kAuth) 10).2) || !(intV (getR e.1 kDepth)).2) || decide ((intV (getR e.1 kDepth)).1 < 0)) || decide (((idsV (getR e.1 kPrev) 20).1.length : Int) < 1)) || decide (((idsV (getR e.1 kAuth) 10).1.length : Int) < 1)) := rfl
  unfold restT
  rw [n1, n2, p1, a1, b1, hm, hW, ← hF]
  have okw : ∀ {P : Bool} {x y : Ev × Int}, P = true → (if P = true then x else y) = x := fun h => if_pos h
  cases hA : (((!e.2) || !c.2) || !(e.1.kind == 5)) || !(c.1.kind == 5) with
  | true => rw [Bool.true_or]; rfl
  | false =>
    cases hT : (isR e.1 kT kMember && (isR e.1 kRoom room && (isR e.1 kSender user && isR e.1 kStateKey user))) with
    | false => rfl
    | true =>
      cases hFF : fitBad (textR c.1 kMembership) to (idsV (getR e.1 kPrev) 20) (idsV (getR e.1 kAuth) 10) (intV (getR e.1 kDepth)) with
      | true => rfl
      | false =>
        cases hB : byBad c.1 to server with
        | true => rfl
        | false =>
          rw [hF] at hFF
          simp only [Bool.or_eq_false_iff, Bool.not_eq_false'] at hFF hA
          obtain ⟨⟨⟨⟨⟨⟨⟨g1, g2⟩, g3⟩, g4⟩, g5⟩, g6⟩, g7⟩, g8⟩ := hFF
          have k5 : c.1.kind = 5 := by simpa using hA.2
          have hp := p2 (by rw [p1, g3, g7]; rfl)
          have ha := a2 (by rw [a1, g4, g8]; rfl)
          have hb := b2 (by rw [b1, hB]; rfl)
          have hto : (textR c.1 kMembership).1 = to := by simpa using g2
          have look : ∀ {k : Bs}, (getR c.1 k).2 = true → lookM c.1.m k = some (getR c.1 k).1 := fun {k} h => by
            unfold getR at h ⊢
            rw [if_pos k5] at h ⊢
            cases hl : lookM c.1.m k with
            | none => rw [hl] at h; cases h
            | some x => rfl
          have look0 : ∀ {k : Bs}, (getR c.1 k).2 = false → lookM c.1.m k = none := fun {k} h => by
            unfold getR at h
            rw [if_pos k5] at h
            cases hl : lookM c.1.m k with
            | none => rfl
            | some x => rw [hl] at h; cases h
          have hm2 : ((getR c.1 kMembership).2 = true ∧ (getR c.1 kMembership).1.kind = 3) ∧ (getR c.1 kMembership).1.s = to := by
            unfold textR at g1 hto
            split at g1
            · rename_i h
              rw [if_pos h] at hto
              simp only [Bool.and_eq_true, beq_iff_eq] at h
              exact ⟨h, hto⟩
            · cases g1
          have hkc := keep_content f2 k5 (look hm2.1.1) hm2.1.2 (by_ := (byP c.1 to server).1) (by
            rcases hb with ⟨h, h'⟩ | ⟨h, h3, hs, hn⟩
            · exact .inl ⟨look0 h, h'⟩
            · exact .inr ⟨_, look h, h3, hs, hn⟩)
          rw [hm2.2] at hkc
          simp only [Bool.false_or, Bool.not_true, Bool.false_eq_true, if_false, if_true]
          unfold okT
          rw [hkc, hp, ha]
end Go.Ab
/- What the document tells of a draft: it is so. -/
namespace Go.Ab
set_option maxHeartbeats 1000000
set_option maxRecDepth 100000
theorem r_awake27 : cR 115 [] = some (.bool true) := cR_closed 100000 (by kernel_rfl)
end Go.Ab
/- TmplDrafts: true of any state and any names. -/
namespace Go.Ab
set_option maxHeartbeats 1000000
set_option maxRecDepth 100000
structure Nms where
  room : Bs
  sender : Bs
  key : Bs
  to : Bs
  by_ : Bs
def nmsE (n : Nms) : AV := .agg [.str n.room, .str n.sender, .str n.key, .str n.to, .str n.by_]
end Go.Ab
/- TmplTakes: true. -/
namespace Go.Ab
set_option maxHeartbeats 1000000
def W14Fa := @F120.eq_1
set_option maxRecDepth 100000
theorem events_len (v : V) (k : Bs) (max : Int) : (eventsV v k max).1.length ≤ v.sz := by
  unfold eventsV
  have := getV_sz v k
  have := l_len_sz (getV v k).1
  cases hi : idsF (getV v k).1.l [] with
  | none => simp
  | some ids =>
    have hl := idsF_len hi
    simp only [List.length_nil, Nat.zero_add] at hl
    simp only; omega
theorem take_sz (v : V) (room user to server : Bs) (hv : v.sz ≤ 1048576) (ht : to.length ≤ 1048576) : (takeP v room user to server).1.v.sz = 1 ∧ (takeP v room user to server).1.content.sz ≤ 2200000 ∧ (takeP v room user to server).1.prev.length ≤ 1048576 ∧ (takeP v room user to server).1.auth.length ≤ 1048576 := by
  have z1 := tabV_sz v kEvent
  have z2 := tabV_sz (tabV v kEvent).1 kContent
  have e1 := events_len (tabV v kEvent).1 kPrev 20
  have e2 := events_len (tabV v kEvent).1 kAuth 10
  have hby : (byP (tabV (tabV v kEvent).1 kContent).1 to server).1.length ≤ 1048576 := by
    unfold byP
    have := textAt_len (tabV (tabV v kEvent).1 kContent).1 kAuthd
    split
    · simp only; omega
    · simp
  have hc := contentP_sz to (byP (tabV (tabV v kEvent).1 kContent).1 to server).1
  have h0 : Ev.zero.v.sz = 1 ∧ Ev.zero.content.sz ≤ 2200000 ∧ Ev.zero.prev.length ≤ 1048576 ∧ Ev.zero.auth.length ≤ 1048576 := by decide
  unfold takeP
  split
  · exact h0
  · split
    · exact h0
    · simp only
      split
      · exact h0
      · refine ⟨rfl, ?_, ?_, ?_⟩
        · show (contentP to _).sz ≤ _; omega
        · show (eventsV _ kPrev 20).1.length ≤ _; omega
        · show (eventsV _ kAuth 10).1.length ≤ _; omega
theorem r_TmplTakes (v : V) (n : Nms) (server : Bs) (h1 : v.sz ≤ 1048576) (h2 : n.room.length + n.sender.length + n.key.length + n.to.length + n.by_.length ≤ 1048576) (h3 : server.length ≤ 1048576) :
    cR 120 [v.enc, nmsE n, .str server] = some (.bool true) := by
  have c24 := r_lightV v 3000 (by unfold big; omega)
  have c121 := r_Take v n.room n.sender n.to server (by unfold lim; omega)
  have c122 := r_refTake v n.room n.sender n.to server (by unfold lim; omega)
  rw [← take_eq] at c122
  obtain ⟨s1, s2, s3, s4⟩ := take_sz v n.room n.sender n.to server h1 (by omega)
  generalize takeP v n.room n.sender n.to server = T at c121 c122 s1 s2 s3 s4
  obtain ⟨T, e⟩ := T
  simp only at c121 c122 s1 s2 s3 s4
  have c11 := r_sameEvent T (by unfold big; omega) (by unfold big; omega) (by unfold big; omega) (by unfold big; omega)
  have w1 : IntKind.wrap .i64 ((n.room.length : Int) + (n.sender.length : Int)) = ((n.room.length + n.sender.length : Nat) : Int) := wadd (by omega)
  have w2 : IntKind.wrap .i64 (((n.room.length + n.sender.length : Nat) : Int) + (n.to.length : Int)) = ((n.room.length + n.sender.length + n.to.length : Nat) : Int) := wadd (by omega)
  have w3 : IntKind.wrap .i64 (((n.room.length + n.sender.length + n.to.length : Nat) : Int) + (server.length : Int)) = ((n.room.length + n.sender.length + n.to.length + server.length : Nat) : Int) := wadd (by omega)
  refine cR_of (F := F120) rfl ?_
  obtain ⟨r, hr⟩ : ∃ r, r = AV.bool true := ⟨_, rfl⟩
  rw [← hr]
  unfold nmsE
  cases hl2 : lightV v 3000 with
  | false =>
    rw [hl2] at c24
    simp only [W14Fa, EXA, Nat.reduceEqDiff, reduceIte, reduceCtorEq, Nat.reduceAdd, Nat.reduceLeDiff, Nat.reduceSub, Nat.reduceMul, Int.reduceEq, Int.reduceBEq, Int.reduceBNe, Int.reduceLT, Int.reduceLE, Nat.reduceLT, VX, readAt_some, r_awake27, c24, hr]
  | true =>
  rw [hl2] at c24
  cases hg : decide (((n.room.length + n.sender.length + n.to.length + server.length : Nat) : Int) > 1500) with
  | true =>
    simp only [W14Fa, EXA, Nat.reduceEqDiff, reduceIte, reduceCtorEq, Nat.reduceAdd, Nat.reduceLeDiff, Nat.reduceSub, Nat.reduceMul, Int.reduceEq, Int.reduceBEq, Int.reduceBNe, Int.reduceLT, Int.reduceLE, Nat.reduceLT, VX, readAt_some, r_awake27, c24, w1, w2, w3, hg, hr]
  | false =>
    have he : (e == e) = true := by simp
    simp only [W14Fa, EXA, Nat.reduceEqDiff, reduceIte, reduceCtorEq, Nat.reduceAdd, Nat.reduceLeDiff, Nat.reduceSub, Nat.reduceMul, Int.reduceEq, Int.reduceBEq, Int.reduceBNe, Int.reduceLT, Int.reduceLE, Nat.reduceLT, VX, readAt_some, r_awake27, c24, w1, w2, w3, hg, c121, c122, he, evE_eta0, c11, hr]
end Go.Ab
