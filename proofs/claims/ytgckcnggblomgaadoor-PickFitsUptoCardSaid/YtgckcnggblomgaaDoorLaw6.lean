/- What functions of the program, and of the library, answer. Conditions: none. -/
import Derived.Test.YtgckcnggblomgaaDoorLaw5
set_option linter.unusedVariables false
set_option linter.unusedSimpArgs false
set_option linter.defProp false
/- What an event needs. -/
namespace Go.Ab
set_option linter.unusedSimpArgs false
set_option maxHeartbeats 1000000
set_option maxRecDepth 100000
def addT (l : List Slt) (s : Slt) : List Slt := if hasT l s then l else l ++ [s]
/-- Block b holds a slice of slots. -/
def NSt (σ : Store) (b : Nat) (l : List Slt) : Prop := ∃ v, look σ.m b = some (.own [v]) ∧ Gr LSlt σ v l ∧ b < σ.next ∧ (∀ len sz c, v ≠ .sl b 0 len sz c)
theorem c_more (σ : Store) (b : Nat) (l : List Slt) (s : Slt) (h : NSt σ b l) (hl : l.length < lim) : ∃ σ', callS ipU gU (.fn 27 [] [.ptr b 0]) [sltE s] σ = some (.tup [], σ') ∧ NSt σ' b (addT l s) := by
  unfold lim at hl
  obtain ⟨v, h1, h2, h3, h4⟩ := h
  have hcall : callP ipU gU false (.fn 37 [] []) [v, sltE s] σ = some (.bool (hasT l s), σ) := h2.call1 (by simp only [closedL, sltE_closed, Bool.and_self]) (by simp only [erL, sltE_er]; exact r_containsT l s (by unfold big; omega)) rfl
  cases hh : hasT l s with
  | true =>
    rw [hh] at hcall
    refine ⟨σ, ?_, v, h1, by simpa [addT, hh] using h2, h3, h4⟩
    refine callS_of (F := F27) rfl (first := []) (caps := [.ptr b 0]) ?_
    simp only [F27_0, F27_1, F27_2, F27_3, F27_4, F27_5, F27_6, F27_7, F27, EX0, EX1, EX2, EX3, EX4, EX5, if_true, if_false, implies_true, forall_const, ne_eq, Nat.reduceEqDiff, reduceIte, reduceCtorEq, Nat.reduceAdd, Nat.reduceLeDiff, Nat.reduceSub, Nat.reduceMul, Int.reduceEq, Int.reduceBEq, Int.reduceBNe, Int.reduceLT, Int.reduceLE, Nat.reduceLT, VX, readAt_some, h1, Slt.eta, hcall]
  | false =>
    rw [hh] at hcall
    have happ : appendTo σ 2 32 v [.str s.type, .str s.key] 1 = some _ := h2.push (a := s) (bytes := 32) (by omega) (by unfold maxBytes; omega)
    have hget : look (grNext LSlt σ v l [s]).m b = some (.own [v]) := by
      have := grNext_get (m := [s]) h2 h3 h4
      exact this.trans h1
    have hnx := grNext_next LSlt σ v l [s]
    have hgn := h2.next (m := [s]) (by simp)
    have hlo : lenOf (.vsl [sltE s] (some 1)) = some 1 := rfl
    have hro : ∀ σ', rowOf σ' 2 (.vsl [sltE s] (some 1)) = some [.str s.type, .str s.key] := fun _ => rfl
    refine ⟨{ next := (grNext LSlt σ v l [s]).next, m := (b, .own [.sl σ.next 0 (l ++ [s]).length 2 none]) :: (grNext LSlt σ v l [s]).m }, ?_, .sl σ.next 0 (l ++ [s]).length 2 none, by simp [look], ?_, ?_, ?_⟩
    · refine callS_of (F := F27) rfl (first := []) (caps := [.ptr b 0]) ?_
      simp only [F27_0, F27_1, F27_2, F27_3, F27_4, F27_5, F27_6, F27_7, F27, EX0, EX1, EX2, EX3, EX4, EX5, if_true, if_false, implies_true, forall_const, ne_eq, Nat.reduceEqDiff, reduceIte, reduceCtorEq, Nat.reduceAdd, Nat.reduceLeDiff, Nat.reduceSub, Nat.reduceMul, Int.reduceEq, Int.reduceBEq, Int.reduceBNe, Int.reduceLT, Int.reduceLE, Nat.reduceLT, VX, readAt_some, h1, Slt.eta, hcall, hlo, hro, happ, hget]
      rfl
    · have e : addT l s = l ++ [s] := by simp [addT, hh]
      rw [e]
      exact Gr.own (L := LSlt) (hgn.frame (by show look ((b, _) :: _) σ.next = look _ σ.next; simp only [look]; rw [if_neg (by omega)]) (Nat.le_refl _))
    · show b < (grNext LSlt σ v l [s]).next; omega
    · intro len sz c hv
      simp only [AV.sl.injEq] at hv
      omega
abbrev kCreate : Bs := [109, 46, 114, 111, 111, 109, 46, 99, 114, 101, 97, 116, 101]
abbrev kPower : Bs := [109, 46, 114, 111, 111, 109, 46, 112, 111, 119, 101, 114, 95, 108, 101, 118, 101, 108, 115]
abbrev kMember : Bs := [109, 46, 114, 111, 111, 109, 46, 109, 101, 109, 98, 101, 114]
abbrev kJoins : Bs := [109, 46, 114, 111, 111, 109, 46, 106, 111, 105, 110, 95, 114, 117, 108, 101, 115]
abbrev kThirdInv : Bs := [109, 46, 114, 111, 111, 109, 46, 116, 104, 105, 114, 100, 95, 112, 97, 114, 116, 121, 95, 105, 110, 118, 105, 116, 101]
abbrev kJoin : Bs := [106, 111, 105, 110]
abbrev kInvite : Bs := [105, 110, 118, 105, 116, 101]
abbrev kKnock : Bs := [107, 110, 111, 99, 107]
def addIf (c : Bool) (l : List Slt) (s : Slt) : List Slt := if c then addT l s else l
def base3 (e : Ev) : List Slt := [⟨kCreate, []⟩, ⟨kPower, []⟩, ⟨kMember, e.sender⟩]
def needs (e : Ev) : List Slt :=
  if e.type == kCreate then [] else if !(e.type == kMember) then base3 e else
  let l1 := addT (base3 e) ⟨kMember, e.key⟩
  let to := membershipV e.content
  let l2 := addIf (to == kJoin || (to == kInvite || to == kKnock)) l1 ⟨kJoins, []⟩
  let l3 := addIf ((thirdV e.content).2.2 && to == kInvite) l2 ⟨kThirdInv, (thirdV e.content).1⟩
  addIf ((authV e.content).2 && to == kJoin) l3 ⟨kMember, (authV e.content).1⟩
theorem addT_len (l : List Slt) (s : Slt) : (addT l s).length ≤ l.length + 1 := by
  unfold addT; split <;> simp
theorem addIf_len (c : Bool) (l : List Slt) (s : Slt) : (addIf c l s).length ≤ l.length + 1 := by
  unfold addIf; split
  · exact addT_len l s
  · omega
theorem NSt.rbE {σ : Store} {b : Nat} {l : List Slt} (h : NSt σ b l) : ∃ v, look σ.m b = some (.own [v]) ∧ rbE σ v = some (.vsl (l.map sltE) none) := by
  obtain ⟨v, h1, h2, _⟩ := h
  exact ⟨v, h1, h2.rbE⟩
/-- What stands ahead of each stage. -/
def fr4 (e : Ev) (m : Bs) : Fr := [(1, .vptr (evE e).cells 0), (3, .ptr 0 0), (4, .fn 27 [] [.ptr 0 0]), (5, .str m)]
theorem nd_end {σ : Store} {l : List Slt} {r : AV} (h : NSt σ 0 l) (hr : r = .vsl (l.map sltE) none) :
    Ex ipU gU [.code F5_39] [(3, .ptr 0 0)] σ fun fr' σ1 => (resAll fr' σ1 F5.res).bind (rbE σ1) = some r := by
  obtain ⟨v, h1, h2⟩ := h.rbE
  subst hr
  simp only [F5_0, F5_1, F5_2, F5_3, F5_4, F5_5, F5_6, F5_7, F5_8, F5_9, F5_10, F5_11, F5_12, F5_13, F5_14, F5_15, F5_16, F5_17, F5_18, F5_19, F5_20, F5_21, F5_22, F5_23, F5_24, F5_25, F5_26, F5_27, F5_28, F5_29, F5_30, F5_31, F5_32, F5_33, F5_34, F5_35, F5_36, F5_37, F5_38, F5_39, F5_40, F5_41, F5_42, F5_43, F5_44, F5_45, F5_46, F5_47, F5_48, F5_49, F5_50, F5_51, F5_52, F5_53, F5_54, F5_55, F5_56, F5_57, F5_58, F5_59, F5, EX0, EX1, EX2, EX3, EX4, EX5, if_true, if_false, implies_true, forall_const, ne_eq, Nat.reduceEqDiff, reduceIte, reduceCtorEq, Nat.reduceAdd, Nat.reduceLeDiff, Nat.reduceSub, Nat.reduceMul, Int.reduceEq, Int.reduceBEq, Int.reduceBNe, Int.reduceLT, Int.reduceLE, Nat.reduceLT, VX, readAt_some, h1, h2]
theorem nd_auth {e : Ev} {m : Bs} {σ : Store} {l : List Slt} {r : AV} (hb : e.content.sz < big) (h : NSt σ 0 l) (hl : l.length < 100)
    (hr : r = .vsl ((addIf ((authV e.content).2 && m == kJoin) l ⟨kMember, (authV e.content).1⟩).map sltE) none) :
    Ex ipU gU [.code F5_41] (fr4 e m) σ fun fr' σ1 => (resAll fr' σ1 F5.res).bind (rbE σ1) = some r := by
  have h30 := r_auth e.content hb
  unfold fr4
  simp only [F5_0, F5_1, F5_2, F5_3, F5_4, F5_5, F5_6, F5_7, F5_8, F5_9, F5_10, F5_11, F5_12, F5_13, F5_14, F5_15, F5_16, F5_17, F5_18, F5_19, F5_20, F5_21, F5_22, F5_23, F5_24, F5_25, F5_26, F5_27, F5_28, F5_29, F5_30, F5_31, F5_32, F5_33, F5_34, F5_35, F5_36, F5_37, F5_38, F5_40, F5_41, F5_42, F5_43, F5_44, F5_45, F5_46, F5_47, F5_48, F5_49, F5_50, F5_51, F5_52, F5_53, F5_54, F5_55, F5_56, F5_57, F5_58, F5_59, F5, EX0, EX1, EX2, EX3, EX4, EX5, if_true, if_false, implies_true, forall_const, ne_eq, Nat.reduceEqDiff, reduceIte, reduceCtorEq, Nat.reduceAdd, Nat.reduceLeDiff, Nat.reduceSub, Nat.reduceMul, Int.reduceEq, Int.reduceBEq, Int.reduceBNe, Int.reduceLT, Int.reduceLE, Nat.reduceLT, VX, readAt_some, h30]
  cases hk : (authV e.content).2 with
  | false =>
    simp only [hk, Bool.false_and, addIf, Bool.false_eq_true, if_false] at hr
    simp only [F5_0, F5_1, F5_2, F5_3, F5_4, F5_5, F5_6, F5_7, F5_8, F5_9, F5_10, F5_11, F5_12, F5_13, F5_14, F5_15, F5_16, F5_17, F5_18, F5_19, F5_20, F5_21, F5_22, F5_23, F5_24, F5_25, F5_26, F5_27, F5_28, F5_29, F5_30, F5_31, F5_32, F5_33, F5_34, F5_35, F5_36, F5_37, F5_38, F5_40, F5_41, F5_42, F5_43, F5_44, F5_45, F5_46, F5_47, F5_48, F5_49, F5_50, F5_51, F5_52, F5_53, F5_54, F5_55, F5_56, F5_57, F5_58, F5_59, F5, EX0, EX1, EX2, EX3, EX4, EX5, if_true, if_false, implies_true, forall_const, ne_eq, Nat.reduceEqDiff, reduceIte, reduceCtorEq, Nat.reduceAdd, Nat.reduceLeDiff, Nat.reduceSub, Nat.reduceMul, Int.reduceEq, Int.reduceBEq, Int.reduceBNe, Int.reduceLT, Int.reduceLE, Nat.reduceLT, VX, readAt_some]
    exact nd_end h hr
  | true =>
    cases hj : m == kJoin with
    | false =>
      simp only [hk, hj, Bool.and_false, addIf, Bool.false_eq_true, if_false] at hr
      simp only [F5_0, F5_1, F5_2, F5_3, F5_4, F5_5, F5_6, F5_7, F5_8, F5_9, F5_10, F5_11, F5_12, F5_13, F5_14, F5_15, F5_16, F5_17, F5_18, F5_19, F5_20, F5_21, F5_22, F5_23, F5_24, F5_25, F5_26, F5_27, F5_28, F5_29, F5_30, F5_31, F5_32, F5_33, F5_34, F5_35, F5_36, F5_37, F5_38, F5_40, F5_41, F5_42, F5_43, F5_44, F5_45, F5_46, F5_47, F5_48, F5_49, F5_50, F5_51, F5_52, F5_53, F5_54, F5_55, F5_56, F5_57, F5_58, F5_59, F5, EX0, EX1, EX2, EX3, EX4, EX5, if_true, if_false, implies_true, forall_const, ne_eq, Nat.reduceEqDiff, reduceIte, reduceCtorEq, Nat.reduceAdd, Nat.reduceLeDiff, Nat.reduceSub, Nat.reduceMul, Int.reduceEq, Int.reduceBEq, Int.reduceBNe, Int.reduceLT, Int.reduceLE, Nat.reduceLT, VX, readAt_some, hj]
      exact nd_end h hr
    | true =>
      simp only [hk, hj, Bool.and_self, addIf, if_true] at hr
      obtain ⟨σ1, q1, n1⟩ := c_more σ 0 l ⟨kMember, (authV e.content).1⟩ h (by unfold lim; omega)
      simp only [F5_0, F5_1, F5_2, F5_3, F5_4, F5_5, F5_6, F5_7, F5_8, F5_9, F5_10, F5_11, F5_12, F5_13, F5_14, F5_15, F5_16, F5_17, F5_18, F5_19, F5_20, F5_21, F5_22, F5_23, F5_24, F5_25, F5_26, F5_27, F5_28, F5_29, F5_30, F5_31, F5_32, F5_33, F5_34, F5_35, F5_36, F5_37, F5_38, F5_40, F5_41, F5_42, F5_43, F5_44, F5_45, F5_46, F5_47, F5_48, F5_49, F5_50, F5_51, F5_52, F5_53, F5_54, F5_55, F5_56, F5_57, F5_58, F5_59, F5, EX0, EX1, EX2, EX3, EX4, EX5, if_true, if_false, implies_true, forall_const, ne_eq, Nat.reduceEqDiff, reduceIte, reduceCtorEq, Nat.reduceAdd, Nat.reduceLeDiff, Nat.reduceSub, Nat.reduceMul, Int.reduceEq, Int.reduceBEq, Int.reduceBNe, Int.reduceLT, Int.reduceLE, Nat.reduceLT, VX, readAt_some, hj, q1]
      exact nd_end n1 hr
theorem nd_third {e : Ev} {m : Bs} {σ : Store} {l : List Slt} {r : AV} (hb : e.content.sz < big) (h : NSt σ 0 l) (hl : l.length < 99)
    (hr : r = .vsl ((addIf ((authV e.content).2 && m == kJoin) (addIf ((thirdV e.content).2.2 && m == kInvite) l ⟨kThirdInv, (thirdV e.content).1⟩) ⟨kMember, (authV e.content).1⟩).map sltE) none) :
    Ex ipU gU [.code F5_43] (fr4 e m) σ fun fr' σ1 => (resAll fr' σ1 F5.res).bind (rbE σ1) = some r := by
  have h29 := r_third e.content hb
  unfold fr4
  simp only [F5_0, F5_1, F5_2, F5_3, F5_4, F5_5, F5_6, F5_7, F5_8, F5_9, F5_10, F5_11, F5_12, F5_13, F5_14, F5_15, F5_16, F5_17, F5_18, F5_19, F5_20, F5_21, F5_22, F5_23, F5_24, F5_25, F5_26, F5_27, F5_28, F5_29, F5_30, F5_31, F5_32, F5_33, F5_34, F5_35, F5_36, F5_37, F5_38, F5_39, F5_40, F5_42, F5_43, F5_44, F5_45, F5_46, F5_47, F5_48, F5_49, F5_50, F5_51, F5_52, F5_53, F5_54, F5_55, F5_56, F5_57, F5_58, F5_59, F5, EX0, EX1, EX2, EX3, EX4, EX5, if_true, if_false, implies_true, forall_const, ne_eq, Nat.reduceEqDiff, reduceIte, reduceCtorEq, Nat.reduceAdd, Nat.reduceLeDiff, Nat.reduceSub, Nat.reduceMul, Int.reduceEq, Int.reduceBEq, Int.reduceBNe, Int.reduceLT, Int.reduceLE, Nat.reduceLT, VX, readAt_some, h29]
  have hl2 := addT_len l ⟨kThirdInv, (thirdV e.content).1⟩
  cases hk : (thirdV e.content).2.2 with
  | false =>
    simp only [hk, Bool.false_and, addIf, Bool.false_eq_true, if_false] at hr
    simp only [F5_0, F5_1, F5_2, F5_3, F5_4, F5_5, F5_6, F5_7, F5_8, F5_9, F5_10, F5_11, F5_12, F5_13, F5_14, F5_15, F5_16, F5_17, F5_18, F5_19, F5_20, F5_21, F5_22, F5_23, F5_24, F5_25, F5_26, F5_27, F5_28, F5_29, F5_30, F5_31, F5_32, F5_33, F5_34, F5_35, F5_36, F5_37, F5_38, F5_39, F5_40, F5_42, F5_43, F5_44, F5_45, F5_46, F5_47, F5_48, F5_49, F5_50, F5_51, F5_52, F5_53, F5_54, F5_55, F5_56, F5_57, F5_58, F5_59, F5, EX0, EX1, EX2, EX3, EX4, EX5, if_true, if_false, implies_true, forall_const, ne_eq, Nat.reduceEqDiff, reduceIte, reduceCtorEq, Nat.reduceAdd, Nat.reduceLeDiff, Nat.reduceSub, Nat.reduceMul, Int.reduceEq, Int.reduceBEq, Int.reduceBNe, Int.reduceLT, Int.reduceLE, Nat.reduceLT, VX, readAt_some]
    exact nd_auth hb h (by omega) hr
  | true =>
    cases hj : m == kInvite with
    | false =>
      simp only [hk, hj, Bool.and_false, addIf, Bool.false_eq_true, if_false] at hr
      simp only [F5_0, F5_1, F5_2, F5_3, F5_4, F5_5, F5_6, F5_7, F5_8, F5_9, F5_10, F5_11, F5_12, F5_13, F5_14, F5_15, F5_16, F5_17, F5_18, F5_19, F5_20, F5_21, F5_22, F5_23, F5_24, F5_25, F5_26, F5_27, F5_28, F5_29, F5_30, F5_31, F5_32, F5_33, F5_34, F5_35, F5_36, F5_37, F5_38, F5_39, F5_40, F5_42, F5_43, F5_44, F5_45, F5_46, F5_47, F5_48, F5_49, F5_50, F5_51, F5_52, F5_53, F5_54, F5_55, F5_56, F5_57, F5_58, F5_59, F5, EX0, EX1, EX2, EX3, EX4, EX5, if_true, if_false, implies_true, forall_const, ne_eq, Nat.reduceEqDiff, reduceIte, reduceCtorEq, Nat.reduceAdd, Nat.reduceLeDiff, Nat.reduceSub, Nat.reduceMul, Int.reduceEq, Int.reduceBEq, Int.reduceBNe, Int.reduceLT, Int.reduceLE, Nat.reduceLT, VX, readAt_some, hj]
      exact nd_auth hb h (by omega) hr
    | true =>
      simp only [hk, hj, Bool.and_self, addIf, if_true] at hr
      obtain ⟨σ1, q1, n1⟩ := c_more σ 0 l ⟨kThirdInv, (thirdV e.content).1⟩ h (by unfold lim; omega)
      simp only [F5_0, F5_1, F5_2, F5_3, F5_4, F5_5, F5_6, F5_7, F5_8, F5_9, F5_10, F5_11, F5_12, F5_13, F5_14, F5_15, F5_16, F5_17, F5_18, F5_19, F5_20, F5_21, F5_22, F5_23, F5_24, F5_25, F5_26, F5_27, F5_28, F5_29, F5_30, F5_31, F5_32, F5_33, F5_34, F5_35, F5_36, F5_37, F5_38, F5_39, F5_40, F5_42, F5_43, F5_44, F5_45, F5_46, F5_47, F5_48, F5_49, F5_50, F5_51, F5_52, F5_53, F5_54, F5_55, F5_56, F5_57, F5_58, F5_59, F5, EX0, EX1, EX2, EX3, EX4, EX5, if_true, if_false, implies_true, forall_const, ne_eq, Nat.reduceEqDiff, reduceIte, reduceCtorEq, Nat.reduceAdd, Nat.reduceLeDiff, Nat.reduceSub, Nat.reduceMul, Int.reduceEq, Int.reduceBEq, Int.reduceBNe, Int.reduceLT, Int.reduceLE, Nat.reduceLT, VX, readAt_some, hj, q1]
      exact nd_auth hb n1 (by omega) hr
theorem nd_join {e : Ev} {m : Bs} {σ : Store} {l : List Slt} {r : AV} (hb : e.content.sz < big) (h : NSt σ 0 l) (hl : l.length < 98)
    (hr : r = .vsl ((addIf ((authV e.content).2 && m == kJoin) (addIf ((thirdV e.content).2.2 && m == kInvite) (addIf (m == kJoin || (m == kInvite || m == kKnock)) l ⟨kJoins, []⟩) ⟨kThirdInv, (thirdV e.content).1⟩) ⟨kMember, (authV e.content).1⟩).map sltE) none) :
    Ex ipU gU [.code F5_45] (fr4 e m) σ fun fr' σ1 => (resAll fr' σ1 F5.res).bind (rbE σ1) = some r := by
  unfold fr4
  have hl2 := addT_len l ⟨kJoins, []⟩
  obtain ⟨σ1, q1, n1⟩ := c_more σ 0 l ⟨kJoins, []⟩ h (by unfold lim; omega)
  cases hj : m == kJoin with
  | true =>
    simp only [hj, Bool.true_or, addIf, if_true] at hr
    simp only [F5_0, F5_1, F5_2, F5_3, F5_4, F5_5, F5_6, F5_7, F5_8, F5_9, F5_10, F5_11, F5_12, F5_13, F5_14, F5_15, F5_16, F5_17, F5_18, F5_19, F5_20, F5_21, F5_22, F5_23, F5_24, F5_25, F5_26, F5_27, F5_28, F5_29, F5_30, F5_31, F5_32, F5_33, F5_34, F5_35, F5_36, F5_37, F5_38, F5_39, F5_40, F5_41, F5_42, F5_44, F5_45, F5_46, F5_47, F5_48, F5_49, F5_50, F5_51, F5_52, F5_53, F5_54, F5_55, F5_56, F5_57, F5_58, F5_59, F5, EX0, EX1, EX2, EX3, EX4, EX5, if_true, if_false, implies_true, forall_const, ne_eq, Nat.reduceEqDiff, reduceIte, reduceCtorEq, Nat.reduceAdd, Nat.reduceLeDiff, Nat.reduceSub, Nat.reduceMul, Int.reduceEq, Int.reduceBEq, Int.reduceBNe, Int.reduceLT, Int.reduceLE, Nat.reduceLT, VX, readAt_some, hj, q1]
    exact nd_third hb n1 (by omega) (by simp only [hj, addIf]; exact hr)
  | false =>
  cases hi : m == kInvite with
  | true =>
    simp only [hj, hi, Bool.true_or, Bool.or_true, addIf, if_true] at hr
    simp only [F5_0, F5_1, F5_2, F5_3, F5_4, F5_5, F5_6, F5_7, F5_8, F5_9, F5_10, F5_11, F5_12, F5_13, F5_14, F5_15, F5_16, F5_17, F5_18, F5_19, F5_20, F5_21, F5_22, F5_23, F5_24, F5_25, F5_26, F5_27, F5_28, F5_29, F5_30, F5_31, F5_32, F5_33, F5_34, F5_35, F5_36, F5_37, F5_38, F5_39, F5_40, F5_41, F5_42, F5_44, F5_45, F5_46, F5_47, F5_48, F5_49, F5_50, F5_51, F5_52, F5_53, F5_54, F5_55, F5_56, F5_57, F5_58, F5_59, F5, EX0, EX1, EX2, EX3, EX4, EX5, if_true, if_false, implies_true, forall_const, ne_eq, Nat.reduceEqDiff, reduceIte, reduceCtorEq, Nat.reduceAdd, Nat.reduceLeDiff, Nat.reduceSub, Nat.reduceMul, Int.reduceEq, Int.reduceBEq, Int.reduceBNe, Int.reduceLT, Int.reduceLE, Nat.reduceLT, VX, readAt_some, hj, hi, q1]
    exact nd_third hb n1 (by omega) (by simp only [hj, hi, addIf]; exact hr)
  | false =>
  cases hk : m == kKnock with
  | true =>
    simp only [hj, hi, hk, Bool.or_true, addIf, if_true] at hr
    simp only [F5_0, F5_1, F5_2, F5_3, F5_4, F5_5, F5_6, F5_7, F5_8, F5_9, F5_10, F5_11, F5_12, F5_13, F5_14, F5_15, F5_16, F5_17, F5_18, F5_19, F5_20, F5_21, F5_22, F5_23, F5_24, F5_25, F5_26, F5_27, F5_28, F5_29, F5_30, F5_31, F5_32, F5_33, F5_34, F5_35, F5_36, F5_37, F5_38, F5_39, F5_40, F5_41, F5_42, F5_44, F5_45, F5_46, F5_47, F5_48, F5_49, F5_50, F5_51, F5_52, F5_53, F5_54, F5_55, F5_56, F5_57, F5_58, F5_59, F5, EX0, EX1, EX2, EX3, EX4, EX5, if_true, if_false, implies_true, forall_const, ne_eq, Nat.reduceEqDiff, reduceIte, reduceCtorEq, Nat.reduceAdd, Nat.reduceLeDiff, Nat.reduceSub, Nat.reduceMul, Int.reduceEq, Int.reduceBEq, Int.reduceBNe, Int.reduceLT, Int.reduceLE, Nat.reduceLT, VX, readAt_some, hj, hi, hk, q1]
    exact nd_third hb n1 (by omega) (by simp only [hj, hi, addIf]; exact hr)
  | false =>
    simp only [hj, hi, hk, Bool.or_self, addIf, Bool.false_eq_true, if_false] at hr
    simp only [F5_0, F5_1, F5_2, F5_3, F5_4, F5_5, F5_6, F5_7, F5_8, F5_9, F5_10, F5_11, F5_12, F5_13, F5_14, F5_15, F5_16, F5_17, F5_18, F5_19, F5_20, F5_21, F5_22, F5_23, F5_24, F5_25, F5_26, F5_27, F5_28, F5_29, F5_30, F5_31, F5_32, F5_33, F5_34, F5_35, F5_36, F5_37, F5_38, F5_39, F5_40, F5_41, F5_42, F5_44, F5_45, F5_46, F5_47, F5_48, F5_49, F5_50, F5_51, F5_52, F5_53, F5_54, F5_55, F5_56, F5_57, F5_58, F5_59, F5, EX0, EX1, EX2, EX3, EX4, EX5, if_true, if_false, implies_true, forall_const, ne_eq, Nat.reduceEqDiff, reduceIte, reduceCtorEq, Nat.reduceAdd, Nat.reduceLeDiff, Nat.reduceSub, Nat.reduceMul, Int.reduceEq, Int.reduceBEq, Int.reduceBNe, Int.reduceLT, Int.reduceLE, Nat.reduceLT, VX, readAt_some, hj, hi, hk]
    exact nd_third hb h (by omega) (by simp only [hj, hi, addIf]; exact hr)
theorem r_needs (e : Ev) (hb : e.content.sz < big) : cR 5 [evE e] = some (.vsl ((needs e).map sltE) none) := by
  have h28 := r_membership e.content hb
  refine cR_of (F := F5) rfl ?_
  obtain ⟨r, hr⟩ : ∃ r, r = AV.vsl ((needs e).map sltE) none := ⟨_, rfl⟩
  rw [← hr]
  unfold needs at hr
  cases hc : e.type == kCreate with
  | true =>
    simp only [hc, if_true, List.map_nil] at hr
    simp only [F5_0, F5_1, F5_2, F5_3, F5_4, F5_5, F5_6, F5_7, F5_8, F5_9, F5_10, F5_11, F5_12, F5_13, F5_14, F5_15, F5_16, F5_17, F5_18, F5_19, F5_20, F5_21, F5_22, F5_23, F5_24, F5_25, F5_26, F5_27, F5_28, F5_29, F5_30, F5_31, F5_32, F5_33, F5_34, F5_35, F5_36, F5_37, F5_38, F5_39, F5_40, F5_41, F5_42, F5_43, F5_44, F5_45, F5_46, F5_47, F5_48, F5_49, F5_50, F5_51, F5_52, F5_53, F5_54, F5_55, F5_56, F5_57, F5_58, F5_59, F5, EX0, EX1, EX2, EX3, EX4, EX5, if_true, if_false, implies_true, forall_const, ne_eq, Nat.reduceEqDiff, reduceIte, reduceCtorEq, Nat.reduceAdd, Nat.reduceLeDiff, Nat.reduceSub, Nat.reduceMul, Int.reduceEq, Int.reduceBEq, Int.reduceBNe, Int.reduceLT, Int.reduceLE, Nat.reduceLT, VX, readAt_some, hc, hr]
  | false =>
  cases hm : !(e.type == kMember) with
  | true =>
    simp only [hc, hm, if_true, Bool.false_eq_true, if_false] at hr
    simp only [F5_0, F5_1, F5_2, F5_3, F5_4, F5_5, F5_6, F5_7, F5_8, F5_9, F5_10, F5_11, F5_12, F5_13, F5_14, F5_15, F5_16, F5_17, F5_18, F5_19, F5_20, F5_21, F5_22, F5_23, F5_24, F5_25, F5_26, F5_27, F5_28, F5_29, F5_30, F5_31, F5_32, F5_33, F5_34, F5_35, F5_36, F5_37, F5_38, F5_39, F5_40, F5_41, F5_42, F5_43, F5_44, F5_45, F5_46, F5_47, F5_48, F5_49, F5_50, F5_51, F5_52, F5_53, F5_54, F5_55, F5_56, F5_57, F5_58, F5_59, F5, EX0, EX1, EX2, EX3, EX4, EX5, if_true, if_false, implies_true, forall_const, ne_eq, Nat.reduceEqDiff, reduceIte, reduceCtorEq, Nat.reduceAdd, Nat.reduceLeDiff, Nat.reduceSub, Nat.reduceMul, Int.reduceEq, Int.reduceBEq, Int.reduceBNe, Int.reduceLT, Int.reduceLE, Nat.reduceLT, VX, readAt_some, hc, hm, hr]
    rfl
  | false =>
  simp only [hc, hm, Bool.false_eq_true, if_false] at hr
  simp only [F5_0, F5_1, F5_2, F5_3, F5_4, F5_5, F5_6, F5_7, F5_8, F5_9, F5_10, F5_11, F5_12, F5_13, F5_14, F5_15, F5_16, F5_17, F5_18, F5_19, F5_20, F5_21, F5_22, F5_23, F5_24, F5_25, F5_26, F5_27, F5_28, F5_29, F5_30, F5_31, F5_32, F5_33, F5_34, F5_35, F5_36, F5_37, F5_38, F5_39, F5_40, F5_41, F5_42, F5_43, F5_44, F5_46, F5_47, F5_48, F5_49, F5_50, F5_51, F5_52, F5_53, F5_54, F5_55, F5_56, F5_57, F5_58, F5_59, F5, EX0, EX1, EX2, EX3, EX4, EX5, if_true, if_false, implies_true, forall_const, ne_eq, Nat.reduceEqDiff, reduceIte, reduceCtorEq, Nat.reduceAdd, Nat.reduceLeDiff, Nat.reduceSub, Nat.reduceMul, Int.reduceEq, Int.reduceBEq, Int.reduceBNe, Int.reduceLT, Int.reduceLE, Nat.reduceLT, VX, readAt_some, hc, hm]
  obtain ⟨σ1, q1, n1⟩ := c_more ⟨1, [(0, .own [.vsl ((base3 e).map sltE) (some 3)]), (0, .own [.nils])]⟩ 0 (base3 e) ⟨kMember, e.key⟩ ⟨_, rfl, Gr.lit LSlt _ (base3 e), by simp, fun len sz c h => by simp at h⟩ (by simp [base3, lim])
  have l1 := addT_len (base3 e) ⟨kMember, e.key⟩
  have l0 : (base3 e).length = 3 := rfl
  generalize addT (base3 e) ⟨kMember, e.key⟩ = t1 at n1 l1 hr
  simp only [base3, List.map_cons, List.map_nil] at q1
  simp only [F5_0, F5_1, F5_2, F5_3, F5_4, F5_5, F5_6, F5_7, F5_8, F5_9, F5_10, F5_11, F5_12, F5_13, F5_14, F5_15, F5_16, F5_17, F5_18, F5_19, F5_20, F5_21, F5_22, F5_23, F5_24, F5_25, F5_26, F5_27, F5_28, F5_29, F5_30, F5_31, F5_32, F5_33, F5_34, F5_35, F5_36, F5_37, F5_38, F5_39, F5_40, F5_41, F5_42, F5_43, F5_44, F5_46, F5_47, F5_48, F5_49, F5_50, F5_51, F5_52, F5_53, F5_54, F5_55, F5_56, F5_57, F5_58, F5_59, F5, EX0, EX1, EX2, EX3, EX4, EX5, if_true, if_false, implies_true, forall_const, ne_eq, Nat.reduceEqDiff, reduceIte, reduceCtorEq, Nat.reduceAdd, Nat.reduceLeDiff, Nat.reduceSub, Nat.reduceMul, Int.reduceEq, Int.reduceBEq, Int.reduceBNe, Int.reduceLT, Int.reduceLE, Nat.reduceLT, VX, readAt_some, q1, h28]
  exact nd_join hb n1 (by omega) hr
end Go.Ab
/- What is picked of a state. -/
namespace Go.Ab
set_option linter.unusedSimpArgs false
set_option maxHeartbeats 1000000
set_option maxRecDepth 100000
theorem callR_first (id : Nat) (first args caps : List AV) : callR ipU gU (.fn id first caps) args = callR ipU gU (.fn id [] []) (first ++ args ++ caps) := by
  have e : ∀ n, scall ipU (run ipU gU n) (.fn id first caps) args .empty = scall ipU (run ipU gU n) (.fn id [] []) (first ++ args ++ caps) .empty := fun n => by
    simp only [scall, List.nil_append, List.append_nil]
  have h : callS ipU gU (.fn id first caps) args .empty = callS ipU gU (.fn id [] []) (first ++ args ++ caps) .empty := by
    apply Option.ext
    intro x
    constructor
    · intro hx
      obtain ⟨n, hn⟩ := callS_some.1 hx
      exact callS_some.2 ⟨n, by rw [← e]; exact hn⟩
    · intro hx
      obtain ⟨n, hn⟩ := callS_some.1 hx
      exact callS_some.2 ⟨n, by rw [e]; exact hn⟩
  unfold callR
  rw [h]
theorem chain3 (c1 c2 c3 : Bool) (l : List Slt) (s1 s2 s3 : Slt) : (addIf c3 (addIf c2 (addIf c1 l s1) s2) s3).length ≤ l.length + 3 := by
  have h1 := addIf_len c1 l s1
  have h2 := addIf_len c2 (addIf c1 l s1) s2
  have h3 := addIf_len c3 (addIf c2 (addIf c1 l s1) s2) s3
  omega
theorem needs_len (e : Ev) : (needs e).length ≤ 7 := by
  unfold needs
  split
  · simp
  · split
    · simp [base3]
    · have l0 : (base3 e).length = 3 := rfl
      have a1 := addT_len (base3 e) ⟨kMember, e.key⟩
      exact Nat.le_trans (chain3 _ _ _ _ _ _ _) (by omega)
/-- The numbers of the events in the slots. -/
def pickF (l : List Ev) (ns : List Slt) : List Bs := ns.filterMap fun s => (l.find? (isAt s)).map (·.id)
theorem pickF_cons (l : List Ev) (s : Slt) (ns : List Slt) : pickF l (s :: ns) = match l.find? (isAt s) with
    | some e => e.id :: pickF l ns
    | none => pickF l ns := by
  unfold pickF
  rw [List.filterMap_cons]
  cases l.find? (isAt s) <;> rfl
theorem r_pick (l : List Ev) (e : Ev) (hb : e.content.sz < big) (hlen0 : l.length < big) (hs : ∀ x ∈ l, x.prev.length < lim ∧ x.auth.length < lim) :
    cR 8 [.vsl (l.map evE) none, evE e] = some (.vsl ((pickF l (needs e)).map .str) none) := by
  have h5 := r_needs e hb
  have hn7 := needs_len e
  refine cR_of (F := F8) rfl ?_
  generalize needs e = ns at h5 hn7 ⊢
  simp only [F8_0, F8_1, F8_2, F8_3, F8_4, F8_5, F8_6, F8_7, F8_8, F8_9, F8_10, F8_11, F8_12, F8_13, F8_14, F8_15, F8_16, F8_17, F8_18, F8_19, F8_20, F8_21, F8_22, F8_23, F8_25, F8_26, F8_27, F8_28, F8_29, F8_30, F8_31, F8_32, F8_33, F8_34, F8_35, F8_36, F8_37, F8_38, F8, ex_loop, EX0, EX1, EX2, EX3, EX4, EX5, if_true, if_false, implies_true, forall_const, ne_eq, Nat.reduceEqDiff, reduceIte, reduceCtorEq, Nat.reduceAdd, Nat.reduceLeDiff, Nat.reduceSub, Nat.reduceMul, Int.reduceEq, Int.reduceBEq, Int.reduceBNe, Int.reduceLT, Int.reduceLE, Nat.reduceLT, VX, readAt_some, h5]
  refine ex_whileI (S := Nat × List Bs × AV) (fun p => [(5, .fn 26 [.vsl (l.map evE) none] []), (6, p.2.2), (14, .vsl (ns.map sltE) none), (15, .int .i64 ns.length), (16, .int .i64 (p.1 : Int))]) (fun p => ns.length - p.1)
    (fun p σ => Gr LStr σ p.2.2 p.2.1 ∧ p.2.1.length ≤ p.1 ∧ p.2.1 ++ pickF l (ns.drop p.1) = pickF l ns) ?_ (0, [], .nils) _ ⟨Gr.nil LStr _, by simp, rfl⟩
  rintro b ⟨j, acc, v⟩ σ ⟨hg, hlen, hj⟩ ih
  simp only at hg hlen hj ih ⊢
  by_cases hlt : j < ns.length
  · obtain ⟨x, hx⟩ := get_lt hlt
    have hidx := idx_slt (c := none) hx
    have hcond := dlt hlt
    have hr := r_of l x hlen0 hs
    have hr2 : callR ipU gU (.fn 26 [.vsl (l.map evE) none] []) [sltE x] = some (.tup [evE (ofE l x).1, .bool (ofE l x).2]) := by rw [callR_first]; exact hr
    rw [drop_cons hx, pickF_cons] at hj
    have hw := wsucc hlt (by omega)
    have hn := hg.newset
    have hn2 := fun a b c d => (hn a b).newset c d
    cases hf : l.find? (isAt x) with
    | none =>
      rw [ofE_none hf] at hr2
      simp only [hf] at hj
      simp only [F8_0, F8_1, F8_2, F8_3, F8_4, F8_5, F8_6, F8_7, F8_8, F8_9, F8_10, F8_11, F8_12, F8_13, F8_14, F8_15, F8_16, F8_17, F8_18, F8_19, F8_20, F8_21, F8_22, F8_23, F8_24, F8_25, F8_26, F8_27, F8_28, F8_29, F8_30, F8_31, F8_32, F8_33, F8_34, F8_35, F8_36, F8_37, F8_38, F8, EX0, EX1, EX2, EX3, EX4, EX5, if_true, if_false, implies_true, forall_const, ne_eq, Nat.reduceEqDiff, reduceIte, reduceCtorEq, Nat.reduceAdd, Nat.reduceLeDiff, Nat.reduceSub, Nat.reduceMul, Int.reduceEq, Int.reduceBEq, Int.reduceBNe, Int.reduceLT, Int.reduceLE, Nat.reduceLT, VX, readAt_some, hcond, hidx, Slt.eta, hr2, hw]
      exact ih (j + 1, acc, v) _ _ (by simp; omega) ⟨hn2 _ _ _ _, by simp; omega, hj⟩ (by simp only [EX0, EX1, EX2, EX3, EX4, EX5, if_true, if_false, implies_true, forall_const, ne_eq, Nat.reduceEqDiff, reduceIte, reduceCtorEq, Nat.reduceAdd, Nat.reduceLeDiff, Nat.reduceSub, Nat.reduceMul, Int.reduceEq, Int.reduceBEq, Int.reduceBNe, Int.reduceLT, Int.reduceLE, Nat.reduceLT])
    | some y =>
      rw [ofE_some hf] at hr2
      simp only [hf] at hj
      have happ : ∀ a b c d, appendTo _ 1 16 v [.str y.id] 1 = some _ := fun a b c d => (hn2 a b c d).push (a := y.id) (bytes := 16) (by omega) (by unfold maxBytes; omega)
      have hlo : lenOf (.vsl [.str y.id] (some 1)) = some 1 := rfl
      have hro : ∀ σ', rowOf σ' 1 (.vsl [.str y.id] (some 1)) = some [.str y.id] := fun _ => rfl
      simp only [F8_0, F8_1, F8_2, F8_3, F8_4, F8_5, F8_6, F8_7, F8_8, F8_9, F8_10, F8_11, F8_12, F8_13, F8_14, F8_15, F8_16, F8_17, F8_18, F8_19, F8_20, F8_21, F8_22, F8_23, F8_24, F8_25, F8_26, F8_27, F8_28, F8_29, F8_30, F8_31, F8_32, F8_33, F8_34, F8_35, F8_36, F8_37, F8_38, F8, EX0, EX1, EX2, EX3, EX4, EX5, if_true, if_false, implies_true, forall_const, ne_eq, Nat.reduceEqDiff, reduceIte, reduceCtorEq, Nat.reduceAdd, Nat.reduceLeDiff, Nat.reduceSub, Nat.reduceMul, Int.reduceEq, Int.reduceBEq, Int.reduceBNe, Int.reduceLT, Int.reduceLE, Nat.reduceLT, VX, readAt_some, hcond, hidx, Slt.eta, hr2, happ, hlo, hro, hw]
      exact ih (j + 1, acc ++ [y.id], _) _ _ (by simp; omega) ⟨Gr.own ((hn2 _ _ _ _).next (by simp)), by simp; omega, by simpa using hj⟩ (by simp only [EX0, EX1, EX2, EX3, EX4, EX5, if_true, if_false, implies_true, forall_const, ne_eq, Nat.reduceEqDiff, reduceIte, reduceCtorEq, Nat.reduceAdd, Nat.reduceLeDiff, Nat.reduceSub, Nat.reduceMul, Int.reduceEq, Int.reduceBEq, Int.reduceBNe, Int.reduceLT, Int.reduceLE, Nat.reduceLT]; rfl)
  · have hcond := dge (Nat.not_lt.1 hlt)
    rw [List.drop_eq_nil_of_le (by omega)] at hj
    have hj2 : acc = pickF l ns := by simpa [pickF] using hj
    have hrb := hg.rbE
    simp only [F8_0, F8_1, F8_2, F8_3, F8_4, F8_5, F8_6, F8_7, F8_8, F8_9, F8_10, F8_11, F8_12, F8_13, F8_14, F8_15, F8_16, F8_17, F8_18, F8_19, F8_20, F8_21, F8_22, F8_23, F8_24, F8_25, F8_26, F8_27, F8_28, F8_29, F8_30, F8_31, F8_32, F8_33, F8_34, F8_35, F8_36, F8_37, F8_38, F8, EX0, EX1, EX2, EX3, EX4, EX5, if_true, if_false, implies_true, forall_const, ne_eq, Nat.reduceEqDiff, reduceIte, reduceCtorEq, Nat.reduceAdd, Nat.reduceLeDiff, Nat.reduceSub, Nat.reduceMul, Int.reduceEq, Int.reduceBEq, Int.reduceBNe, Int.reduceLT, Int.reduceLE, Nat.reduceLT, VX, hcond, hrb, hj2]
    rfl
end Go.Ab
/- What fits; finding an event by its number. -/
namespace Go.Ab
set_option linter.unusedSimpArgs false
set_option maxHeartbeats 1000000
set_option maxRecDepth 100000
def fitsF (ns : List Slt) : List Slt → List Ev → Bool
  | _, [] => true
  | had, x :: r => if x.isState && (!hasT had x.slot && hasT ns x.slot) then fitsF ns (had ++ [x.slot]) r else false
def fits (e : Ev) (auth : List Ev) : Bool := fitsF (needs e) [] auth
theorem r_fits (e : Ev) (l : List Ev) (hb : e.content.sz < big) (hlen : l.length < lim) : cR 12 [evE e, .vsl (l.map evE) none] = some (.bool (fits e l)) := by
  unfold lim at hlen
  have h5 := r_needs e hb
  have hn7 := needs_len e
  unfold fits
  refine cR_of (F := F12) rfl ?_
  generalize needs e = ns at h5 hn7 ⊢
  have c37 : ∀ s : Slt, cR 37 [.vsl (ns.map sltE) none, sltE s] = some (.bool (hasT ns s)) := fun s => r_containsT ns s (by unfold big; omega)
  simp only [F12_0, F12_1, F12_2, F12_3, F12_4, F12_5, F12_6, F12_7, F12_8, F12_9, F12_10, F12_11, F12_12, F12_13, F12_14, F12_15, F12_16, F12_17, F12_18, F12_19, F12_20, F12_21, F12_22, F12_23, F12_24, F12_25, F12_26, F12_27, F12_29, F12_30, F12_31, F12_32, F12_33, F12_34, F12_35, F12_36, F12_37, F12_38, F12_39, F12_40, F12_41, F12_42, F12, ex_loop, EX0, EX1, EX2, EX3, EX4, EX5, if_true, if_false, implies_true, forall_const, ne_eq, Nat.reduceEqDiff, reduceIte, reduceCtorEq, Nat.reduceAdd, Nat.reduceLeDiff, Nat.reduceSub, Nat.reduceMul, Int.reduceEq, Int.reduceBEq, Int.reduceBNe, Int.reduceLT, Int.reduceLE, Nat.reduceLT, VX, readAt_some, h5]
  refine ex_whileI (S := Nat × List Slt × AV) (fun p => [(5, .vsl (ns.map sltE) none), (6, p.2.2), (12, .vsl (l.map evE) none), (13, .int .i64 l.length), (14, .int .i64 (p.1 : Int))]) (fun p => l.length - p.1)
    (fun p σ => Gr LSlt σ p.2.2 p.2.1 ∧ p.2.1.length ≤ p.1 ∧ fitsF ns p.2.1 (l.drop p.1) = fitsF ns [] l) ?_ (0, [], .nils) _ ⟨Gr.nil LSlt _, by simp, rfl⟩
  rintro b ⟨j, acc, v⟩ σ ⟨hg, hacc, hj⟩ ih
  simp only at hg hacc hj ih ⊢
  by_cases hlt : j < l.length
  · obtain ⟨x, hx⟩ := get_lt hlt
    have hidx := idx_ev (c := none) hx
    have hcond := dlt hlt
    rw [drop_cons hx, fitsF] at hj
    have hw := wsucc hlt (by omega)
    have hn := hg.newset
    have hn2 := fun a b c d => (hn a b).newset c d
    have hcall : ∀ a b c d, callP ipU gU false (.fn 37 [] []) [v, sltE x.slot] _ = some (.bool (hasT acc x.slot), _) := fun a b c d => (hn2 a b c d).call1 (by simp only [closedL, sltE_closed, Bool.and_self]) (by simp only [erL, sltE_er]; exact r_containsT acc x.slot (by unfold big; omega)) rfl
    have c37' := c37 x.slot
    have hne : (σ.next + 1 = σ.next) = False := by simp
    unfold Ev.slot at hcall c37' hj
    cases h1 : x.isState with
    | false =>
      simp only [h1, Bool.false_and, Bool.false_eq_true, if_false] at hj
      simp only [F12_0, F12_1, F12_2, F12_3, F12_4, F12_5, F12_6, F12_7, F12_8, F12_9, F12_10, F12_11, F12_12, F12_13, F12_14, F12_15, F12_16, F12_17, F12_18, F12_19, F12_20, F12_21, F12_22, F12_23, F12_24, F12_25, F12_26, F12_27, F12_28, F12_29, F12_30, F12_31, F12_32, F12_33, F12_34, F12_35, F12_36, F12_37, F12_38, F12_39, F12_40, F12_41, F12_42, F12, EX0, EX1, EX2, EX3, EX4, EX5, if_true, if_false, implies_true, forall_const, ne_eq, Nat.reduceEqDiff, reduceIte, reduceCtorEq, Nat.reduceAdd, Nat.reduceLeDiff, Nat.reduceSub, Nat.reduceMul, Int.reduceEq, Int.reduceBEq, Int.reduceBNe, Int.reduceLT, Int.reduceLE, Nat.reduceLT, VX, readAt_some, hcond, hidx, r_slot, hne, h1, ← hj]
    | true =>
    cases h2 : hasT acc ⟨x.type, x.key⟩ with
    | true =>
      rw [h2] at hcall
      simp only [h1, h2, Bool.not_true, Bool.false_and, Bool.and_false, Bool.false_eq_true, if_false] at hj
      simp only [F12_0, F12_1, F12_2, F12_3, F12_4, F12_5, F12_6, F12_7, F12_8, F12_9, F12_10, F12_11, F12_12, F12_13, F12_14, F12_15, F12_16, F12_17, F12_18, F12_19, F12_20, F12_21, F12_22, F12_23, F12_24, F12_25, F12_26, F12_27, F12_28, F12_29, F12_30, F12_31, F12_32, F12_33, F12_34, F12_35, F12_36, F12_37, F12_38, F12_39, F12_40, F12_41, F12_42, F12, EX0, EX1, EX2, EX3, EX4, EX5, if_true, if_false, implies_true, forall_const, ne_eq, Nat.reduceEqDiff, reduceIte, reduceCtorEq, Nat.reduceAdd, Nat.reduceLeDiff, Nat.reduceSub, Nat.reduceMul, Int.reduceEq, Int.reduceBEq, Int.reduceBNe, Int.reduceLT, Int.reduceLE, Nat.reduceLT, VX, readAt_some, hcond, hidx, r_slot, hne, h1, hcall, ← hj]
    | false =>
    rw [h2] at hcall
    cases h3 : hasT ns ⟨x.type, x.key⟩ with
    | false =>
      rw [h3] at c37'
      simp only [h1, h2, h3, Bool.and_false, Bool.false_eq_true, if_false] at hj
      simp only [F12_0, F12_1, F12_2, F12_3, F12_4, F12_5, F12_6, F12_7, F12_8, F12_9, F12_10, F12_11, F12_12, F12_13, F12_14, F12_15, F12_16, F12_17, F12_18, F12_19, F12_20, F12_21, F12_22, F12_23, F12_24, F12_25, F12_26, F12_27, F12_28, F12_29, F12_30, F12_31, F12_32, F12_33, F12_34, F12_35, F12_36, F12_37, F12_38, F12_39, F12_40, F12_41, F12_42, F12, EX0, EX1, EX2, EX3, EX4, EX5, if_true, if_false, implies_true, forall_const, ne_eq, Nat.reduceEqDiff, reduceIte, reduceCtorEq, Nat.reduceAdd, Nat.reduceLeDiff, Nat.reduceSub, Nat.reduceMul, Int.reduceEq, Int.reduceBEq, Int.reduceBNe, Int.reduceLT, Int.reduceLE, Nat.reduceLT, VX, readAt_some, hcond, hidx, r_slot, hne, h1, hcall, c37', ← hj]
    | true =>
      rw [h3] at c37'
      simp only [h1, h2, h3, Bool.not_false, Bool.and_self, if_true] at hj
      have happ : ∀ a b c d, appendTo _ 2 32 v [.str x.type, .str x.key] 1 = some _ := fun a b c d => (hn2 a b c d).push (a := (⟨x.type, x.key⟩ : Slt)) (bytes := 32) (by omega) (by unfold maxBytes; omega)
      have hlo : lenOf (.vsl [sltE ⟨x.type, x.key⟩] (some 1)) = some 1 := rfl
      have hro : ∀ σ', rowOf σ' 2 (.vsl [sltE ⟨x.type, x.key⟩] (some 1)) = some [.str x.type, .str x.key] := fun _ => rfl
      simp only [F12_0, F12_1, F12_2, F12_3, F12_4, F12_5, F12_6, F12_7, F12_8, F12_9, F12_10, F12_11, F12_12, F12_13, F12_14, F12_15, F12_16, F12_17, F12_18, F12_19, F12_20, F12_21, F12_22, F12_23, F12_24, F12_25, F12_26, F12_27, F12_28, F12_29, F12_30, F12_31, F12_32, F12_33, F12_34, F12_35, F12_36, F12_37, F12_38, F12_39, F12_40, F12_41, F12_42, F12, EX0, EX1, EX2, EX3, EX4, EX5, if_true, if_false, implies_true, forall_const, ne_eq, Nat.reduceEqDiff, reduceIte, reduceCtorEq, Nat.reduceAdd, Nat.reduceLeDiff, Nat.reduceSub, Nat.reduceMul, Int.reduceEq, Int.reduceBEq, Int.reduceBNe, Int.reduceLT, Int.reduceLE, Nat.reduceLT, VX, readAt_some, hcond, hidx, r_slot, hne, h1, hcall, c37', happ, hlo, hro, hw]
      exact ih (j + 1, acc ++ [⟨x.type, x.key⟩], _) _ _ (by simp; omega) ⟨Gr.own ((hn2 _ _ _ _).next (by simp)), by simp; omega, hj⟩ (by simp only [EX0, EX1, EX2, EX3, EX4, EX5, if_true, if_false, implies_true, forall_const, ne_eq, Nat.reduceEqDiff, reduceIte, reduceCtorEq, Nat.reduceAdd, Nat.reduceLeDiff, Nat.reduceSub, Nat.reduceMul, Int.reduceEq, Int.reduceBEq, Int.reduceBNe, Int.reduceLT, Int.reduceLE, Nat.reduceLT]; rfl)
  · have hcond := dge (Nat.not_lt.1 hlt)
    rw [List.drop_eq_nil_of_le (by omega), fitsF] at hj
    simp only [F12_0, F12_1, F12_2, F12_3, F12_4, F12_5, F12_6, F12_7, F12_8, F12_9, F12_10, F12_11, F12_12, F12_13, F12_14, F12_15, F12_16, F12_17, F12_18, F12_19, F12_20, F12_21, F12_22, F12_23, F12_24, F12_25, F12_26, F12_27, F12_28, F12_29, F12_30, F12_31, F12_32, F12_33, F12_34, F12_35, F12_36, F12_37, F12_38, F12_39, F12_40, F12_41, F12_42, F12, EX0, EX1, EX2, EX3, EX4, EX5, if_true, if_false, implies_true, forall_const, ne_eq, Nat.reduceEqDiff, reduceIte, reduceCtorEq, Nat.reduceAdd, Nat.reduceLeDiff, Nat.reduceSub, Nat.reduceMul, Int.reduceEq, Int.reduceBEq, Int.reduceBNe, Int.reduceLT, Int.reduceLE, Nat.reduceLT, VX, hcond, ← hj]
def findE (l : List Ev) (id : Bs) : Ev × Bool := match l.find? (fun x => x.id == id) with
  | some e => (e, true)
  | none => (Ev.zero, false)
theorem find_drop {α : Type} {p : α → Bool} {l : List α} {j : Nat} {x : α} (h : l[j]? = some x) (hp : p x = false) : (l.drop j).find? p = (l.drop (j + 1)).find? p := by
  rw [drop_cons h, List.find?_cons, hp]
theorem r_find (l : List Ev) (id : Bs) (hlen : l.length < big) : cR 15 [.vsl (l.map evE) none, .str id] = some (.tup [evE (findE l id).1, .bool (findE l id).2]) := by
  unfold big at hlen
  refine cR_of (F := F15) rfl ?_
  obtain ⟨r, hr⟩ : ∃ r, r = AV.tup [evE (findE l id).1, .bool (findE l id).2] := ⟨_, rfl⟩
  rw [← hr]
  simp only [F15_0, F15_1, F15_2, F15_3, F15_4, F15_5, F15_6, F15_7, F15_8, F15_9, F15_10, F15_11, F15_12, F15_13, F15_14, F15_15, F15_16, F15_18, F15_19, F15_20, F15_21, F15_22, F15_23, F15_24, F15_25, F15_26, F15_27, F15, ex_loop, EX0, EX1, EX2, EX3, EX4, EX5, if_true, if_false, implies_true, forall_const, ne_eq, Nat.reduceEqDiff, reduceIte, reduceCtorEq, Nat.reduceAdd, Nat.reduceLeDiff, Nat.reduceSub, Nat.reduceMul, Int.reduceEq, Int.reduceBEq, Int.reduceBNe, Int.reduceLT, Int.reduceLE, Nat.reduceLT, VX, readAt_some]
  refine ex_while (S := Nat) (fun j => [(0, .vsl (l.map evE) none), (1, .str id), (4, .ptr 0 0), (6, .int .i64 (j : Int))]) (fun _ => ⟨1, [(0, .own [.int .i64 0, .int .i64 0, .str [], .nils, .nils, .str [], .str [], .str [], .str [], .str [], .bool false, .int .i64 0, .int .i64 0, .nils, .nils, .int .i64 0, .int .i64 0, .str [], .nils, .nils])]⟩) (fun j => l.length - j) (fun j => (l.drop j).find? (fun x => x.id == id) = l.find? (fun x => x.id == id)) ?_ 0 rfl
  intro b j hj ih
  by_cases hlt : j < l.length
  · obtain ⟨x, hx⟩ := get_lt hlt
    have hidx := idx_ev (c := none) hx
    have hcond := dlt hlt
    have hw := wsucc hlt (by omega)
    cases hp : x.id == id with
    | true =>
      rw [drop_cons hx, List.find?_cons, hp] at hj
      simp only [findE, ← hj] at hr
      simp only [F15_0, F15_1, F15_2, F15_3, F15_4, F15_5, F15_6, F15_7, F15_8, F15_9, F15_10, F15_11, F15_12, F15_13, F15_14, F15_15, F15_16, F15_17, F15_18, F15_19, F15_20, F15_21, F15_22, F15_23, F15_24, F15_25, F15_26, F15_27, F15, EX0, EX1, EX2, EX3, EX4, EX5, if_true, if_false, implies_true, forall_const, ne_eq, Nat.reduceEqDiff, reduceIte, reduceCtorEq, Nat.reduceAdd, Nat.reduceLeDiff, Nat.reduceSub, Nat.reduceMul, Int.reduceEq, Int.reduceBEq, Int.reduceBNe, Int.reduceLT, Int.reduceLE, Nat.reduceLT, VX, readAt_some, hcond, hidx, hp, hr]
    | false =>
      rw [find_drop hx hp] at hj
      simp only [F15_0, F15_1, F15_2, F15_3, F15_4, F15_5, F15_6, F15_7, F15_8, F15_9, F15_10, F15_11, F15_12, F15_13, F15_14, F15_15, F15_16, F15_17, F15_18, F15_19, F15_20, F15_21, F15_22, F15_23, F15_24, F15_25, F15_26, F15_27, F15, EX0, EX1, EX2, EX3, EX4, EX5, if_true, if_false, implies_true, forall_const, ne_eq, Nat.reduceEqDiff, reduceIte, reduceCtorEq, Nat.reduceAdd, Nat.reduceLeDiff, Nat.reduceSub, Nat.reduceMul, Int.reduceEq, Int.reduceBEq, Int.reduceBNe, Int.reduceLT, Int.reduceLE, Nat.reduceLT, VX, readAt_some, hcond, hidx, hp, hw]
      exact ih (j + 1) _ _ (by omega) hj rfl rfl
  · have hcond := dge (Nat.not_lt.1 hlt)
    rw [List.drop_eq_nil_of_le (by omega), List.find?_nil] at hj
    simp only [findE, ← hj] at hr
    simp only [F15_0, F15_1, F15_2, F15_3, F15_4, F15_5, F15_6, F15_7, F15_8, F15_9, F15_10, F15_11, F15_12, F15_13, F15_14, F15_15, F15_16, F15_17, F15_18, F15_19, F15_20, F15_21, F15_22, F15_23, F15_24, F15_25, F15_26, F15_27, F15, EX0, EX1, EX2, EX3, EX4, EX5, if_true, if_false, implies_true, forall_const, ne_eq, Nat.reduceEqDiff, reduceIte, reduceCtorEq, Nat.reduceAdd, Nat.reduceLeDiff, Nat.reduceSub, Nat.reduceMul, Int.reduceEq, Int.reduceBEq, Int.reduceBNe, Int.reduceLT, Int.reduceLE, Nat.reduceLT, VX, readAt_some, hcond, hr, evE_zero]
end Go.Ab
/- How great a value is, as the laws reckon it. -/
namespace Go.Ab
set_option linter.unusedSimpArgs false
set_option maxHeartbeats 1000000
set_option maxRecDepth 100000
abbrev W (n : Int) : Int := IntKind.wrap .i64 n
mutual
def wt : V → Int → Int → Int
  | .mk _ _ s l m, d, t => if decide (d > 70) = true then W (t + 1) else wtM m d t (wtL l d t (W (1 + (s.length : Int))))
def wtL : List V → Int → Int → Int → Int
  | [], _, _, a => a
  | v :: r, d, t, a => if decide (a ≤ t) = true then wtL r d t (W (a + wt v (W (d + 1)) t)) else a
def wtM : List (Bs × V) → Int → Int → Int → Int
  | [], _, _, a => a
  | (k, v) :: r, d, t, a => if decide (a ≤ t) = true then wtM r d t (W (a + W ((k.length : Int) + wt v (W (d + 1)) t))) else a
end
theorem wtM_cons (x : Mem) (r : List Mem) (d t a : Int) : wtM (x :: r) d t a = if decide (a ≤ t) = true then wtM r d t (W (a + W ((x.1.length : Int) + wt x.2 (W (d + 1)) t))) else a := by
  cases x; rw [wtM]
theorem wt_eq (v : V) (d t : Int) : wt v d t = if decide (d > 70) = true then W (t + 1) else wtM v.m d t (wtL v.l d t (W (1 + (v.s.length : Int)))) := by
  cases v; rw [wt]; rfl
theorem wt_tail (v : V) (d t a : Int) (σ : Store) (hb : v.sz < big) (ih : ∀ x ∈ v.m, ∀ d t : Int, cR 47 [x.2.enc, .int .i64 d, .int .i64 t] = some (.int .i64 (wt x.2 d t))) {r : AV} (hr : r = .int .i64 (wtM v.m d t a)) :
    Ex ipU gU [.code F47_43] [(1, .int .i64 d), (2, .int .i64 t), (3, .vptr [.int .i64 v.kind, .int .i64 v.n, .str v.s, .vsl (v.l.map V.enc) none, .vsl (v.m.map memE) none] 0), (7, .int .i64 a)] σ fun fr' σ1 => (resAll fr' σ1 F47.res).bind (rbE σ1) = some r := by
  have hm := m_len_sz v
  unfold big at hb
  simp only [F47_0, F47_1, F47_2, F47_3, F47_4, F47_5, F47_6, F47_7, F47_8, F47_9, F47_10, F47_11, F47_12, F47_13, F47_14, F47_15, F47_16, F47_17, F47_18, F47_19, F47_20, F47_21, F47_22, F47_23, F47_24, F47_25, F47_26, F47_27, F47_28, F47_29, F47_30, F47_31, F47_32, F47_33, F47_34, F47_36, F47_37, F47_38, F47_39, F47_40, F47_41, F47_42, F47_43, F47_44, F47_45, F47_46, F47_47, F47_48, F47_49, F47_50, F47_51, F47, ex_loop, EX0, EX1, EX2, EX3, EX4, EX5, if_true, if_false, implies_true, forall_const, ne_eq, Nat.reduceEqDiff, reduceIte, reduceCtorEq, Nat.reduceAdd, Nat.reduceLeDiff, Nat.reduceSub, Nat.reduceMul, Int.reduceEq, Int.reduceBEq, Int.reduceBNe, Int.reduceLT, Int.reduceLE, Nat.reduceLT, VX, readAt_some]
  refine ex_whileI (S := Nat × Int) (fun p => [(1, .int .i64 d), (2, .int .i64 t), (3, .vptr [.int .i64 v.kind, .int .i64 v.n, .str v.s, .vsl (v.l.map V.enc) none, .vsl (v.m.map memE) none] 0), (7, .int .i64 p.2), (9, .int .i64 (p.1 : Int))]) (fun p => v.m.length - p.1)
    (fun p _ => wtM (v.m.drop p.1) d t p.2 = wtM v.m d t a) ?_ (0, a) _ rfl
  rintro b ⟨j, c⟩ σ hj ih2
  simp only at hj ih2 ⊢
  by_cases hlt : j < v.m.length
  · obtain ⟨x, hx⟩ := get_lt hlt
    have hidx := idx_map (f := memE) (sz := 6) (c := none) hx (by simp [memE_cells])
    have hcond := dlt hlt
    have hcall := ih x (List.mem_of_getElem? hx)
    rw [drop_cons hx, wtM_cons] at hj
    cases ha : decide (c ≤ t) with
    | true =>
      simp only [ha, if_true] at hj
      simp only [F47_0, F47_1, F47_2, F47_3, F47_4, F47_5, F47_6, F47_7, F47_8, F47_9, F47_10, F47_11, F47_12, F47_13, F47_14, F47_15, F47_16, F47_17, F47_18, F47_19, F47_20, F47_21, F47_22, F47_23, F47_24, F47_25, F47_26, F47_27, F47_28, F47_29, F47_30, F47_31, F47_32, F47_33, F47_34, F47_35, F47_36, F47_37, F47_38, F47_39, F47_40, F47_41, F47_42, F47_43, F47_44, F47_45, F47_46, F47_47, F47_48, F47_49, F47_50, F47_51, F47, EX0, EX1, EX2, EX3, EX4, EX5, if_true, if_false, implies_true, forall_const, ne_eq, Nat.reduceEqDiff, reduceIte, reduceCtorEq, Nat.reduceAdd, Nat.reduceLeDiff, Nat.reduceSub, Nat.reduceMul, Int.reduceEq, Int.reduceBEq, Int.reduceBNe, Int.reduceLT, Int.reduceLE, Nat.reduceLT, VX, readAt_some, hcond, hidx, hcall, ha]
      exact ih2 (j + 1, W (c + W ((x.1.length : Int) + wt x.2 (W (d + 1)) t))) _ _ (by simp; omega) hj (by rw [wsucc hlt (by omega)]; simp only [EX0, EX1, EX2, EX3, EX4, EX5, if_true, if_false, implies_true, forall_const, ne_eq, Nat.reduceEqDiff, reduceIte, reduceCtorEq, Nat.reduceAdd, Nat.reduceLeDiff, Nat.reduceSub, Nat.reduceMul, Int.reduceEq, Int.reduceBEq, Int.reduceBNe, Int.reduceLT, Int.reduceLE, Nat.reduceLT, VX])
    | false =>
      simp only [ha, Bool.false_eq_true, if_false] at hj
      rw [← hj] at hr
      simp only [F47_0, F47_1, F47_2, F47_3, F47_4, F47_5, F47_6, F47_7, F47_8, F47_9, F47_10, F47_11, F47_12, F47_13, F47_14, F47_15, F47_16, F47_17, F47_18, F47_19, F47_20, F47_21, F47_22, F47_23, F47_24, F47_25, F47_26, F47_27, F47_28, F47_29, F47_30, F47_31, F47_32, F47_33, F47_34, F47_35, F47_36, F47_37, F47_38, F47_39, F47_40, F47_41, F47_42, F47_43, F47_44, F47_45, F47_46, F47_47, F47_48, F47_49, F47_50, F47_51, F47, EX0, EX1, EX2, EX3, EX4, EX5, if_true, if_false, implies_true, forall_const, ne_eq, Nat.reduceEqDiff, reduceIte, reduceCtorEq, Nat.reduceAdd, Nat.reduceLeDiff, Nat.reduceSub, Nat.reduceMul, Int.reduceEq, Int.reduceBEq, Int.reduceBNe, Int.reduceLT, Int.reduceLE, Nat.reduceLT, VX, readAt_some, hcond, ha, hr]
  · have hcond := dge (Nat.not_lt.1 hlt)
    rw [List.drop_eq_nil_of_le (by omega), wtM] at hj
    rw [← hj] at hr
    simp only [F47_0, F47_1, F47_2, F47_3, F47_4, F47_5, F47_6, F47_7, F47_8, F47_9, F47_10, F47_11, F47_12, F47_13, F47_14, F47_15, F47_16, F47_17, F47_18, F47_19, F47_20, F47_21, F47_22, F47_23, F47_24, F47_25, F47_26, F47_27, F47_28, F47_29, F47_30, F47_31, F47_32, F47_33, F47_34, F47_35, F47_36, F47_37, F47_38, F47_39, F47_40, F47_41, F47_42, F47_43, F47_44, F47_45, F47_46, F47_47, F47_48, F47_49, F47_50, F47_51, F47, EX0, EX1, EX2, EX3, EX4, EX5, if_true, if_false, implies_true, forall_const, ne_eq, Nat.reduceEqDiff, reduceIte, reduceCtorEq, Nat.reduceAdd, Nat.reduceLeDiff, Nat.reduceSub, Nat.reduceMul, Int.reduceEq, Int.reduceBEq, Int.reduceBNe, Int.reduceLT, Int.reduceLE, Nat.reduceLT, VX, readAt_some, hcond, hr]
theorem r_weightN : ∀ (n : Nat) (v : V), v.sz < n → v.sz < big → ∀ d t : Int, cR 47 [v.enc, .int .i64 d, .int .i64 t] = some (.int .i64 (wt v d t)) := by
  intro n
  induction n with
  | zero => intro v h; omega
  | succ n ih =>
    intro v h hb d t
    have hsz := v.sz_eq
    have hl := szL_len v.l
    have ihL : ∀ x ∈ v.l, ∀ d t : Int, cR 47 [x.enc, .int .i64 d, .int .i64 t] = some (.int .i64 (wt x d t)) := fun x hx => by
      have := szL_mem hx
      exact ih x (by omega) (by omega)
    have ihM : ∀ x ∈ v.m, ∀ d t : Int, cR 47 [x.2.enc, .int .i64 d, .int .i64 t] = some (.int .i64 (wt x.2 d t)) := fun x hx => by
      have := szM_mem hx
      exact ih x.2 (by omega) (by omega)
    refine cR_of (F := F47) rfl ?_
    obtain ⟨r, hr⟩ : ∃ r, r = AV.int .i64 (wt v d t) := ⟨_, rfl⟩
    rw [← hr]
    rw [wt_eq] at hr
    cases hd : decide (d > 70) with
    | true =>
      simp only [hd, if_true] at hr
      simp only [F47_0, F47_1, F47_2, F47_3, F47_4, F47_5, F47_6, F47_7, F47_8, F47_9, F47_10, F47_11, F47_12, F47_13, F47_14, F47_15, F47_16, F47_17, F47_18, F47_20, F47_21, F47_22, F47_23, F47_24, F47_25, F47_26, F47_27, F47_28, F47_29, F47_30, F47_31, F47_32, F47_33, F47_34, F47_35, F47_36, F47_37, F47_38, F47_39, F47_40, F47_41, F47_42, F47_44, F47_45, F47_46, F47_47, F47_48, F47_49, F47_50, F47_51, F47, EX0, EX1, EX2, EX3, EX4, EX5, if_true, if_false, implies_true, forall_const, ne_eq, Nat.reduceEqDiff, reduceIte, reduceCtorEq, Nat.reduceAdd, Nat.reduceLeDiff, Nat.reduceSub, Nat.reduceMul, Int.reduceEq, Int.reduceBEq, Int.reduceBNe, Int.reduceLT, Int.reduceLE, Nat.reduceLT, VX, readAt_some, hd, hr]
    | false =>
    simp only [hd, Bool.false_eq_true, if_false] at hr
    unfold big at hb
    simp only [F47_0, F47_1, F47_2, F47_3, F47_4, F47_5, F47_6, F47_7, F47_8, F47_9, F47_10, F47_11, F47_12, F47_13, F47_14, F47_15, F47_16, F47_17, F47_18, F47_20, F47_21, F47_22, F47_23, F47_24, F47_25, F47_26, F47_27, F47_28, F47_29, F47_30, F47_31, F47_32, F47_33, F47_34, F47_35, F47_36, F47_37, F47_38, F47_39, F47_40, F47_41, F47_42, F47_44, F47_45, F47_46, F47_47, F47_48, F47_49, F47_50, F47_51, F47, ex_loop, EX0, EX1, EX2, EX3, EX4, EX5, if_true, if_false, implies_true, forall_const, ne_eq, Nat.reduceEqDiff, reduceIte, reduceCtorEq, Nat.reduceAdd, Nat.reduceLeDiff, Nat.reduceSub, Nat.reduceMul, Int.reduceEq, Int.reduceBEq, Int.reduceBNe, Int.reduceLT, Int.reduceLE, Nat.reduceLT, VX, readAt_some, hd]
    refine ex_whileI (S := Nat × Int) (fun p => [(1, .int .i64 d), (2, .int .i64 t), (3, .vptr [.int .i64 v.kind, .int .i64 v.n, .str v.s, .vsl (v.l.map V.enc) none, .vsl (v.m.map memE) none] 0), (7, .int .i64 p.2), (8, .int .i64 (p.1 : Int))]) (fun p => v.l.length - p.1)
      (fun p _ => wtL (v.l.drop p.1) d t p.2 = wtL v.l d t (W (1 + (v.s.length : Int)))) ?_ (0, _) _ rfl
    rintro b ⟨j, c⟩ σ hj ih2
    simp only at hj ih2 ⊢
    by_cases hlt : j < v.l.length
    · obtain ⟨x, hx⟩ := get_lt hlt
      have hidx := idx_map (f := V.enc) (sz := 5) (c := none) hx (by simp [V.enc_cells])
      have hcond := dlt hlt
      have hcall := ihL x (List.mem_of_getElem? hx)
      rw [drop_cons hx, wtL] at hj
      cases ha : decide (c ≤ t) with
      | true =>
        simp only [ha, if_true] at hj
        simp only [F47_0, F47_1, F47_2, F47_3, F47_4, F47_5, F47_6, F47_7, F47_8, F47_9, F47_10, F47_11, F47_12, F47_13, F47_14, F47_15, F47_16, F47_17, F47_18, F47_19, F47_20, F47_21, F47_22, F47_23, F47_24, F47_25, F47_26, F47_27, F47_28, F47_29, F47_30, F47_31, F47_32, F47_33, F47_34, F47_35, F47_36, F47_37, F47_38, F47_39, F47_40, F47_41, F47_42, F47_44, F47_45, F47_46, F47_47, F47_48, F47_49, F47_50, F47_51, F47, EX0, EX1, EX2, EX3, EX4, EX5, if_true, if_false, implies_true, forall_const, ne_eq, Nat.reduceEqDiff, reduceIte, reduceCtorEq, Nat.reduceAdd, Nat.reduceLeDiff, Nat.reduceSub, Nat.reduceMul, Int.reduceEq, Int.reduceBEq, Int.reduceBNe, Int.reduceLT, Int.reduceLE, Nat.reduceLT, VX, readAt_some, hcond, hidx, hcall, ha]
        exact ih2 (j + 1, W (c + wt x (W (d + 1)) t)) _ _ (by simp; omega) hj (by rw [wsucc hlt (by omega)]; simp only [EX0, EX1, EX2, EX3, EX4, EX5, if_true, if_false, implies_true, forall_const, ne_eq, Nat.reduceEqDiff, reduceIte, reduceCtorEq, Nat.reduceAdd, Nat.reduceLeDiff, Nat.reduceSub, Nat.reduceMul, Int.reduceEq, Int.reduceBEq, Int.reduceBNe, Int.reduceLT, Int.reduceLE, Nat.reduceLT, VX])
      | false =>
        simp only [ha, Bool.false_eq_true, if_false] at hj
        rw [← hj] at hr
        simp only [F47_0, F47_1, F47_2, F47_3, F47_4, F47_5, F47_6, F47_7, F47_8, F47_9, F47_10, F47_11, F47_12, F47_13, F47_14, F47_15, F47_16, F47_17, F47_18, F47_19, F47_20, F47_21, F47_22, F47_23, F47_24, F47_25, F47_26, F47_27, F47_28, F47_29, F47_30, F47_31, F47_32, F47_33, F47_34, F47_35, F47_36, F47_37, F47_38, F47_39, F47_40, F47_41, F47_42, F47_44, F47_45, F47_46, F47_47, F47_48, F47_49, F47_50, F47_51, F47, EX0, EX1, EX2, EX3, EX4, EX5, if_true, if_false, implies_true, forall_const, ne_eq, Nat.reduceEqDiff, reduceIte, reduceCtorEq, Nat.reduceAdd, Nat.reduceLeDiff, Nat.reduceSub, Nat.reduceMul, Int.reduceEq, Int.reduceBEq, Int.reduceBNe, Int.reduceLT, Int.reduceLE, Nat.reduceLT, VX, readAt_some, hcond, ha]
        exact wt_tail v d t c _ hb ihM hr
    · have hcond := dge (Nat.not_lt.1 hlt)
      rw [List.drop_eq_nil_of_le (by omega), wtL] at hj
      rw [← hj] at hr
      simp only [F47_0, F47_1, F47_2, F47_3, F47_4, F47_5, F47_6, F47_7, F47_8, F47_9, F47_10, F47_11, F47_12, F47_13, F47_14, F47_15, F47_16, F47_17, F47_18, F47_19, F47_20, F47_21, F47_22, F47_23, F47_24, F47_25, F47_26, F47_27, F47_28, F47_29, F47_30, F47_31, F47_32, F47_33, F47_34, F47_35, F47_36, F47_37, F47_38, F47_39, F47_40, F47_41, F47_42, F47_44, F47_45, F47_46, F47_47, F47_48, F47_49, F47_50, F47_51, F47, EX0, EX1, EX2, EX3, EX4, EX5, if_true, if_false, implies_true, forall_const, ne_eq, Nat.reduceEqDiff, reduceIte, reduceCtorEq, Nat.reduceAdd, Nat.reduceLeDiff, Nat.reduceSub, Nat.reduceMul, Int.reduceEq, Int.reduceBEq, Int.reduceBNe, Int.reduceLT, Int.reduceLE, Nat.reduceLT, VX, readAt_some, hcond]
      exact wt_tail v d t c _ hb ihM hr
def lightV (v : V) (t : Int) : Bool := decide (wt v 0 t ≤ t)
theorem r_lightV (v : V) (t : Int) (hb : v.sz < big) : cR 24 [v.enc, .int .i64 t] = some (.bool (lightV v t)) := by
  have h := r_weightN (v.sz + 1) v (Nat.lt_succ_self _) hb
  refine cR_of (F := F24) rfl ?_
  simp only [F24_0, F24_1, F24_2, F24_3, F24_4, F24, EX0, EX1, EX2, EX3, EX4, EX5, if_true, if_false, implies_true, forall_const, ne_eq, Nat.reduceEqDiff, reduceIte, reduceCtorEq, Nat.reduceAdd, Nat.reduceLeDiff, Nat.reduceSub, Nat.reduceMul, Int.reduceEq, Int.reduceBEq, Int.reduceBNe, Int.reduceLT, Int.reduceLE, Nat.reduceLT, VX, readAt_some, h, lightV]
end Go.Ab
/- PickFits: the last part. -/
namespace Go.Ab
set_option linter.unusedSimpArgs false
set_option maxHeartbeats 1000000
set_option maxRecDepth 100000
theorem rb_pref {α : Type} {L : Lay α} {σ : Store} {b h : Nat} {l : List α} (hc : σ.cells b = some (L.cells l)) (hh : h ≤ l.length) : ∃ v, Go.Ab.rb σ rbDepth (.sl b 0 h L.sz none) = some v ∧ v.er = .vsl ((l.take h).map L.f) none := by
  have e : Go.Ab.rb σ rbDepth (.sl b 0 h L.sz none) = (match σ.cells b with
      | some cs =>
        if 0 + h * L.sz ≤ cs.length ∧ 0 < L.sz then
          match mapO (Go.Ab.rb σ 23) ((cs.drop 0).take (h * L.sz)) with
          | some cs' => if cs'.all AV.notAgg then some (.vsl (chunks L.sz h cs') none) else none
          | none => none
        else none
      | none => none) := rfl
  have hl := L.cells_len l
  have ht : List.take (h * L.sz) (List.drop 0 (L.cells l)) = L.cells (l.take h) := by
    have e1 : L.cells l = L.cells (l.take h) ++ L.cells (l.drop h) := by
      unfold Lay.cells
      rw [← List.flatMap_append, List.take_append_drop]
    have e2 := L.cells_len (l.take h)
    rw [List.length_take, Nat.min_eq_left hh] at e2
    rw [List.drop_zero, e1, List.take_append_of_le_length (by omega), List.take_of_length_le (by omega)]
  have hle : h * L.sz ≤ l.length * L.sz := Nat.mul_le_mul_right _ hh
  have hlen : (l.take h).length = h := by simp; omega
  have hch := L.chunks (l.take h)
  rw [hlen] at hch
  rw [e, hc]
  simp only
  rw [if_pos ⟨by omega, L.pos⟩, ht, mapO_closed' (L.cells_closed _)]
  simp only
  rw [if_pos (one_notAgg (L.cells_one _)), hch]
  exact ⟨_, rfl, by simp only [AV.er, L.erMap]⟩
theorem call2 {σ : Store} {st : Bool} {f : Nat} {x v v' r u : AV} (hx : x.closed = true) (hv : Go.Ab.rb σ rbDepth v = some v') (he : v'.er = u) (hc : cR f [x.er, u] = some r) (hr : r.flat = true) :
    callP ipU gU st (.fn f [] []) [x, v] σ = some (r, σ) := by
  refine callP_flat (args' := [x, v']) rfl ?_ ?_ hr
  · simp only [mapO, rb_closed' hx, hv]
  · simp only [erL, he, AV.er]; exact hc
theorem evE_eta (e : Ev) : evE ⟨e.v, e.id, e.room, e.type, e.sender, e.key, e.isState, e.ts, e.depth, e.prev, e.auth, e.content⟩ = evE e := rfl
theorem pf_end {e : Ev} {l : List Ev} {ids : List Bs} {b : Nat} {σ : Store} {y : Ev} {r : AV} (ho : Own LEv σ (some b) (y :: l)) (hb : e.content.sz < big) (hn : (y :: l).length < 1000) (hids : ids.length = (y :: l).length)
    (f1 : fits e (y :: l) = true) (f2 : fits e ((y :: l).take ((y :: l).length / 2)) = true) (f3 : fits e ((y :: l) ++ [y]) = false) (hr : r = .bool true) :
    Ex ipU gU [.code F14_128] [(4, .vptr (evE e).cells 0), (9, .vsl (ids.map .str) none), (11, .sl b 0 (y :: l).length 20 none), (15, .int .i64 ((y :: l).length : Int))] σ fun fr' σ1 => (resAll fr' σ1 F14.res).bind (rbE σ1) = some r := by
  obtain ⟨h1, h2, h3, h4⟩ := ho
  have hget : (σ.freeze1 b).get b = some (.frz (LEv.cells (y :: l))) := by
    unfold Store.freeze1; rw [h1]; exact get_set_same
  have hnext : b < (σ.freeze1 b).next := by
    have : (σ.freeze1 b).next = σ.next := by unfold Store.freeze1; split <;> rfl
    omega
  have hcs : σ.freeze1 b = σ.freeze1 b := rfl
  simp only [F14_0, F14_1, F14_2, F14_3, F14_4, F14_5, F14_6, F14_7, F14_8, F14_9, F14_10, F14_11, F14_12, F14_13, F14_14, F14_15, F14_16, F14_17, F14_18, F14_19, F14_20, F14_21, F14_22, F14_23, F14_24, F14_25, F14_26, F14_27, F14_28, F14_29, F14_30, F14_31, F14_32, F14_33, F14_34, F14_35, F14_36, F14_37, F14_38, F14_39, F14_40, F14_41, F14_42, F14_43, F14_44, F14_45, F14_46, F14_47, F14_48, F14_49, F14_50, F14_51, F14_52, F14_53, F14_54, F14_55, F14_56, F14_57, F14_58, F14_59, F14_60, F14_61, F14_62, F14_63, F14_64, F14_65, F14_66, F14_67, F14_68, F14_69, F14_70, F14_71, F14_72, F14_73, F14_74, F14_75, F14_76, F14_77, F14_78, F14_79, F14_80, F14_81, F14_82, F14_83, F14_84, F14_85, F14_86, F14_87, F14_88, F14_89, F14_90, F14_91, F14_92, F14_93, F14_94, F14_95, F14_96, F14_97, F14_98, F14_99, F14_100, F14_101, F14_102, F14_103, F14_104, F14_105, F14_106, F14_107, F14_108, F14_109, F14_110, F14_111, F14_112, F14_113, F14_114, F14_115, F14_116, F14_117, F14_118, F14_119, F14_120, F14_121, F14_122, F14_123, F14_124, F14_125, F14_126, F14_127, F14_128, F14_129, F14_130, F14_131, F14_132, F14_133, F14_134, F14_135, F14_136, F14_137, F14_138, F14_139, F14_140, F14_141, F14_142, F14_143, F14_144, F14_145, F14_146, F14_147, F14_148, F14, EX0, EX1, EX2, EX3, EX4, EX5, if_true, if_false, implies_true, forall_const, ne_eq, Nat.reduceEqDiff, reduceIte, reduceCtorEq, Nat.reduceAdd, Nat.reduceLeDiff, Nat.reduceSub, Nat.reduceMul, Int.reduceEq, Int.reduceBEq, Int.reduceBNe, Int.reduceLT, Int.reduceLE, Nat.reduceLT, ex_frz, frzTs_cons, frzTs_nil, frzV_sl, VX, readAt_some]
  generalize σ.freeze1 b = σ2 at hget hnext ⊢
  have hcell : σ2.cells b = some (LEv.cells (y :: l)) := by unfold Store.cells; rw [hget]
  have hlen : (y :: l).length = l.length + 1 := rfl
  have hbig : (y :: l).length < lim := by unfold lim; omega
  obtain ⟨v1, q1, q2⟩ := rb_pref (L := LEv) (h := l.length + 1) hcell (by simp)
  have hc1 := call2 (st := true) (f := 12) (evE_closed e) q1 q2 (by rw [evE_er, List.take_of_length_le (by simp)]; exact (r_fits e (y :: l) hb hbig)) rfl
  rw [f1] at hc1
  have hq : (l.length + 1) / 2 ≤ (y :: l).length := by simp; omega
  obtain ⟨v2, q3, q4⟩ := rb_pref (L := LEv) (h := (l.length + 1) / 2) hcell hq
  have hc2 := call2 (st := true) (f := 12) (evE_closed e) q3 q4 (by rw [evE_er]; exact (r_fits e ((y :: l).take ((l.length + 1) / 2)) hb (by simp; omega))) rfl
  rw [hlen] at f2
  rw [f2] at hc2
  simp only [EX0, EX1, EX2, EX3, EX4, EX5, if_true, if_false, implies_true, forall_const, ne_eq, Nat.reduceEqDiff, reduceIte, reduceCtorEq, Nat.reduceAdd, Nat.reduceLeDiff, Nat.reduceSub, Nat.reduceMul, Int.reduceEq, Int.reduceBEq, Int.reduceBNe, Int.reduceLT, Int.reduceLE, Nat.reduceLT, VX, readAt_some, evE_eta, show LEv.sz = 20 from rfl] at hc1 hc2 ⊢
  have hs : sliceOf 20 (.sl b 0 (l.length + 1) 20 none) none (some (IntKind.wrap .i64 (((l.length + 1 : Nat) : Int).tdiv 2))) none = some (.sl b 0 ((l.length + 1) / 2) 20 none) := by
    have hw : IntKind.wrap .i64 (((l.length + 1 : Nat) : Int).tdiv 2) = (((l.length + 1) / 2 : Nat) : Int) := by
      rw [show (((l.length + 1 : Nat) : Int).tdiv 2) = (((l.length + 1) / 2 : Nat) : Int) from rfl]
      have : (l.length + 1) / 2 < 1000 := by simp at hn; omega
      simp only [IntKind.wrap, IntKind.bits, IntKind.signed]
      simp; omega
    rw [hw]
    have hbd : bounds (l.length + 1) none (some (((l.length + 1) / 2 : Nat) : Int)) = some (0, (l.length + 1) / 2) := by
      simp [bounds]; omega
    simp only [sliceOf, hbd, if_true]
    simp
  have hi1 : ((ids.length : Int) == ((l.length + 1 : Nat) : Int)) = true := by rw [hids]; simp
  have hi2 : (((l.length + 1 : Nat) : Int) == 0) = false := by simp; omega
  have hlo1 : lenOf (.sl b 0 (l.length + 1) 20 none) = some (l.length + 1) := rfl
  have hro1 : rowOf σ2 20 (.sl b 0 (l.length + 1) 20 none) = some (LEv.cells (y :: l)) := by
    have hz := LEv.cells_len (y :: l)
    have hz' : (LEv.cells (y :: l)).length = (l.length + 1) * 20 := hz
    simp only [rowOf, if_true, hcell, List.drop_zero]
    rw [if_pos (by omega), List.take_of_length_le (by omega)]
  have ha1 := app00 (σ := σ2) (sz := 20) (bytes := 312) (n := l.length + 1) (new := LEv.cells (y :: l)) (by omega) (by omega) (by unfold maxBytes; simp at hn; omega) (by have := LEv.cells_len (y :: l); exact this) (LEv.cells_one _) (by omega)
  have hidx : idxOf 20 none (.sl b 0 (l.length + 1) 20 none) (.int .i64 0) = some (.ptr b 0) := by
    simp [idxOf]
  have hne : (σ2.next = b) = False := by simp; omega
  have hlk : look σ2.m b = some (.frz (LEv.cells (y :: l))) := hget
  have h20 : (20 ≤ (LEv.cells (y :: l)).length) = True := by
    have hz : (LEv.cells (y :: l)).length = (l.length + 1) * 20 := LEv.cells_len (y :: l)
    simp only [hz, eq_iff_iff, iff_true]; omega
  have htake : AV.agg (List.take 20 (LEv.cells (y :: l))) = evE y := rfl
  have own3 : Own LEv { next := σ2.next + 1, m := (σ2.next, Blk.own (LEv.cells (y :: l))) :: σ2.m } (some σ2.next) (y :: l) := ⟨by simp [Store.get, look], LEv.cells_len _, by simp, by simp⟩
  have happ := (Gr.own own3).push (a := y) (bytes := 312) (by omega) (by simp at hn; unfold maxBytes; simp; omega)
  have own4 := (Gr.own own3).next (m := [y]) (by simp)
  obtain ⟨v3, q5, q6⟩ := own4.rb
  have hc3 := call2 (st := true) (f := 12) (evE_closed e) q5 q6 (by rw [evE_er]; exact (r_fits e ((y :: l) ++ [y]) hb (by simp at hn ⊢; unfold lim; omega))) rfl
  rw [f3] at hc3
  have hlo2 : lenOf (.vsl [evE y] (some 1)) = some 1 := rfl
  have hro2 : ∀ σ', rowOf σ' 20 (.vsl [evE y] (some 1)) = some (evE y).cells := fun _ => rfl
  have e1 : LEv.f y = evE y := rfl
  simp only [slOf, show LEv.sz = 20 from rfl, e1, evE_cells, List.length_append, List.length_cons, List.length_nil, Nat.zero_add] at happ hc3
  simp only [EX0, EX1, EX2, EX3, EX4, EX5, if_true, if_false, implies_true, forall_const, ne_eq, Nat.reduceEqDiff, reduceIte, reduceCtorEq, Nat.reduceAdd, Nat.reduceLeDiff, Nat.reduceSub, Nat.reduceMul, Int.reduceEq, Int.reduceBEq, Int.reduceBNe, Int.reduceLT, Int.reduceLE, Nat.reduceLT, VX, readAt_some, EXF, evE_eta, hc1, hc2, hs, hi1, hi2, hlo1, hro1, ha1, hidx, hne, hlk, h20, htake, hlo2, hro2, happ, hc3, hr]
end Go.Ab
/- PickFits: how many slots are there, and that none comes twice. -/
namespace Go.Ab
set_option linter.unusedSimpArgs false
set_option maxHeartbeats 1000000
set_option maxRecDepth 100000
theorem pf_end0 {e : Ev} {σ : Store} {r : AV} (hb : e.content.sz < big) (hr : r = .bool true) :
    Ex ipU gU [.code F14_128] [(4, .vptr (evE e).cells 0), (9, .vsl [] none), (11, .nils), (15, .int .i64 0)] σ fun fr' σ1 => (resAll fr' σ1 F14.res).bind (rbE σ1) = some r := by
  have hc1 : cR 12 [evE e, .vsl [] none] = some (.bool true) := r_fits e [] hb (by simp [lim])
  have hw : IntKind.wrap .i64 (Int.tdiv 0 2) = 0 := rfl
  have hs : sliceOf 20 .nils none (some 0) none = some .nils := rfl
  have hi : ((0 : Int) == 0) = true := rfl
  have hl : (([] : List AV).length : Int) = 0 := rfl
  simp only [F14_0, F14_1, F14_2, F14_3, F14_4, F14_5, F14_6, F14_7, F14_8, F14_9, F14_10, F14_11, F14_12, F14_13, F14_14, F14_15, F14_16, F14_17, F14_18, F14_19, F14_20, F14_21, F14_22, F14_23, F14_24, F14_25, F14_26, F14_27, F14_28, F14_29, F14_30, F14_31, F14_32, F14_33, F14_34, F14_35, F14_36, F14_37, F14_38, F14_39, F14_40, F14_41, F14_42, F14_43, F14_44, F14_45, F14_46, F14_47, F14_48, F14_49, F14_50, F14_51, F14_52, F14_53, F14_54, F14_55, F14_56, F14_57, F14_58, F14_59, F14_60, F14_61, F14_62, F14_63, F14_64, F14_65, F14_66, F14_67, F14_68, F14_69, F14_70, F14_71, F14_72, F14_73, F14_74, F14_75, F14_76, F14_77, F14_78, F14_79, F14_80, F14_81, F14_82, F14_83, F14_84, F14_85, F14_86, F14_87, F14_88, F14_89, F14_90, F14_91, F14_92, F14_93, F14_94, F14_95, F14_96, F14_97, F14_98, F14_99, F14_100, F14_101, F14_102, F14_103, F14_104, F14_105, F14_106, F14_107, F14_108, F14_109, F14_110, F14_111, F14_112, F14_113, F14_114, F14_115, F14_116, F14_117, F14_118, F14_119, F14_120, F14_121, F14_122, F14_123, F14_124, F14_125, F14_126, F14_127, F14_128, F14_129, F14_130, F14_131, F14_132, F14_133, F14_134, F14_135, F14_136, F14_137, F14_138, F14_139, F14_140, F14_141, F14_142, F14_143, F14_144, F14_145, F14_146, F14_147, F14_148, F14, EX0, EX1, EX2, EX3, EX4, EX5, if_true, if_false, implies_true, forall_const, ne_eq, Nat.reduceEqDiff, reduceIte, reduceCtorEq, Nat.reduceAdd, Nat.reduceLeDiff, Nat.reduceSub, Nat.reduceMul, Int.reduceEq, Int.reduceBEq, Int.reduceBNe, Int.reduceLT, Int.reduceLE, Nat.reduceLT, EXF, VX, readAt_some, evE_eta, hc1, hw, hs, hi, hr]
  simp
/-- Slices of events of one's own, or none. -/
def SlE (σ : Store) (v : AV) (l : List Ev) : Prop := ∃ ob, v = slOf 20 ob l.length ∧ Own LEv σ ob l
theorem SlE.newset {σ : Store} {v : AV} {l : List Ev} (h : SlE σ v l) (cs cs' : List AV) : SlE { next := σ.next + 1, m := (σ.next, .own cs) :: (σ.next, .own cs') :: σ.m } v l := by
  obtain ⟨ob, h1, h2⟩ := h
  refine ⟨ob, h1, ?_⟩
  cases ob with
  | none => exact h2
  | some b => exact h2.frame (by show look ((σ.next, _) :: (σ.next, _) :: σ.m) b = look σ.m b; have := h2.lt; simp only [look]; rw [if_neg (by omega), if_neg (by omega)]) (by simp)
theorem pf_inner {L : List Ev} {a0 a4 a9 v a15 : AV} {ns : List Slt} {j : Nat} {s : Slt} {σ : Store} {K : List Item} {Q : Fr → Store → Prop} (hn : ns.length < big) (hs : ns[j]? = some s) (hd : ∀ (i : Nat) (x : Slt), i < j → ns[i]? = some x → sEq s x = false) (hg : SlE σ v L)
    (hk : ∀ σ', SlE σ' v L → Ex ipU gU (.code F14_117 :: K) [(0, a0), (4, a4), (9, a9), (10, .vsl (ns.map sltE) none), (11, v), (15, a15), (16, .int .i64 (j : Int))] σ' Q) :
    Ex ipU gU (.code F14_113 :: .inBlock 7 :: .code F14_118 :: K) [(0, a0), (4, a4), (9, a9), (10, .vsl (ns.map sltE) none), (11, v), (15, a15), (16, .int .i64 (j : Int))] σ Q := by
  unfold big at hn
  have hjl : j < ns.length := (List.getElem?_eq_some_iff.1 hs).1
  have hidx := idx_slt (c := none) hs
  simp only [F14_0, F14_1, F14_2, F14_3, F14_4, F14_5, F14_6, F14_7, F14_8, F14_9, F14_10, F14_11, F14_12, F14_13, F14_14, F14_15, F14_16, F14_17, F14_18, F14_19, F14_20, F14_21, F14_22, F14_23, F14_24, F14_25, F14_26, F14_27, F14_28, F14_29, F14_30, F14_31, F14_32, F14_33, F14_34, F14_35, F14_36, F14_37, F14_38, F14_39, F14_40, F14_41, F14_42, F14_43, F14_44, F14_45, F14_46, F14_47, F14_48, F14_49, F14_50, F14_51, F14_52, F14_53, F14_54, F14_55, F14_56, F14_57, F14_58, F14_59, F14_60, F14_61, F14_62, F14_63, F14_64, F14_65, F14_66, F14_67, F14_68, F14_69, F14_70, F14_71, F14_72, F14_73, F14_74, F14_75, F14_76, F14_77, F14_78, F14_79, F14_80, F14_81, F14_82, F14_83, F14_84, F14_85, F14_86, F14_87, F14_88, F14_89, F14_90, F14_91, F14_92, F14_93, F14_94, F14_95, F14_96, F14_97, F14_98, F14_99, F14_100, F14_101, F14_102, F14_103, F14_104, F14_105, F14_106, F14_107, F14_108, F14_110, F14_111, F14_112, F14_113, F14_114, F14_115, F14_116, F14_118, F14_119, F14_120, F14_121, F14_122, F14_123, F14_124, F14_125, F14_126, F14_127, F14_128, F14_129, F14_130, F14_131, F14_132, F14_133, F14_134, F14_135, F14_136, F14_137, F14_138, F14_139, F14_140, F14_141, F14_142, F14_143, F14_144, F14_145, F14_146, F14_147, F14_148, F14, ex_loop, EX0, EX1, EX2, EX3, EX4, EX5, if_true, if_false, implies_true, forall_const, ne_eq, Nat.reduceEqDiff, reduceIte, reduceCtorEq, Nat.reduceAdd, Nat.reduceLeDiff, Nat.reduceSub, Nat.reduceMul, Int.reduceEq, Int.reduceBEq, Int.reduceBNe, Int.reduceLT, Int.reduceLE, Nat.reduceLT, VX, readAt_some]
  refine ex_whileI (S := Nat) (fun i => [(0, a0), (4, a4), (9, a9), (10, .vsl (ns.map sltE) none), (11, v), (15, a15), (16, .int .i64 (j : Int)), (19, .int .i64 (i : Int))]) (fun i => j - i) (fun _ σ' => SlE σ' v L) ?_ 0 _ hg
  intro b i σ' hg' ih
  by_cases hlt : i < j
  · obtain ⟨x, hx⟩ := get_lt (show i < ns.length by omega)
    have hidx2 := idx_slt (c := none) hx
    have hcond := dlt hlt
    have hw := wsucc hlt (by omega)
    have hne := hd i x hlt hx
    simp only [F14_0, F14_1, F14_2, F14_3, F14_4, F14_5, F14_6, F14_7, F14_8, F14_9, F14_10, F14_11, F14_12, F14_13, F14_14, F14_15, F14_16, F14_17, F14_18, F14_19, F14_20, F14_21, F14_22, F14_23, F14_24, F14_25, F14_26, F14_27, F14_28, F14_29, F14_30, F14_31, F14_32, F14_33, F14_34, F14_35, F14_36, F14_37, F14_38, F14_39, F14_40, F14_41, F14_42, F14_43, F14_44, F14_45, F14_46, F14_47, F14_48, F14_49, F14_50, F14_51, F14_52, F14_53, F14_54, F14_55, F14_56, F14_57, F14_58, F14_59, F14_60, F14_61, F14_62, F14_63, F14_64, F14_65, F14_66, F14_67, F14_68, F14_69, F14_70, F14_71, F14_72, F14_73, F14_74, F14_75, F14_76, F14_77, F14_78, F14_79, F14_80, F14_81, F14_82, F14_83, F14_84, F14_85, F14_86, F14_87, F14_88, F14_89, F14_90, F14_91, F14_92, F14_93, F14_94, F14_95, F14_96, F14_97, F14_98, F14_99, F14_100, F14_101, F14_102, F14_103, F14_104, F14_105, F14_106, F14_107, F14_108, F14_109, F14_110, F14_111, F14_112, F14_113, F14_114, F14_115, F14_116, F14_118, F14_119, F14_120, F14_121, F14_122, F14_123, F14_124, F14_125, F14_126, F14_127, F14_128, F14_129, F14_130, F14_131, F14_132, F14_133, F14_134, F14_135, F14_136, F14_137, F14_138, F14_139, F14_140, F14_141, F14_142, F14_143, F14_144, F14_145, F14_146, F14_147, F14_148, F14, EX0, EX1, EX2, EX3, EX4, EX5, if_true, if_false, implies_true, forall_const, ne_eq, Nat.reduceEqDiff, reduceIte, reduceCtorEq, Nat.reduceAdd, Nat.reduceLeDiff, Nat.reduceSub, Nat.reduceMul, Int.reduceEq, Int.reduceBEq, Int.reduceBNe, Int.reduceLT, Int.reduceLE, Nat.reduceLT, VX, readAt_some, hcond, hidx, hidx2, Slt.eta, eqs_slt, hne, hw]
    exact ih (i + 1) _ _ (by omega) hg' rfl
  · have hcond := dge (Nat.not_lt.1 hlt)
    simp only [F14_0, F14_1, F14_2, F14_3, F14_4, F14_5, F14_6, F14_7, F14_8, F14_9, F14_10, F14_11, F14_12, F14_13, F14_14, F14_15, F14_16, F14_17, F14_18, F14_19, F14_20, F14_21, F14_22, F14_23, F14_24, F14_25, F14_26, F14_27, F14_28, F14_29, F14_30, F14_31, F14_32, F14_33, F14_34, F14_35, F14_36, F14_37, F14_38, F14_39, F14_40, F14_41, F14_42, F14_43, F14_44, F14_45, F14_46, F14_47, F14_48, F14_49, F14_50, F14_51, F14_52, F14_53, F14_54, F14_55, F14_56, F14_57, F14_58, F14_59, F14_60, F14_61, F14_62, F14_63, F14_64, F14_65, F14_66, F14_67, F14_68, F14_69, F14_70, F14_71, F14_72, F14_73, F14_74, F14_75, F14_76, F14_77, F14_78, F14_79, F14_80, F14_81, F14_82, F14_83, F14_84, F14_85, F14_86, F14_87, F14_88, F14_89, F14_90, F14_91, F14_92, F14_93, F14_94, F14_95, F14_96, F14_97, F14_98, F14_99, F14_100, F14_101, F14_102, F14_103, F14_104, F14_105, F14_106, F14_107, F14_108, F14_109, F14_110, F14_111, F14_112, F14_113, F14_114, F14_115, F14_116, F14_118, F14_119, F14_120, F14_121, F14_122, F14_123, F14_124, F14_125, F14_126, F14_127, F14_128, F14_129, F14_130, F14_131, F14_132, F14_133, F14_134, F14_135, F14_136, F14_137, F14_138, F14_139, F14_140, F14_141, F14_142, F14_143, F14_144, F14_145, F14_146, F14_147, F14_148, F14, EX0, EX1, EX2, EX3, EX4, EX5, if_true, if_false, implies_true, forall_const, ne_eq, Nat.reduceEqDiff, reduceIte, reduceCtorEq, Nat.reduceAdd, Nat.reduceLeDiff, Nat.reduceSub, Nat.reduceMul, Int.reduceEq, Int.reduceBEq, Int.reduceBNe, Int.reduceLT, Int.reduceLE, Nat.reduceLT, VX, hcond]
    exact hk _ hg'
/-- How many of the slots have an event. -/
def cnt (l : List Ev) (ns : List Slt) : Nat := (ns.filter fun s => (l.find? (isAt s)).isSome).length
theorem cnt_succ {l : List Ev} {ns : List Slt} {j : Nat} {s : Slt} (h : ns[j]? = some s) : cnt l (ns.take (j + 1)) = cnt l (ns.take j) + (if (l.find? (isAt s)).isSome then 1 else 0) := by
  have e : ns.take (j + 1) = ns.take j ++ [s] := by
    rw [List.take_add_one, h]; rfl
  unfold cnt
  rw [e, List.filter_append, List.length_append, List.filter_cons]
  split <;> simp
theorem cnt_le (l : List Ev) (ns : List Slt) : cnt l ns ≤ ns.length := List.length_filter_le _ _
theorem pf_there {e : Ev} {l L : List Ev} {ids : List Bs} {ns : List Slt} {v r : AV} {σ : Store} (hb : e.content.sz < big) (hll : l.length < big) (hls : ∀ x ∈ l, x.prev.length < lim ∧ x.auth.length < lim) (hn : ns.length < 100) (hg : SlE σ v L)
    (hnd : ∀ (i j : Nat) (x y : Slt), i < j → ns[i]? = some x → ns[j]? = some y → sEq y x = false) (hids : ids.length = L.length) (hc : cnt l ns = L.length)
    (f1 : fits e L = true) (f2 : fits e (L.take (L.length / 2)) = true) (f3 : ∀ y l', L = y :: l' → fits e (L ++ [y]) = false) (hr : r = .bool true) :
    Ex ipU gU [.code F14_132] [(0, .vsl (l.map evE) none), (4, .vptr (evE e).cells 0), (9, .vsl (ids.map .str) none), (10, .vsl (ns.map sltE) none), (11, v)] σ fun fr' σ1 => (resAll fr' σ1 F14.res).bind (rbE σ1) = some r := by
  simp only [F14_0, F14_1, F14_2, F14_3, F14_4, F14_5, F14_6, F14_7, F14_8, F14_9, F14_10, F14_11, F14_12, F14_13, F14_14, F14_15, F14_16, F14_17, F14_18, F14_19, F14_20, F14_21, F14_22, F14_23, F14_24, F14_25, F14_26, F14_27, F14_28, F14_29, F14_30, F14_31, F14_32, F14_33, F14_34, F14_35, F14_36, F14_37, F14_38, F14_39, F14_40, F14_41, F14_42, F14_43, F14_44, F14_45, F14_46, F14_47, F14_48, F14_49, F14_50, F14_51, F14_52, F14_53, F14_54, F14_55, F14_56, F14_57, F14_58, F14_59, F14_60, F14_61, F14_62, F14_63, F14_64, F14_65, F14_66, F14_67, F14_68, F14_69, F14_70, F14_71, F14_72, F14_73, F14_74, F14_75, F14_76, F14_77, F14_78, F14_79, F14_80, F14_81, F14_82, F14_83, F14_84, F14_85, F14_86, F14_87, F14_88, F14_89, F14_90, F14_91, F14_92, F14_93, F14_94, F14_95, F14_96, F14_97, F14_98, F14_99, F14_100, F14_101, F14_102, F14_103, F14_104, F14_105, F14_106, F14_107, F14_108, F14_109, F14_110, F14_111, F14_112, F14_114, F14_115, F14_116, F14_118, F14_119, F14_120, F14_122, F14_123, F14_124, F14_125, F14_126, F14_127, F14_129, F14_130, F14_131, F14_132, F14_133, F14_134, F14_135, F14_136, F14_137, F14_138, F14_139, F14_140, F14_141, F14_142, F14_143, F14_144, F14_145, F14_146, F14_147, F14_148, F14, ex_loop, EX0, EX1, EX2, EX3, EX4, EX5, if_true, if_false, implies_true, forall_const, ne_eq, Nat.reduceEqDiff, reduceIte, reduceCtorEq, Nat.reduceAdd, Nat.reduceLeDiff, Nat.reduceSub, Nat.reduceMul, Int.reduceEq, Int.reduceBEq, Int.reduceBNe, Int.reduceLT, Int.reduceLE, Nat.reduceLT, VX, readAt_some]
  refine ex_whileI (S := Nat × Nat) (fun p => [(0, .vsl (l.map evE) none), (4, .vptr (evE e).cells 0), (9, .vsl (ids.map .str) none), (10, .vsl (ns.map sltE) none), (11, v), (15, .int .i64 (p.2 : Int)), (16, .int .i64 (p.1 : Int))]) (fun p => ns.length - p.1)
    (fun p σ' => SlE σ' v L ∧ p.2 = cnt l (ns.take p.1)) ?_ (0, 0) _ ⟨hg, rfl⟩
  rintro b ⟨j, c⟩ σ' ⟨hg', hcj⟩ ih
  simp only at hg' hcj ih ⊢
  by_cases hlt : j < ns.length
  · obtain ⟨s, hs⟩ := get_lt hlt
    have hidx := idx_slt (c := none) hs
    have hcond := dlt hlt
    have hw := wsucc hlt (by omega)
    have hr := r_Of l s hll hls
    have hc1 := cnt_succ (l := l) hs
    have hcl := cnt_le l (ns.take j)
    rw [List.length_take] at hcl
    have hw2 : IntKind.wrap .i64 ((c : Int) + 1) = ((c + 1 : Nat) : Int) := wsucc (j := c) (n := c + 1) (by omega) (by omega)
    have hnx := hg'.newset
    cases hf : l.find? (isAt s) with
    | none =>
      rw [ofE_none hf] at hr
      simp only [hf, Option.isSome_none, Bool.false_eq_true, if_false] at hc1
      simp only [F14_0, F14_1, F14_2, F14_3, F14_4, F14_5, F14_6, F14_7, F14_8, F14_9, F14_10, F14_11, F14_12, F14_13, F14_14, F14_15, F14_16, F14_17, F14_18, F14_19, F14_20, F14_21, F14_22, F14_23, F14_24, F14_25, F14_26, F14_27, F14_28, F14_29, F14_30, F14_31, F14_32, F14_33, F14_34, F14_35, F14_36, F14_37, F14_38, F14_39, F14_40, F14_41, F14_42, F14_43, F14_44, F14_45, F14_46, F14_47, F14_48, F14_49, F14_50, F14_51, F14_52, F14_53, F14_54, F14_55, F14_56, F14_57, F14_58, F14_59, F14_60, F14_61, F14_62, F14_63, F14_64, F14_65, F14_66, F14_67, F14_68, F14_69, F14_70, F14_71, F14_72, F14_73, F14_74, F14_75, F14_76, F14_77, F14_78, F14_79, F14_80, F14_81, F14_82, F14_83, F14_84, F14_85, F14_86, F14_87, F14_88, F14_89, F14_90, F14_91, F14_92, F14_93, F14_94, F14_95, F14_96, F14_97, F14_98, F14_99, F14_100, F14_101, F14_102, F14_103, F14_104, F14_105, F14_106, F14_107, F14_108, F14_109, F14_110, F14_111, F14_112, F14_114, F14_115, F14_116, F14_118, F14_119, F14_120, F14_121, F14_122, F14_123, F14_124, F14_125, F14_126, F14_127, F14_129, F14_130, F14_131, F14_132, F14_133, F14_134, F14_135, F14_136, F14_137, F14_138, F14_139, F14_140, F14_141, F14_142, F14_143, F14_144, F14_145, F14_146, F14_147, F14_148, F14, EX0, EX1, EX2, EX3, EX4, EX5, if_true, if_false, implies_true, forall_const, ne_eq, Nat.reduceEqDiff, reduceIte, reduceCtorEq, Nat.reduceAdd, Nat.reduceLeDiff, Nat.reduceSub, Nat.reduceMul, Int.reduceEq, Int.reduceBEq, Int.reduceBNe, Int.reduceLT, Int.reduceLE, Nat.reduceLT, VX, readAt_some, hcond, hidx, Slt.eta, hr]
      refine pf_inner (by unfold big; omega) hs (fun i x hi hx => hnd i j x s hi hx hs) (hnx _ _) (fun σ2 hg2 => ?_)
      simp only [F14_0, F14_1, F14_2, F14_3, F14_4, F14_5, F14_6, F14_7, F14_8, F14_9, F14_10, F14_11, F14_12, F14_13, F14_14, F14_15, F14_16, F14_17, F14_18, F14_19, F14_20, F14_21, F14_22, F14_23, F14_24, F14_25, F14_26, F14_27, F14_28, F14_29, F14_30, F14_31, F14_32, F14_33, F14_34, F14_35, F14_36, F14_37, F14_38, F14_39, F14_40, F14_41, F14_42, F14_43, F14_44, F14_45, F14_46, F14_47, F14_48, F14_49, F14_50, F14_51, F14_52, F14_53, F14_54, F14_55, F14_56, F14_57, F14_58, F14_59, F14_60, F14_61, F14_62, F14_63, F14_64, F14_65, F14_66, F14_67, F14_68, F14_69, F14_70, F14_71, F14_72, F14_73, F14_74, F14_75, F14_76, F14_77, F14_78, F14_79, F14_80, F14_81, F14_82, F14_83, F14_84, F14_85, F14_86, F14_87, F14_88, F14_89, F14_90, F14_91, F14_92, F14_93, F14_94, F14_95, F14_96, F14_97, F14_98, F14_99, F14_100, F14_101, F14_102, F14_103, F14_104, F14_105, F14_106, F14_107, F14_108, F14_109, F14_110, F14_111, F14_112, F14_114, F14_115, F14_116, F14_117, F14_118, F14_119, F14_120, F14_121, F14_122, F14_123, F14_124, F14_125, F14_126, F14_127, F14_129, F14_130, F14_131, F14_132, F14_133, F14_134, F14_135, F14_136, F14_137, F14_138, F14_139, F14_140, F14_141, F14_142, F14_143, F14_144, F14_145, F14_146, F14_147, F14_148, F14, EX0, EX1, EX2, EX3, EX4, EX5, if_true, if_false, implies_true, forall_const, ne_eq, Nat.reduceEqDiff, reduceIte, reduceCtorEq, Nat.reduceAdd, Nat.reduceLeDiff, Nat.reduceSub, Nat.reduceMul, Int.reduceEq, Int.reduceBEq, Int.reduceBNe, Int.reduceLT, Int.reduceLE, Nat.reduceLT, VX, readAt_some, hw]
      exact ih (j + 1, c) _ _ (by simp; omega) ⟨hg2, by simp only; omega⟩ (by simp only [EX0, EX1, EX2, EX3, EX4, EX5, if_true, if_false, implies_true, forall_const, ne_eq, Nat.reduceEqDiff, reduceIte, reduceCtorEq, Nat.reduceAdd, Nat.reduceLeDiff, Nat.reduceSub, Nat.reduceMul, Int.reduceEq, Int.reduceBEq, Int.reduceBNe, Int.reduceLT, Int.reduceLE, Nat.reduceLT, VX])
    | some y =>
      rw [ofE_some hf] at hr
      simp only [hf, Option.isSome_some, if_true] at hc1
      simp only [F14_0, F14_1, F14_2, F14_3, F14_4, F14_5, F14_6, F14_7, F14_8, F14_9, F14_10, F14_11, F14_12, F14_13, F14_14, F14_15, F14_16, F14_17, F14_18, F14_19, F14_20, F14_21, F14_22, F14_23, F14_24, F14_25, F14_26, F14_27, F14_28, F14_29, F14_30, F14_31, F14_32, F14_33, F14_34, F14_35, F14_36, F14_37, F14_38, F14_39, F14_40, F14_41, F14_42, F14_43, F14_44, F14_45, F14_46, F14_47, F14_48, F14_49, F14_50, F14_51, F14_52, F14_53, F14_54, F14_55, F14_56, F14_57, F14_58, F14_59, F14_60, F14_61, F14_62, F14_63, F14_64, F14_65, F14_66, F14_67, F14_68, F14_69, F14_70, F14_71, F14_72, F14_73, F14_74, F14_75, F14_76, F14_77, F14_78, F14_79, F14_80, F14_81, F14_82, F14_83, F14_84, F14_85, F14_86, F14_87, F14_88, F14_89, F14_90, F14_91, F14_92, F14_93, F14_94, F14_95, F14_96, F14_97, F14_98, F14_99, F14_100, F14_101, F14_102, F14_103, F14_104, F14_105, F14_106, F14_107, F14_108, F14_109, F14_110, F14_111, F14_112, F14_114, F14_115, F14_116, F14_118, F14_119, F14_120, F14_121, F14_122, F14_123, F14_124, F14_125, F14_126, F14_127, F14_129, F14_130, F14_131, F14_132, F14_133, F14_134, F14_135, F14_136, F14_137, F14_138, F14_139, F14_140, F14_141, F14_142, F14_143, F14_144, F14_145, F14_146, F14_147, F14_148, F14, EX0, EX1, EX2, EX3, EX4, EX5, if_true, if_false, implies_true, forall_const, ne_eq, Nat.reduceEqDiff, reduceIte, reduceCtorEq, Nat.reduceAdd, Nat.reduceLeDiff, Nat.reduceSub, Nat.reduceMul, Int.reduceEq, Int.reduceBEq, Int.reduceBNe, Int.reduceLT, Int.reduceLE, Nat.reduceLT, VX, readAt_some, hcond, hidx, Slt.eta, hr, hw2]
      refine pf_inner (by unfold big; omega) hs (fun i x hi hx => hnd i j x s hi hx hs) (hnx _ _) (fun σ2 hg2 => ?_)
      simp only [F14_0, F14_1, F14_2, F14_3, F14_4, F14_5, F14_6, F14_7, F14_8, F14_9, F14_10, F14_11, F14_12, F14_13, F14_14, F14_15, F14_16, F14_17, F14_18, F14_19, F14_20, F14_21, F14_22, F14_23, F14_24, F14_25, F14_26, F14_27, F14_28, F14_29, F14_30, F14_31, F14_32, F14_33, F14_34, F14_35, F14_36, F14_37, F14_38, F14_39, F14_40, F14_41, F14_42, F14_43, F14_44, F14_45, F14_46, F14_47, F14_48, F14_49, F14_50, F14_51, F14_52, F14_53, F14_54, F14_55, F14_56, F14_57, F14_58, F14_59, F14_60, F14_61, F14_62, F14_63, F14_64, F14_65, F14_66, F14_67, F14_68, F14_69, F14_70, F14_71, F14_72, F14_73, F14_74, F14_75, F14_76, F14_77, F14_78, F14_79, F14_80, F14_81, F14_82, F14_83, F14_84, F14_85, F14_86, F14_87, F14_88, F14_89, F14_90, F14_91, F14_92, F14_93, F14_94, F14_95, F14_96, F14_97, F14_98, F14_99, F14_100, F14_101, F14_102, F14_103, F14_104, F14_105, F14_106, F14_107, F14_108, F14_109, F14_110, F14_111, F14_112, F14_114, F14_115, F14_116, F14_117, F14_118, F14_119, F14_120, F14_121, F14_122, F14_123, F14_124, F14_125, F14_126, F14_127, F14_129, F14_130, F14_131, F14_132, F14_133, F14_134, F14_135, F14_136, F14_137, F14_138, F14_139, F14_140, F14_141, F14_142, F14_143, F14_144, F14_145, F14_146, F14_147, F14_148, F14, EX0, EX1, EX2, EX3, EX4, EX5, if_true, if_false, implies_true, forall_const, ne_eq, Nat.reduceEqDiff, reduceIte, reduceCtorEq, Nat.reduceAdd, Nat.reduceLeDiff, Nat.reduceSub, Nat.reduceMul, Int.reduceEq, Int.reduceBEq, Int.reduceBNe, Int.reduceLT, Int.reduceLE, Nat.reduceLT, VX, readAt_some, hw]
      exact ih (j + 1, c + 1) _ _ (by simp; omega) ⟨hg2, by simp only; omega⟩ (by simp only [EX0, EX1, EX2, EX3, EX4, EX5, if_true, if_false, implies_true, forall_const, ne_eq, Nat.reduceEqDiff, reduceIte, reduceCtorEq, Nat.reduceAdd, Nat.reduceLeDiff, Nat.reduceSub, Nat.reduceMul, Int.reduceEq, Int.reduceBEq, Int.reduceBNe, Int.reduceLT, Int.reduceLE, Nat.reduceLT, VX])
  · have hcond := dge (Nat.not_lt.1 hlt)
    rw [List.take_of_length_le (by omega)] at hcj
    simp only [F14_0, F14_1, F14_2, F14_3, F14_4, F14_5, F14_6, F14_7, F14_8, F14_9, F14_10, F14_11, F14_12, F14_13, F14_14, F14_15, F14_16, F14_17, F14_18, F14_19, F14_20, F14_21, F14_22, F14_23, F14_24, F14_25, F14_26, F14_27, F14_28, F14_29, F14_30, F14_31, F14_32, F14_33, F14_34, F14_35, F14_36, F14_37, F14_38, F14_39, F14_40, F14_41, F14_42, F14_43, F14_44, F14_45, F14_46, F14_47, F14_48, F14_49, F14_50, F14_51, F14_52, F14_53, F14_54, F14_55, F14_56, F14_57, F14_58, F14_59, F14_60, F14_61, F14_62, F14_63, F14_64, F14_65, F14_66, F14_67, F14_68, F14_69, F14_70, F14_71, F14_72, F14_73, F14_74, F14_75, F14_76, F14_77, F14_78, F14_79, F14_80, F14_81, F14_82, F14_83, F14_84, F14_85, F14_86, F14_87, F14_88, F14_89, F14_90, F14_91, F14_92, F14_93, F14_94, F14_95, F14_96, F14_97, F14_98, F14_99, F14_100, F14_101, F14_102, F14_103, F14_104, F14_105, F14_106, F14_107, F14_108, F14_109, F14_110, F14_111, F14_112, F14_114, F14_115, F14_116, F14_118, F14_119, F14_120, F14_121, F14_122, F14_123, F14_124, F14_125, F14_126, F14_127, F14_129, F14_130, F14_131, F14_132, F14_133, F14_134, F14_135, F14_136, F14_137, F14_138, F14_139, F14_140, F14_141, F14_142, F14_143, F14_144, F14_145, F14_146, F14_147, F14_148, F14, EX0, EX1, EX2, EX3, EX4, EX5, if_true, if_false, implies_true, forall_const, ne_eq, Nat.reduceEqDiff, reduceIte, reduceCtorEq, Nat.reduceAdd, Nat.reduceLeDiff, Nat.reduceSub, Nat.reduceMul, Int.reduceEq, Int.reduceBEq, Int.reduceBNe, Int.reduceLT, Int.reduceLE, Nat.reduceLT, VX, hcond]
    have hcL : c = L.length := by omega
    subst hcL
    obtain ⟨ob, h1, h2⟩ := hg'
    cases L with
    | nil =>
      have : ids = [] := List.length_eq_zero_iff.1 (by simpa using hids)
      subst this
      cases ob with
      | none => subst h1; exact pf_end0 hb hr
      | some b => exact absurd h2.2.2.2 (by simp)
    | cons y L =>
      cases ob with
      | none => exact absurd h2.1 (by simp)
      | some b =>
        subst h1
        exact pf_end h2 hb (by have := cnt_le l ns; omega) hids f1 f2 (f3 y L rfl) hr
end Go.Ab
/- PickFits: what is picked, put in another order. -/
namespace Go.Ab
set_option linter.unusedSimpArgs false
set_option maxHeartbeats 1000000
set_option maxRecDepth 100000
def rotT (evs : List Ev) (rr : Nat) (j : Nat) : List Ev := (List.range j).map fun i => evs.getD ((i + rr) % evs.length) Ev.zero
theorem rotT_len (evs : List Ev) (rr j : Nat) : (rotT evs rr j).length = j := by simp [rotT]
theorem rotT_succ (evs : List Ev) (rr j : Nat) : rotT evs rr (j + 1) = rotT evs rr j ++ [evs.getD ((j + rr) % evs.length) Ev.zero] := by
  simp [rotT, List.range_succ]
theorem pf_build {e : Ev} {l evs : List Ev} {ns : List Slt} {t : Int} {r : AV} {σ : Store} (hb : e.content.sz < big) (hll : l.length < big) (hls : ∀ x ∈ l, x.prev.length < lim ∧ x.auth.length < lim) (hn : ns.length < 100) (he : evs.length < 100)
    (hfind : ∀ x ∈ evs, findE l x.id = (x, true))
    (hnd : ∀ (i j : Nat) (x y : Slt), i < j → ns[i]? = some x → ns[j]? = some y → sEq y x = false) (hc : cnt l ns = evs.length)
    (f1 : ∀ rr, fits e (rotT evs rr evs.length) = true) (f2 : ∀ rr, fits e ((rotT evs rr evs.length).take (evs.length / 2)) = true) (f3 : ∀ rr y l', rotT evs rr evs.length = y :: l' → fits e (rotT evs rr evs.length ++ [y]) = false) (hr : r = .bool true) :
    Ex ipU gU [.code F14_136] [(0, .vsl (l.map evE) none), (2, .int .i64 t), (4, .vptr (evE e).cells 0), (9, .vsl ((evs.map (·.id)).map .str) none), (10, .vsl (ns.map sltE) none)] σ fun fr' σ1 => (resAll fr' σ1 F14.res).bind (rbE σ1) = some r := by
  simp only [F14_0, F14_1, F14_2, F14_3, F14_4, F14_5, F14_6, F14_7, F14_8, F14_9, F14_10, F14_11, F14_12, F14_13, F14_14, F14_15, F14_16, F14_17, F14_18, F14_19, F14_20, F14_21, F14_22, F14_23, F14_24, F14_25, F14_26, F14_27, F14_28, F14_29, F14_30, F14_31, F14_32, F14_33, F14_34, F14_35, F14_36, F14_37, F14_38, F14_39, F14_40, F14_41, F14_42, F14_43, F14_44, F14_45, F14_46, F14_47, F14_48, F14_49, F14_50, F14_51, F14_52, F14_53, F14_54, F14_55, F14_56, F14_57, F14_58, F14_59, F14_60, F14_61, F14_62, F14_63, F14_64, F14_65, F14_66, F14_67, F14_68, F14_69, F14_70, F14_71, F14_72, F14_73, F14_75, F14_76, F14_77, F14_78, F14_79, F14_80, F14_81, F14_82, F14_83, F14_84, F14_85, F14_86, F14_87, F14_88, F14_89, F14_90, F14_91, F14_92, F14_93, F14_94, F14_95, F14_96, F14_97, F14_98, F14_99, F14_100, F14_101, F14_102, F14_103, F14_104, F14_105, F14_106, F14_107, F14_108, F14_109, F14_110, F14_111, F14_112, F14_113, F14_114, F14_115, F14_116, F14_117, F14_118, F14_119, F14_120, F14_121, F14_122, F14_123, F14_124, F14_125, F14_126, F14_127, F14_128, F14_129, F14_130, F14_131, F14_133, F14_134, F14_135, F14_136, F14_137, F14_138, F14_139, F14_140, F14_141, F14_142, F14_143, F14_144, F14_145, F14_146, F14_147, F14_148, F14, ex_loop, EX0, EX1, EX2, EX3, EX4, EX5, if_true, if_false, implies_true, forall_const, ne_eq, Nat.reduceEqDiff, reduceIte, reduceCtorEq, Nat.reduceAdd, Nat.reduceLeDiff, Nat.reduceSub, Nat.reduceMul, Int.reduceEq, Int.reduceBEq, Int.reduceBNe, Int.reduceLT, Int.reduceLE, Nat.reduceLT, VX, readAt_some]
  refine ex_whileI (S := Nat × AV) (fun p => [(0, .vsl (l.map evE) none), (2, .int .i64 t), (4, .vptr (evE e).cells 0), (9, .vsl ((evs.map (·.id)).map .str) none), (10, .vsl (ns.map sltE) none), (11, p.2), (12, .int .i64 (p.1 : Int))]) (fun p => evs.length - p.1)
    (fun p σ' => SlE σ' p.2 (rotT evs (IntKind.wrap .u64 t % (evs.length : Int)).toNat p.1) ∧ p.1 ≤ evs.length) ?_ (0, .nils) _ ⟨⟨none, rfl, Own.nil _ _⟩, Nat.zero_le _⟩
  rintro b ⟨j, v⟩ σ' ⟨hg', hjl⟩ ih
  simp only at hg' hjl ih ⊢
  by_cases hlt : j < evs.length
  · have hcond := dlt hlt
    have hw := wsucc hlt (by omega)
    generalize hrr : (IntKind.wrap .u64 t % (evs.length : Int)).toNat = rr at hg' ih
    have hpos : (0 : Int) < (evs.length : Int) := by omega
    have hU : 0 ≤ IntKind.wrap .u64 t := by
      simp only [IntKind.wrap, IntKind.bits, IntKind.signed, Bool.false_and, Bool.false_eq_true, if_false]
      exact Int.emod_nonneg _ (by decide)
    have hrrI : IntKind.wrap .u64 t % (evs.length : Int) = (rr : Int) := by
      rw [← hrr, Int.toNat_of_nonneg (Int.emod_nonneg _ (Int.ne_of_gt hpos))]
    have hrl : rr < evs.length := by
      have := Int.emod_lt_of_pos (IntKind.wrap .u64 t) hpos
      omega
    have w1 : IntKind.wrap .u64 (evs.length : Int) = (evs.length : Int) := by
      simp [IntKind.wrap, IntKind.bits, IntKind.signed]
      omega
    have w2 : ((evs.length : Int) = 0) = False := by simp only [eq_iff_iff, iff_false]; omega
    have w3 : (IntKind.wrap .u64 t).tmod (evs.length : Int) = (rr : Int) := by
      rw [Int.tmod_eq_emod_of_nonneg hU]; exact hrrI
    have w4 : IntKind.wrap .i64 (rr : Int) = (rr : Int) := by
      simp only [IntKind.wrap, IntKind.bits, IntKind.signed]
      simp; omega
    have w5 : IntKind.wrap .i64 ((j : Int) + (rr : Int)) = ((j + rr : Nat) : Int) := by
      simp only [IntKind.wrap, IntKind.bits, IntKind.signed]
      simp; omega
    have w6 : Int.tmod ((j + rr : Nat) : Int) (evs.length : Int) = (((j + rr) % evs.length : Nat) : Int) := rfl
    have hq : (j + rr) % evs.length < evs.length := Nat.mod_lt _ (by omega)
    obtain ⟨x, hx⟩ := get_lt hq
    have hx2 : (evs.map (·.id))[(j + rr) % evs.length]? = some x.id := by rw [List.getElem?_map, hx]; rfl
    have hidx := idx_map (f := AV.str) (sz := 1) (c := none) hx2 rfl
    have hf := r_find l x.id hll
    rw [hfind x (List.mem_of_getElem? hx)] at hf
    obtain ⟨ob, hv, ho⟩ := hg'
    have hrl2 := rotT_len evs rr j
    have hx3 : evs.getD ((j + rr) % evs.length) Ev.zero = x := by simp [List.getD, hx]
    have hsucc := rotT_succ evs rr j
    rw [hx3] at hsucc
    have hnx : ∀ cs cs', Own LEv { next := σ'.next + 1, m := (σ'.next, .own cs) :: (σ'.next, .own cs') :: σ'.m } ob (rotT evs rr j) := fun cs cs' => by
      cases ob with
      | none => exact ho
      | some b => exact ho.frame (by show look ((σ'.next, _) :: (σ'.next, _) :: σ'.m) b = look σ'.m b; have := ho.lt; simp only [look]; rw [if_neg (by omega), if_neg (by omega)]) (by simp)
    have hlo : lenOf (.vsl [evE x] (some 1)) = some 1 := rfl
    have hro : ∀ σ', rowOf σ' 20 (.vsl [evE x] (some 1)) = some (evE x).cells := fun _ => rfl
    obtain ⟨σ3, p1, p2, _, _⟩ := (hnx (evE x).cells [.int .i64 0, .int .i64 0, .str [], .nils, .nils, .str [], .str [], .str [], .str [], .str [], .bool false, .int .i64 0, .int .i64 0, .nils, .nils, .int .i64 0, .int .i64 0, .str [], .nils, .nils]).push (a := x) (bytes := 312) (by omega) (by rw [hrl2]; unfold maxBytes; omega)
    rw [show LEv.sz = 20 from rfl, ← hv, show LEv.f x = evE x from rfl] at p1
    simp only [evE_cells] at p1
    simp only [F14_0, F14_1, F14_2, F14_3, F14_4, F14_5, F14_6, F14_7, F14_8, F14_9, F14_10, F14_11, F14_12, F14_13, F14_14, F14_15, F14_16, F14_17, F14_18, F14_19, F14_20, F14_21, F14_22, F14_23, F14_24, F14_25, F14_26, F14_27, F14_28, F14_29, F14_30, F14_31, F14_32, F14_33, F14_34, F14_35, F14_36, F14_37, F14_38, F14_39, F14_40, F14_41, F14_42, F14_43, F14_44, F14_45, F14_46, F14_47, F14_48, F14_49, F14_50, F14_51, F14_52, F14_53, F14_54, F14_55, F14_56, F14_57, F14_58, F14_59, F14_60, F14_61, F14_62, F14_63, F14_64, F14_65, F14_66, F14_67, F14_68, F14_69, F14_70, F14_71, F14_72, F14_73, F14_74, F14_75, F14_76, F14_77, F14_78, F14_79, F14_80, F14_81, F14_82, F14_83, F14_84, F14_85, F14_86, F14_87, F14_88, F14_89, F14_90, F14_91, F14_92, F14_93, F14_94, F14_95, F14_96, F14_97, F14_98, F14_99, F14_100, F14_101, F14_102, F14_103, F14_104, F14_105, F14_106, F14_107, F14_108, F14_109, F14_110, F14_111, F14_112, F14_113, F14_114, F14_115, F14_116, F14_117, F14_118, F14_119, F14_120, F14_121, F14_122, F14_123, F14_124, F14_125, F14_126, F14_127, F14_128, F14_129, F14_130, F14_131, F14_133, F14_134, F14_135, F14_136, F14_137, F14_138, F14_139, F14_140, F14_141, F14_142, F14_143, F14_144, F14_145, F14_146, F14_147, F14_148, F14, EX0, EX1, EX2, EX3, EX4, EX5, if_true, if_false, implies_true, forall_const, ne_eq, Nat.reduceEqDiff, reduceIte, reduceCtorEq, Nat.reduceAdd, Nat.reduceLeDiff, Nat.reduceSub, Nat.reduceMul, Int.reduceEq, Int.reduceBEq, Int.reduceBNe, Int.reduceLT, Int.reduceLE, Nat.reduceLT, VX, readAt_some, hcond, List.length_map, w1, w2, w3, w4, w5, w6, hidx, hf, hlo, hro, p1, hw]
    exact ih (j + 1, _) _ _ (by simp; omega) ⟨⟨_, by rw [hsucc], by rw [hsucc]; exact p2⟩, by simp only; omega⟩ (by simp only [EX0, EX1, EX2, EX3, EX4, EX5, if_true, if_false, implies_true, forall_const, ne_eq, Nat.reduceEqDiff, reduceIte, reduceCtorEq, Nat.reduceAdd, Nat.reduceLeDiff, Nat.reduceSub, Nat.reduceMul, Int.reduceEq, Int.reduceBEq, Int.reduceBNe, Int.reduceLT, Int.reduceLE, Nat.reduceLT, VX])
  · have hcond := dge (Nat.not_lt.1 hlt)
    obtain rfl : j = evs.length := by omega
    simp only [F14_0, F14_1, F14_2, F14_3, F14_4, F14_5, F14_6, F14_7, F14_8, F14_9, F14_10, F14_11, F14_12, F14_13, F14_14, F14_15, F14_16, F14_17, F14_18, F14_19, F14_20, F14_21, F14_22, F14_23, F14_24, F14_25, F14_26, F14_27, F14_28, F14_29, F14_30, F14_31, F14_32, F14_33, F14_34, F14_35, F14_36, F14_37, F14_38, F14_39, F14_40, F14_41, F14_42, F14_43, F14_44, F14_45, F14_46, F14_47, F14_48, F14_49, F14_50, F14_51, F14_52, F14_53, F14_54, F14_55, F14_56, F14_57, F14_58, F14_59, F14_60, F14_61, F14_62, F14_63, F14_64, F14_65, F14_66, F14_67, F14_68, F14_69, F14_70, F14_71, F14_72, F14_73, F14_74, F14_75, F14_76, F14_77, F14_78, F14_79, F14_80, F14_81, F14_82, F14_83, F14_84, F14_85, F14_86, F14_87, F14_88, F14_89, F14_90, F14_91, F14_92, F14_93, F14_94, F14_95, F14_96, F14_97, F14_98, F14_99, F14_100, F14_101, F14_102, F14_103, F14_104, F14_105, F14_106, F14_107, F14_108, F14_109, F14_110, F14_111, F14_112, F14_113, F14_114, F14_115, F14_116, F14_117, F14_118, F14_119, F14_120, F14_121, F14_122, F14_123, F14_124, F14_125, F14_126, F14_127, F14_128, F14_129, F14_130, F14_131, F14_133, F14_134, F14_135, F14_136, F14_137, F14_138, F14_139, F14_140, F14_141, F14_142, F14_143, F14_144, F14_145, F14_146, F14_147, F14_148, F14, EX0, EX1, EX2, EX3, EX4, EX5, if_true, if_false, implies_true, forall_const, ne_eq, Nat.reduceEqDiff, reduceIte, reduceCtorEq, Nat.reduceAdd, Nat.reduceLeDiff, Nat.reduceSub, Nat.reduceMul, Int.reduceEq, Int.reduceBEq, Int.reduceBNe, Int.reduceLT, Int.reduceLE, Nat.reduceLT, VX, hcond]
    have hl := rotT_len evs (IntKind.wrap .u64 t % (evs.length : Int)).toNat evs.length
    exact pf_there hb hll hls hn hg' hnd (by simp [hl]) (by rw [hl]; exact hc) (f1 _) (by rw [hl]; exact f2 _) (f3 _) hr
end Go.Ab
