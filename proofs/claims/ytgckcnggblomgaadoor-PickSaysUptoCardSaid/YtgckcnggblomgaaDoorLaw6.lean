/- What functions of the program, and of the library, answer. Conditions: none. -/
import Derived.Test.YtgckcnggblomgaaDoorLaw5
set_option linter.unusedVariables false
set_option linter.unusedSimpArgs false
set_option linter.defProp false
/- What an event needs. -/
namespace Go.Ab
set_option linter.unusedSimpArgs false
set_option linter.defProp false
set_option maxHeartbeats 1000000
def N4Fa := And.intro @F27_0.eq_1 (And.intro @F27_1.eq_1 (And.intro @F27_2.eq_1 (And.intro @F27_3.eq_1 (And.intro @F27_4.eq_1 (And.intro @F27_5.eq_1 (And.intro @F27_6.eq_1 (And.intro @F27_7.eq_1 (@F27.eq_1))))))))
def N4Fb := And.intro @F5_0.eq_1 (And.intro @F5_1.eq_1 (And.intro @F5_2.eq_1 (And.intro @F5_3.eq_1 (And.intro @F5_4.eq_1 (And.intro @F5_5.eq_1 (And.intro @F5_6.eq_1 (And.intro @F5_7.eq_1 (And.intro @F5_8.eq_1 (And.intro @F5_9.eq_1 (And.intro @F5_10.eq_1 (And.intro @F5_11.eq_1 (And.intro @F5_12.eq_1 (And.intro @F5_13.eq_1 (And.intro @F5_14.eq_1 (And.intro @F5_15.eq_1 (And.intro @F5_16.eq_1 (And.intro @F5_17.eq_1 (And.intro @F5_18.eq_1 (And.intro @F5_19.eq_1 (And.intro @F5_20.eq_1 (And.intro @F5_21.eq_1 (And.intro @F5_22.eq_1 (And.intro @F5_23.eq_1 (And.intro @F5_24.eq_1 (And.intro @F5_25.eq_1 (And.intro @F5_26.eq_1 (And.intro @F5_27.eq_1 (And.intro @F5_28.eq_1 (And.intro @F5_29.eq_1 (And.intro @F5_30.eq_1 (And.intro @F5_31.eq_1 (And.intro @F5_32.eq_1 (And.intro @F5_33.eq_1 (And.intro @F5_34.eq_1 (And.intro @F5_35.eq_1 (And.intro @F5_36.eq_1 (And.intro @F5_37.eq_1 (And.intro @F5_38.eq_1 (And.intro @F5_39.eq_1 (And.intro @F5_40.eq_1 (And.intro @F5_41.eq_1 (And.intro @F5_42.eq_1 (And.intro @F5_43.eq_1 (And.intro @F5_44.eq_1 (And.intro @F5_45.eq_1 (And.intro @F5_46.eq_1 (And.intro @F5_47.eq_1 (And.intro @F5_48.eq_1 (And.intro @F5_49.eq_1 (And.intro @F5_50.eq_1 (And.intro @F5_51.eq_1 (And.intro @F5_52.eq_1 (And.intro @F5_53.eq_1 (And.intro @F5_54.eq_1 (And.intro @F5_55.eq_1 (And.intro @F5_56.eq_1 (And.intro @F5_57.eq_1 (And.intro @F5_58.eq_1 (And.intro @F5_59.eq_1 (@F5.eq_1))))))))))))))))))))))))))))))))))))))))))))))))))))))))))))
def N4Fc := And.intro @F5_0.eq_1 (And.intro @F5_1.eq_1 (And.intro @F5_2.eq_1 (And.intro @F5_3.eq_1 (And.intro @F5_4.eq_1 (And.intro @F5_5.eq_1 (And.intro @F5_6.eq_1 (And.intro @F5_7.eq_1 (And.intro @F5_8.eq_1 (And.intro @F5_9.eq_1 (And.intro @F5_10.eq_1 (And.intro @F5_11.eq_1 (And.intro @F5_12.eq_1 (And.intro @F5_13.eq_1 (And.intro @F5_14.eq_1 (And.intro @F5_15.eq_1 (And.intro @F5_16.eq_1 (And.intro @F5_17.eq_1 (And.intro @F5_18.eq_1 (And.intro @F5_19.eq_1 (And.intro @F5_20.eq_1 (And.intro @F5_21.eq_1 (And.intro @F5_22.eq_1 (And.intro @F5_23.eq_1 (And.intro @F5_24.eq_1 (And.intro @F5_25.eq_1 (And.intro @F5_26.eq_1 (And.intro @F5_27.eq_1 (And.intro @F5_28.eq_1 (And.intro @F5_29.eq_1 (And.intro @F5_30.eq_1 (And.intro @F5_31.eq_1 (And.intro @F5_32.eq_1 (And.intro @F5_33.eq_1 (And.intro @F5_34.eq_1 (And.intro @F5_35.eq_1 (And.intro @F5_36.eq_1 (And.intro @F5_37.eq_1 (And.intro @F5_38.eq_1 (And.intro @F5_40.eq_1 (And.intro @F5_41.eq_1 (And.intro @F5_42.eq_1 (And.intro @F5_43.eq_1 (And.intro @F5_44.eq_1 (And.intro @F5_45.eq_1 (And.intro @F5_46.eq_1 (And.intro @F5_47.eq_1 (And.intro @F5_48.eq_1 (And.intro @F5_49.eq_1 (And.intro @F5_50.eq_1 (And.intro @F5_51.eq_1 (And.intro @F5_52.eq_1 (And.intro @F5_53.eq_1 (And.intro @F5_54.eq_1 (And.intro @F5_55.eq_1 (And.intro @F5_56.eq_1 (And.intro @F5_57.eq_1 (And.intro @F5_58.eq_1 (And.intro @F5_59.eq_1 (@F5.eq_1)))))))))))))))))))))))))))))))))))))))))))))))))))))))))))
def N4Fd := And.intro @F5_0.eq_1 (And.intro @F5_1.eq_1 (And.intro @F5_2.eq_1 (And.intro @F5_3.eq_1 (And.intro @F5_4.eq_1 (And.intro @F5_5.eq_1 (And.intro @F5_6.eq_1 (And.intro @F5_7.eq_1 (And.intro @F5_8.eq_1 (And.intro @F5_9.eq_1 (And.intro @F5_10.eq_1 (And.intro @F5_11.eq_1 (And.intro @F5_12.eq_1 (And.intro @F5_13.eq_1 (And.intro @F5_14.eq_1 (And.intro @F5_15.eq_1 (And.intro @F5_16.eq_1 (And.intro @F5_17.eq_1 (And.intro @F5_18.eq_1 (And.intro @F5_19.eq_1 (And.intro @F5_20.eq_1 (And.intro @F5_21.eq_1 (And.intro @F5_22.eq_1 (And.intro @F5_23.eq_1 (And.intro @F5_24.eq_1 (And.intro @F5_25.eq_1 (And.intro @F5_26.eq_1 (And.intro @F5_27.eq_1 (And.intro @F5_28.eq_1 (And.intro @F5_29.eq_1 (And.intro @F5_30.eq_1 (And.intro @F5_31.eq_1 (And.intro @F5_32.eq_1 (And.intro @F5_33.eq_1 (And.intro @F5_34.eq_1 (And.intro @F5_35.eq_1 (And.intro @F5_36.eq_1 (And.intro @F5_37.eq_1 (And.intro @F5_38.eq_1 (And.intro @F5_39.eq_1 (And.intro @F5_40.eq_1 (And.intro @F5_42.eq_1 (And.intro @F5_43.eq_1 (And.intro @F5_44.eq_1 (And.intro @F5_45.eq_1 (And.intro @F5_46.eq_1 (And.intro @F5_47.eq_1 (And.intro @F5_48.eq_1 (And.intro @F5_49.eq_1 (And.intro @F5_50.eq_1 (And.intro @F5_51.eq_1 (And.intro @F5_52.eq_1 (And.intro @F5_53.eq_1 (And.intro @F5_54.eq_1 (And.intro @F5_55.eq_1 (And.intro @F5_56.eq_1 (And.intro @F5_57.eq_1 (And.intro @F5_58.eq_1 (And.intro @F5_59.eq_1 (@F5.eq_1)))))))))))))))))))))))))))))))))))))))))))))))))))))))))))
def N4Fe := And.intro @F5_0.eq_1 (And.intro @F5_1.eq_1 (And.intro @F5_2.eq_1 (And.intro @F5_3.eq_1 (And.intro @F5_4.eq_1 (And.intro @F5_5.eq_1 (And.intro @F5_6.eq_1 (And.intro @F5_7.eq_1 (And.intro @F5_8.eq_1 (And.intro @F5_9.eq_1 (And.intro @F5_10.eq_1 (And.intro @F5_11.eq_1 (And.intro @F5_12.eq_1 (And.intro @F5_13.eq_1 (And.intro @F5_14.eq_1 (And.intro @F5_15.eq_1 (And.intro @F5_16.eq_1 (And.intro @F5_17.eq_1 (And.intro @F5_18.eq_1 (And.intro @F5_19.eq_1 (And.intro @F5_20.eq_1 (And.intro @F5_21.eq_1 (And.intro @F5_22.eq_1 (And.intro @F5_23.eq_1 (And.intro @F5_24.eq_1 (And.intro @F5_25.eq_1 (And.intro @F5_26.eq_1 (And.intro @F5_27.eq_1 (And.intro @F5_28.eq_1 (And.intro @F5_29.eq_1 (And.intro @F5_30.eq_1 (And.intro @F5_31.eq_1 (And.intro @F5_32.eq_1 (And.intro @F5_33.eq_1 (And.intro @F5_34.eq_1 (And.intro @F5_35.eq_1 (And.intro @F5_36.eq_1 (And.intro @F5_37.eq_1 (And.intro @F5_38.eq_1 (And.intro @F5_39.eq_1 (And.intro @F5_40.eq_1 (And.intro @F5_41.eq_1 (And.intro @F5_42.eq_1 (And.intro @F5_44.eq_1 (And.intro @F5_45.eq_1 (And.intro @F5_46.eq_1 (And.intro @F5_47.eq_1 (And.intro @F5_48.eq_1 (And.intro @F5_49.eq_1 (And.intro @F5_50.eq_1 (And.intro @F5_51.eq_1 (And.intro @F5_52.eq_1 (And.intro @F5_53.eq_1 (And.intro @F5_54.eq_1 (And.intro @F5_55.eq_1 (And.intro @F5_56.eq_1 (And.intro @F5_57.eq_1 (And.intro @F5_58.eq_1 (And.intro @F5_59.eq_1 (@F5.eq_1)))))))))))))))))))))))))))))))))))))))))))))))))))))))))))
def N4Ff := And.intro @F5_0.eq_1 (And.intro @F5_1.eq_1 (And.intro @F5_2.eq_1 (And.intro @F5_3.eq_1 (And.intro @F5_4.eq_1 (And.intro @F5_5.eq_1 (And.intro @F5_6.eq_1 (And.intro @F5_7.eq_1 (And.intro @F5_8.eq_1 (And.intro @F5_9.eq_1 (And.intro @F5_10.eq_1 (And.intro @F5_11.eq_1 (And.intro @F5_12.eq_1 (And.intro @F5_13.eq_1 (And.intro @F5_14.eq_1 (And.intro @F5_15.eq_1 (And.intro @F5_16.eq_1 (And.intro @F5_17.eq_1 (And.intro @F5_18.eq_1 (And.intro @F5_19.eq_1 (And.intro @F5_20.eq_1 (And.intro @F5_21.eq_1 (And.intro @F5_22.eq_1 (And.intro @F5_23.eq_1 (And.intro @F5_24.eq_1 (And.intro @F5_25.eq_1 (And.intro @F5_26.eq_1 (And.intro @F5_27.eq_1 (And.intro @F5_28.eq_1 (And.intro @F5_29.eq_1 (And.intro @F5_30.eq_1 (And.intro @F5_31.eq_1 (And.intro @F5_32.eq_1 (And.intro @F5_33.eq_1 (And.intro @F5_34.eq_1 (And.intro @F5_35.eq_1 (And.intro @F5_36.eq_1 (And.intro @F5_37.eq_1 (And.intro @F5_38.eq_1 (And.intro @F5_39.eq_1 (And.intro @F5_40.eq_1 (And.intro @F5_41.eq_1 (And.intro @F5_42.eq_1 (And.intro @F5_43.eq_1 (And.intro @F5_44.eq_1 (And.intro @F5_46.eq_1 (And.intro @F5_47.eq_1 (And.intro @F5_48.eq_1 (And.intro @F5_49.eq_1 (And.intro @F5_50.eq_1 (And.intro @F5_51.eq_1 (And.intro @F5_52.eq_1 (And.intro @F5_53.eq_1 (And.intro @F5_54.eq_1 (And.intro @F5_55.eq_1 (And.intro @F5_56.eq_1 (And.intro @F5_57.eq_1 (And.intro @F5_58.eq_1 (And.intro @F5_59.eq_1 (@F5.eq_1)))))))))))))))))))))))))))))))))))))))))))))))))))))))))))
set_option maxRecDepth 100000
def addT (l : List Slt) (s : Slt) : List Slt := if hasT l s then l else l ++ [s]
/-- Block b holds a slice of slots. -/
def NSt (σ : Store) (b : Nat) (l : List Slt) : Prop := ∃ v, look σ.m b = some (.own [v]) ∧ Gr LSlt σ v l ∧ b < σ.next ∧ (∀ len sz c, v ≠ .sl b 0 len sz c)
theorem c_more (σ : Store) (b : Nat) (l : List Slt) (s : Slt) (h : NSt σ b l) (hl : l.length < lim) : ∃ σ', callS ipU gU (.fn 27 [] [.ptr b 0]) [sltE s] σ = some (.tup [], σ') ∧ NSt σ' b (addT l s) := by
  unfold lim at hl
  obtain ⟨v, h1, h2, h3, h4⟩ := h
  have hcall : callP ipU gU false (.fn 37 [] []) [v, sltE s] σ = some (.bool (hasT l s), σ) := h2.call1 (by simp only [closedL, sltE_closed, Bool.and_self]) (by simp only [erL, sltE_er]; exact r_containsT l s (by unfold big; omega)) rfl
  cases hh : hasT l s with
  | true =>
    rw [hh] at hcall
    refine ⟨σ, ?_, v, h1, by simpa [addT, hh] using h2, h3, h4⟩
    refine callS_of (F := F27) rfl (first := []) (caps := [.ptr b 0]) ?_
    simp only [N4Fa, EXA, Nat.reduceEqDiff, reduceIte, reduceCtorEq, Nat.reduceAdd, Nat.reduceLeDiff, Nat.reduceSub, Nat.reduceMul, Int.reduceEq, Int.reduceBEq, Int.reduceBNe, Int.reduceLT, Int.reduceLE, Nat.reduceLT, VX, readAt_some, h1, Slt.eta, hcall]
  | false =>
    rw [hh] at hcall
    have happ : appendTo σ 2 32 v [.str s.type, .str s.key] 1 = some _ := h2.push (a := s) (bytes := 32) (by omega) (by unfold maxBytes; omega)
    have hget : look (grNext LSlt σ v l [s]).m b = some (.own [v]) := by
      have := grNext_get (m := [s]) h2 h3 h4
      exact this.trans h1
    have hnx := grNext_next LSlt σ v l [s]
    have hgn := h2.next (m := [s]) (by simp)
    have hlo : lenOf (.vsl [sltE s] (some 1)) = some 1 := rfl
    have hro : ∀ σ', rowOf σ' 2 (.vsl [sltE s] (some 1)) = some [.str s.type, .str s.key] := fun _ => rfl
    refine ⟨{ next := (grNext LSlt σ v l [s]).next, m := (b, .own [.sl σ.next 0 (l ++ [s]).length 2 none]) :: (grNext LSlt σ v l [s]).m }, ?_, .sl σ.next 0 (l ++ [s]).length 2 none, by simp [look], ?_, ?_, ?_⟩
    · refine callS_of (F := F27) rfl (first := []) (caps := [.ptr b 0]) ?_
      simp only [N4Fa, EXA, Nat.reduceEqDiff, reduceIte, reduceCtorEq, Nat.reduceAdd, Nat.reduceLeDiff, Nat.reduceSub, Nat.reduceMul, Int.reduceEq, Int.reduceBEq, Int.reduceBNe, Int.reduceLT, Int.reduceLE, Nat.reduceLT, VX, readAt_some, h1, Slt.eta, hcall, hlo, hro, happ, hget]
      rfl
    · have e : addT l s = l ++ [s] := by simp [addT, hh]
      rw [e]
      exact Gr.own (L := LSlt) (hgn.frame (by show look ((b, _) :: _) σ.next = look _ σ.next; simp only [look]; rw [if_neg (by omega)]) (Nat.le_refl _))
    · show b < (grNext LSlt σ v l [s]).next; omega
    · intro len sz c hv
      simp only [AV.sl.injEq] at hv
      omega
abbrev kCreate : Bs := [109, 46, 114, 111, 111, 109, 46, 99, 114, 101, 97, 116, 101]
abbrev kPower : Bs := [109, 46, 114, 111, 111, 109, 46, 112, 111, 119, 101, 114, 95, 108, 101, 118, 101, 108, 115]
abbrev kMember : Bs := [109, 46, 114, 111, 111, 109, 46, 109, 101, 109, 98, 101, 114]
abbrev kJoins : Bs := [109, 46, 114, 111, 111, 109, 46, 106, 111, 105, 110, 95, 114, 117, 108, 101, 115]
abbrev kThirdInv : Bs := [109, 46, 114, 111, 111, 109, 46, 116, 104, 105, 114, 100, 95, 112, 97, 114, 116, 121, 95, 105, 110, 118, 105, 116, 101]
abbrev kJoin : Bs := [106, 111, 105, 110]
abbrev kInvite : Bs := [105, 110, 118, 105, 116, 101]
abbrev kKnock : Bs := [107, 110, 111, 99, 107]
def addIf (c : Bool) (l : List Slt) (s : Slt) : List Slt := if c then addT l s else l
def base3 (e : Ev) : List Slt := [⟨kCreate, []⟩, ⟨kPower, []⟩, ⟨kMember, e.sender⟩]
def needs (e : Ev) : List Slt :=
  if e.type == kCreate then [] else if !(e.type == kMember) then base3 e else
  let l1 := addT (base3 e) ⟨kMember, e.key⟩
  let to := membershipV e.content
  let l2 := addIf (to == kJoin || (to == kInvite || to == kKnock)) l1 ⟨kJoins, []⟩
  let l3 := addIf ((thirdV e.content).2.2 && to == kInvite) l2 ⟨kThirdInv, (thirdV e.content).1⟩
  addIf ((authV e.content).2 && to == kJoin) l3 ⟨kMember, (authV e.content).1⟩
theorem addT_len (l : List Slt) (s : Slt) : (addT l s).length ≤ l.length + 1 := by
  unfold addT; split <;> simp
theorem addIf_len (c : Bool) (l : List Slt) (s : Slt) : (addIf c l s).length ≤ l.length + 1 := by
  unfold addIf; split
  · exact addT_len l s
  · omega
theorem NSt.rbE {σ : Store} {b : Nat} {l : List Slt} (h : NSt σ b l) : ∃ v, look σ.m b = some (.own [v]) ∧ rbE σ v = some (.vsl (l.map sltE) none) := by
  obtain ⟨v, h1, h2, _⟩ := h
  exact ⟨v, h1, h2.rbE⟩
/-- What stands ahead of each stage. -/
def fr4 (e : Ev) (m : Bs) : Fr := [(1, .vptr (evE e).cells 0), (3, .ptr 0 0), (4, .fn 27 [] [.ptr 0 0]), (5, .str m)]
theorem nd_end {σ : Store} {l : List Slt} {r : AV} (h : NSt σ 0 l) (hr : r = .vsl (l.map sltE) none) :
    Ex ipU gU [.code F5_39] [(3, .ptr 0 0)] σ fun fr' σ1 => (resAll fr' σ1 F5.res).bind (rbE σ1) = some r := by
  obtain ⟨v, h1, h2⟩ := h.rbE
  subst hr
  simp only [N4Fb, EXA, Nat.reduceEqDiff, reduceIte, reduceCtorEq, Nat.reduceAdd, Nat.reduceLeDiff, Nat.reduceSub, Nat.reduceMul, Int.reduceEq, Int.reduceBEq, Int.reduceBNe, Int.reduceLT, Int.reduceLE, Nat.reduceLT, VX, readAt_some, h1, h2]
theorem nd_auth {e : Ev} {m : Bs} {σ : Store} {l : List Slt} {r : AV} (hb : e.content.sz < big) (h : NSt σ 0 l) (hl : l.length < 100)
    (hr : r = .vsl ((addIf ((authV e.content).2 && m == kJoin) l ⟨kMember, (authV e.content).1⟩).map sltE) none) :
    Ex ipU gU [.code F5_41] (fr4 e m) σ fun fr' σ1 => (resAll fr' σ1 F5.res).bind (rbE σ1) = some r := by
  have h30 := r_auth e.content hb
  unfold fr4
  simp only [N4Fc, EXA, Nat.reduceEqDiff, reduceIte, reduceCtorEq, Nat.reduceAdd, Nat.reduceLeDiff, Nat.reduceSub, Nat.reduceMul, Int.reduceEq, Int.reduceBEq, Int.reduceBNe, Int.reduceLT, Int.reduceLE, Nat.reduceLT, VX, readAt_some, h30]
  cases hk : (authV e.content).2 with
  | false =>
    simp only [hk, Bool.false_and, addIf, Bool.false_eq_true, if_false] at hr
    simp only [N4Fc, EXA, Nat.reduceEqDiff, reduceIte, reduceCtorEq, Nat.reduceAdd, Nat.reduceLeDiff, Nat.reduceSub, Nat.reduceMul, Int.reduceEq, Int.reduceBEq, Int.reduceBNe, Int.reduceLT, Int.reduceLE, Nat.reduceLT, VX, readAt_some]
    exact nd_end h hr
  | true =>
    cases hj : m == kJoin with
    | false =>
      simp only [hk, hj, Bool.and_false, addIf, Bool.false_eq_true, if_false] at hr
      simp only [N4Fc, EXA, Nat.reduceEqDiff, reduceIte, reduceCtorEq, Nat.reduceAdd, Nat.reduceLeDiff, Nat.reduceSub, Nat.reduceMul, Int.reduceEq, Int.reduceBEq, Int.reduceBNe, Int.reduceLT, Int.reduceLE, Nat.reduceLT, VX, readAt_some, hj]
      exact nd_end h hr
    | true =>
      simp only [hk, hj, Bool.and_self, addIf, if_true] at hr
      obtain ⟨σ1, q1, n1⟩ := c_more σ 0 l ⟨kMember, (authV e.content).1⟩ h (by unfold lim; omega)
      simp only [N4Fc, EXA, Nat.reduceEqDiff, reduceIte, reduceCtorEq, Nat.reduceAdd, Nat.reduceLeDiff, Nat.reduceSub, Nat.reduceMul, Int.reduceEq, Int.reduceBEq, Int.reduceBNe, Int.reduceLT, Int.reduceLE, Nat.reduceLT, VX, readAt_some, hj, q1]
      exact nd_end n1 hr
theorem nd_third {e : Ev} {m : Bs} {σ : Store} {l : List Slt} {r : AV} (hb : e.content.sz < big) (h : NSt σ 0 l) (hl : l.length < 99)
    (hr : r = .vsl ((addIf ((authV e.content).2 && m == kJoin) (addIf ((thirdV e.content).2.2 && m == kInvite) l ⟨kThirdInv, (thirdV e.content).1⟩) ⟨kMember, (authV e.content).1⟩).map sltE) none) :
    Ex ipU gU [.code F5_43] (fr4 e m) σ fun fr' σ1 => (resAll fr' σ1 F5.res).bind (rbE σ1) = some r := by
  have h29 := r_third e.content hb
  unfold fr4
  simp only [N4Fd, EXA, Nat.reduceEqDiff, reduceIte, reduceCtorEq, Nat.reduceAdd, Nat.reduceLeDiff, Nat.reduceSub, Nat.reduceMul, Int.reduceEq, Int.reduceBEq, Int.reduceBNe, Int.reduceLT, Int.reduceLE, Nat.reduceLT, VX, readAt_some, h29]
  have hl2 := addT_len l ⟨kThirdInv, (thirdV e.content).1⟩
  cases hk : (thirdV e.content).2.2 with
  | false =>
    simp only [hk, Bool.false_and, addIf, Bool.false_eq_true, if_false] at hr
    simp only [N4Fd, EXA, Nat.reduceEqDiff, reduceIte, reduceCtorEq, Nat.reduceAdd, Nat.reduceLeDiff, Nat.reduceSub, Nat.reduceMul, Int.reduceEq, Int.reduceBEq, Int.reduceBNe, Int.reduceLT, Int.reduceLE, Nat.reduceLT, VX, readAt_some]
    exact nd_auth hb h (by omega) hr
  | true =>
    cases hj : m == kInvite with
    | false =>
      simp only [hk, hj, Bool.and_false, addIf, Bool.false_eq_true, if_false] at hr
      simp only [N4Fd, EXA, Nat.reduceEqDiff, reduceIte, reduceCtorEq, Nat.reduceAdd, Nat.reduceLeDiff, Nat.reduceSub, Nat.reduceMul, Int.reduceEq, Int.reduceBEq, Int.reduceBNe, Int.reduceLT, Int.reduceLE, Nat.reduceLT, VX, readAt_some, hj]
      exact nd_auth hb h (by omega) hr
    | true =>
      simp only [hk, hj, Bool.and_self, addIf, if_true] at hr
      obtain ⟨σ1, q1, n1⟩ := c_more σ 0 l ⟨kThirdInv, (thirdV e.content).1⟩ h (by unfold lim; omega)
      simp only [N4Fd, EXA, Nat.reduceEqDiff, reduceIte, reduceCtorEq, Nat.reduceAdd, Nat.reduceLeDiff, Nat.reduceSub, Nat.reduceMul, Int.reduceEq, Int.reduceBEq, Int.reduceBNe, Int.reduceLT, Int.reduceLE, Nat.reduceLT, VX, readAt_some, hj, q1]
      exact nd_auth hb n1 (by omega) hr
theorem nd_join {e : Ev} {m : Bs} {σ : Store} {l : List Slt} {r : AV} (hb : e.content.sz < big) (h : NSt σ 0 l) (hl : l.length < 98)
    (hr : r = .vsl ((addIf ((authV e.content).2 && m == kJoin) (addIf ((thirdV e.content).2.2 && m == kInvite) (addIf (m == kJoin || (m == kInvite || m == kKnock)) l ⟨kJoins, []⟩) ⟨kThirdInv, (thirdV e.content).1⟩) ⟨kMember, (authV e.content).1⟩).map sltE) none) :
    Ex ipU gU [.code F5_45] (fr4 e m) σ fun fr' σ1 => (resAll fr' σ1 F5.res).bind (rbE σ1) = some r := by
  unfold fr4
  have hl2 := addT_len l ⟨kJoins, []⟩
  obtain ⟨σ1, q1, n1⟩ := c_more σ 0 l ⟨kJoins, []⟩ h (by unfold lim; omega)
  cases hj : m == kJoin with
  | true =>
    simp only [hj, Bool.true_or, addIf, if_true] at hr
    simp only [N4Fe, EXA, Nat.reduceEqDiff, reduceIte, reduceCtorEq, Nat.reduceAdd, Nat.reduceLeDiff, Nat.reduceSub, Nat.reduceMul, Int.reduceEq, Int.reduceBEq, Int.reduceBNe, Int.reduceLT, Int.reduceLE, Nat.reduceLT, VX, readAt_some, hj, q1]
    exact nd_third hb n1 (by omega) (by simp only [hj, addIf]; exact hr)
  | false =>
  cases hi : m == kInvite with
  | true =>
    simp only [hj, hi, Bool.true_or, Bool.or_true, addIf, if_true] at hr
    simp only [N4Fe, EXA, Nat.reduceEqDiff, reduceIte, reduceCtorEq, Nat.reduceAdd, Nat.reduceLeDiff, Nat.reduceSub, Nat.reduceMul, Int.reduceEq, Int.reduceBEq, Int.reduceBNe, Int.reduceLT, Int.reduceLE, Nat.reduceLT, VX, readAt_some, hj, hi, q1]
    exact nd_third hb n1 (by omega) (by simp only [hj, hi, addIf]; exact hr)
  | false =>
  cases hk : m == kKnock with
  | true =>
    simp only [hj, hi, hk, Bool.or_true, addIf, if_true] at hr
    simp only [N4Fe, EXA, Nat.reduceEqDiff, reduceIte, reduceCtorEq, Nat.reduceAdd, Nat.reduceLeDiff, Nat.reduceSub, Nat.reduceMul, Int.reduceEq, Int.reduceBEq, Int.reduceBNe, Int.reduceLT, Int.reduceLE, Nat.reduceLT, VX, readAt_some, hj, hi, hk, q1]
    exact nd_third hb n1 (by omega) (by simp only [hj, hi, addIf]; exact hr)
  | false =>
    simp only [hj, hi, hk, Bool.or_self, addIf, Bool.false_eq_true, if_false] at hr
    simp only [N4Fe, EXA, Nat.reduceEqDiff, reduceIte, reduceCtorEq, Nat.reduceAdd, Nat.reduceLeDiff, Nat.reduceSub, Nat.reduceMul, Int.reduceEq, Int.reduceBEq, Int.reduceBNe, Int.reduceLT, Int.reduceLE, Nat.reduceLT, VX, readAt_some, hj, hi, hk]
    exact nd_third hb h (by omega) (by simp only [hj, hi, addIf]; exact hr)
theorem r_needs (e : Ev) (hb : e.content.sz < big) : cR 5 [evE e] = some (.vsl ((needs e).map sltE) none) := by
  have h28 := r_membership e.content hb
  refine cR_of (F := F5) rfl ?_
  obtain ⟨r, hr⟩ : ∃ r, r = AV.vsl ((needs e).map sltE) none := ⟨_, rfl⟩
  rw [← hr]
  unfold needs at hr
  cases hc : e.type == kCreate with
  | true =>
    simp only [hc, if_true, List.map_nil] at hr
    simp only [N4Fb, EXA, Nat.reduceEqDiff, reduceIte, reduceCtorEq, Nat.reduceAdd, Nat.reduceLeDiff, Nat.reduceSub, Nat.reduceMul, Int.reduceEq, Int.reduceBEq, Int.reduceBNe, Int.reduceLT, Int.reduceLE, Nat.reduceLT, VX, readAt_some, hc, hr]
  | false =>
  cases hm : !(e.type == kMember) with
  | true =>
    simp only [hc, hm, if_true, Bool.false_eq_true, if_false] at hr
    simp only [N4Fb, EXA, Nat.reduceEqDiff, reduceIte, reduceCtorEq, Nat.reduceAdd, Nat.reduceLeDiff, Nat.reduceSub, Nat.reduceMul, Int.reduceEq, Int.reduceBEq, Int.reduceBNe, Int.reduceLT, Int.reduceLE, Nat.reduceLT, VX, readAt_some, hc, hm, hr]
    rfl
  | false =>
  simp only [hc, hm, Bool.false_eq_true, if_false] at hr
  simp only [N4Ff, EXA, Nat.reduceEqDiff, reduceIte, reduceCtorEq, Nat.reduceAdd, Nat.reduceLeDiff, Nat.reduceSub, Nat.reduceMul, Int.reduceEq, Int.reduceBEq, Int.reduceBNe, Int.reduceLT, Int.reduceLE, Nat.reduceLT, VX, readAt_some, hc, hm]
  obtain ⟨σ1, q1, n1⟩ := c_more ⟨1, [(0, .own [.vsl ((base3 e).map sltE) (some 3)]), (0, .own [.nils])]⟩ 0 (base3 e) ⟨kMember, e.key⟩ ⟨_, rfl, Gr.lit LSlt _ (base3 e), by simp, fun len sz c h => by simp at h⟩ (by simp [base3, lim])
  have l1 := addT_len (base3 e) ⟨kMember, e.key⟩
  have l0 : (base3 e).length = 3 := rfl
  generalize addT (base3 e) ⟨kMember, e.key⟩ = t1 at n1 l1 hr
  simp only [base3, List.map_cons, List.map_nil] at q1
  simp only [N4Ff, EXA, Nat.reduceEqDiff, reduceIte, reduceCtorEq, Nat.reduceAdd, Nat.reduceLeDiff, Nat.reduceSub, Nat.reduceMul, Int.reduceEq, Int.reduceBEq, Int.reduceBNe, Int.reduceLT, Int.reduceLE, Nat.reduceLT, VX, readAt_some, q1, h28]
  exact nd_join hb n1 (by omega) hr
end Go.Ab
/- What is picked of a state. -/
namespace Go.Ab
set_option linter.unusedSimpArgs false
set_option linter.defProp false
set_option maxHeartbeats 1000000
def N5Fa := And.intro @F8_0.eq_1 (And.intro @F8_1.eq_1 (And.intro @F8_2.eq_1 (And.intro @F8_3.eq_1 (And.intro @F8_4.eq_1 (And.intro @F8_5.eq_1 (And.intro @F8_6.eq_1 (And.intro @F8_7.eq_1 (And.intro @F8_8.eq_1 (And.intro @F8_9.eq_1 (And.intro @F8_10.eq_1 (And.intro @F8_11.eq_1 (And.intro @F8_12.eq_1 (And.intro @F8_13.eq_1 (And.intro @F8_14.eq_1 (And.intro @F8_15.eq_1 (And.intro @F8_16.eq_1 (And.intro @F8_17.eq_1 (And.intro @F8_18.eq_1 (And.intro @F8_19.eq_1 (And.intro @F8_20.eq_1 (And.intro @F8_21.eq_1 (And.intro @F8_22.eq_1 (And.intro @F8_23.eq_1 (And.intro @F8_24.eq_1 (And.intro @F8_25.eq_1 (And.intro @F8_26.eq_1 (And.intro @F8_27.eq_1 (And.intro @F8_28.eq_1 (And.intro @F8_29.eq_1 (And.intro @F8_30.eq_1 (And.intro @F8_31.eq_1 (And.intro @F8_32.eq_1 (And.intro @F8_33.eq_1 (And.intro @F8_34.eq_1 (And.intro @F8_35.eq_1 (And.intro @F8_36.eq_1 (And.intro @F8_37.eq_1 (And.intro @F8_38.eq_1 (@F8.eq_1)))))))))))))))))))))))))))))))))))))))
set_option maxRecDepth 100000
theorem callR_first (id : Nat) (first args caps : List AV) : callR ipU gU (.fn id first caps) args = callR ipU gU (.fn id [] []) (first ++ args ++ caps) := by
  have e : ∀ n, scall ipU (run ipU gU n) (.fn id first caps) args .empty = scall ipU (run ipU gU n) (.fn id [] []) (first ++ args ++ caps) .empty := fun n => by
    simp only [scall, List.nil_append, List.append_nil]
  have h : callS ipU gU (.fn id first caps) args .empty = callS ipU gU (.fn id [] []) (first ++ args ++ caps) .empty := by
    apply Option.ext
    intro x
    constructor
    · intro hx
      obtain ⟨n, hn⟩ := callS_some.1 hx
      exact callS_some.2 ⟨n, by rw [← e]; exact hn⟩
    · intro hx
      obtain ⟨n, hn⟩ := callS_some.1 hx
      exact callS_some.2 ⟨n, by rw [e]; exact hn⟩
  unfold callR
  rw [h]
theorem chain3 (c1 c2 c3 : Bool) (l : List Slt) (s1 s2 s3 : Slt) : (addIf c3 (addIf c2 (addIf c1 l s1) s2) s3).length ≤ l.length + 3 := by
  have h1 := addIf_len c1 l s1
  have h2 := addIf_len c2 (addIf c1 l s1) s2
  have h3 := addIf_len c3 (addIf c2 (addIf c1 l s1) s2) s3
  omega
theorem needs_len (e : Ev) : (needs e).length ≤ 7 := by
  unfold needs
  split
  · simp
  · split
    · simp [base3]
    · have l0 : (base3 e).length = 3 := rfl
      have a1 := addT_len (base3 e) ⟨kMember, e.key⟩
      exact Nat.le_trans (chain3 _ _ _ _ _ _ _) (by omega)
/-- The numbers of the events in the slots. -/
def pickF (l : List Ev) (ns : List Slt) : List Bs := ns.filterMap fun s => (l.find? (isAt s)).map (·.id)
theorem pickF_cons (l : List Ev) (s : Slt) (ns : List Slt) : pickF l (s :: ns) = match l.find? (isAt s) with
    | some e => e.id :: pickF l ns
    | none => pickF l ns := by
  unfold pickF
  rw [List.filterMap_cons]
  cases l.find? (isAt s) <;> rfl
theorem r_pick (l : List Ev) (e : Ev) (hb : e.content.sz < big) (hlen0 : l.length < big) (hs : ∀ x ∈ l, x.prev.length < lim ∧ x.auth.length < lim) :
    cR 8 [.vsl (l.map evE) none, evE e] = some (.vsl ((pickF l (needs e)).map .str) none) := by
  have h5 := r_needs e hb
  have hn7 := needs_len e
  refine cR_of (F := F8) rfl ?_
  generalize needs e = ns at h5 hn7 ⊢
  simp only [F8_0, F8_1, F8_2, F8_3, F8_4, F8_5, F8_6, F8_7, F8_8, F8_9, F8_10, F8_11, F8_12, F8_13, F8_14, F8_15, F8_16, F8_17, F8_18, F8_19, F8_20, F8_21, F8_22, F8_23, F8_25, F8_26, F8_27, F8_28, F8_29, F8_30, F8_31, F8_32, F8_33, F8_34, F8_35, F8_36, F8_37, F8_38, F8, ex_loop, EXA, Nat.reduceEqDiff, reduceIte, reduceCtorEq, Nat.reduceAdd, Nat.reduceLeDiff, Nat.reduceSub, Nat.reduceMul, Int.reduceEq, Int.reduceBEq, Int.reduceBNe, Int.reduceLT, Int.reduceLE, Nat.reduceLT, VX, readAt_some, h5]
  refine ex_whileI (S := Nat × List Bs × AV) (fun p => [(5, .fn 26 [.vsl (l.map evE) none] []), (6, p.2.2), (14, .vsl (ns.map sltE) none), (15, .int .i64 ns.length), (16, .int .i64 (p.1 : Int))]) (fun p => ns.length - p.1)
    (fun p σ => Gr LStr σ p.2.2 p.2.1 ∧ p.2.1.length ≤ p.1 ∧ p.2.1 ++ pickF l (ns.drop p.1) = pickF l ns) ?_ (0, [], .nils) _ ⟨Gr.nil LStr _, by simp, rfl⟩
  rintro b ⟨j, acc, v⟩ σ ⟨hg, hlen, hj⟩ ih
  simp only at hg hlen hj ih ⊢
  by_cases hlt : j < ns.length
  · obtain ⟨x, hx⟩ := get_lt hlt
    have hidx := idx_slt (c := none) hx
    have hcond := dlt hlt
    have hr := r_of l x hlen0 hs
    have hr2 : callR ipU gU (.fn 26 [.vsl (l.map evE) none] []) [sltE x] = some (.tup [evE (ofE l x).1, .bool (ofE l x).2]) := by rw [callR_first]; exact hr
    rw [drop_cons hx, pickF_cons] at hj
    have hw := wsucc hlt (by omega)
    have hn := hg.newset
    have hn2 := fun a b c d => (hn a b).newset c d
    cases hf : l.find? (isAt x) with
    | none =>
      rw [ofE_none hf] at hr2
      simp only [hf] at hj
      simp only [N5Fa, EXA, Nat.reduceEqDiff, reduceIte, reduceCtorEq, Nat.reduceAdd, Nat.reduceLeDiff, Nat.reduceSub, Nat.reduceMul, Int.reduceEq, Int.reduceBEq, Int.reduceBNe, Int.reduceLT, Int.reduceLE, Nat.reduceLT, VX, readAt_some, hcond, hidx, Slt.eta, hr2, hw]
      exact ih (j + 1, acc, v) _ _ (by simp; omega) ⟨hn2 _ _ _ _, by simp; omega, hj⟩ (by simp only [EXA, Nat.reduceEqDiff, reduceIte, reduceCtorEq, Nat.reduceAdd, Nat.reduceLeDiff, Nat.reduceSub, Nat.reduceMul, Int.reduceEq, Int.reduceBEq, Int.reduceBNe, Int.reduceLT, Int.reduceLE, Nat.reduceLT])
    | some y =>
      rw [ofE_some hf] at hr2
      simp only [hf] at hj
      have happ : ∀ a b c d, appendTo _ 1 16 v [.str y.id] 1 = some _ := fun a b c d => (hn2 a b c d).push (a := y.id) (bytes := 16) (by omega) (by unfold maxBytes; omega)
      have hlo : lenOf (.vsl [.str y.id] (some 1)) = some 1 := rfl
      have hro : ∀ σ', rowOf σ' 1 (.vsl [.str y.id] (some 1)) = some [.str y.id] := fun _ => rfl
      simp only [N5Fa, EXA, Nat.reduceEqDiff, reduceIte, reduceCtorEq, Nat.reduceAdd, Nat.reduceLeDiff, Nat.reduceSub, Nat.reduceMul, Int.reduceEq, Int.reduceBEq, Int.reduceBNe, Int.reduceLT, Int.reduceLE, Nat.reduceLT, VX, readAt_some, hcond, hidx, Slt.eta, hr2, happ, hlo, hro, hw]
      exact ih (j + 1, acc ++ [y.id], _) _ _ (by simp; omega) ⟨Gr.own ((hn2 _ _ _ _).next (by simp)), by simp; omega, by simpa using hj⟩ (by simp only [EXA, Nat.reduceEqDiff, reduceIte, reduceCtorEq, Nat.reduceAdd, Nat.reduceLeDiff, Nat.reduceSub, Nat.reduceMul, Int.reduceEq, Int.reduceBEq, Int.reduceBNe, Int.reduceLT, Int.reduceLE, Nat.reduceLT]; rfl)
  · have hcond := dge (Nat.not_lt.1 hlt)
    rw [List.drop_eq_nil_of_le (by omega)] at hj
    have hj2 : acc = pickF l ns := by simpa [pickF] using hj
    have hrb := hg.rbE
    simp only [N5Fa, EXA, Nat.reduceEqDiff, reduceIte, reduceCtorEq, Nat.reduceAdd, Nat.reduceLeDiff, Nat.reduceSub, Nat.reduceMul, Int.reduceEq, Int.reduceBEq, Int.reduceBNe, Int.reduceLT, Int.reduceLE, Nat.reduceLT, VX, hcond, hrb, hj2]
    rfl
end Go.Ab
/- What fits; finding an event by its number. -/
namespace Go.Ab
set_option linter.unusedSimpArgs false
set_option linter.defProp false
set_option maxHeartbeats 1000000
def N6Fa := And.intro @F12_0.eq_1 (And.intro @F12_1.eq_1 (And.intro @F12_2.eq_1 (And.intro @F12_3.eq_1 (And.intro @F12_4.eq_1 (And.intro @F12_5.eq_1 (And.intro @F12_6.eq_1 (And.intro @F12_7.eq_1 (And.intro @F12_8.eq_1 (And.intro @F12_9.eq_1 (And.intro @F12_10.eq_1 (And.intro @F12_11.eq_1 (And.intro @F12_12.eq_1 (And.intro @F12_13.eq_1 (And.intro @F12_14.eq_1 (And.intro @F12_15.eq_1 (And.intro @F12_16.eq_1 (And.intro @F12_17.eq_1 (And.intro @F12_18.eq_1 (And.intro @F12_19.eq_1 (And.intro @F12_20.eq_1 (And.intro @F12_21.eq_1 (And.intro @F12_22.eq_1 (And.intro @F12_23.eq_1 (And.intro @F12_24.eq_1 (And.intro @F12_25.eq_1 (And.intro @F12_26.eq_1 (And.intro @F12_27.eq_1 (And.intro @F12_28.eq_1 (And.intro @F12_29.eq_1 (And.intro @F12_30.eq_1 (And.intro @F12_31.eq_1 (And.intro @F12_32.eq_1 (And.intro @F12_33.eq_1 (And.intro @F12_34.eq_1 (And.intro @F12_35.eq_1 (And.intro @F12_36.eq_1 (And.intro @F12_37.eq_1 (And.intro @F12_38.eq_1 (And.intro @F12_39.eq_1 (And.intro @F12_40.eq_1 (And.intro @F12_41.eq_1 (And.intro @F12_42.eq_1 (@F12.eq_1)))))))))))))))))))))))))))))))))))))))))))
def N6Fc := And.intro @F15_0.eq_1 (And.intro @F15_1.eq_1 (And.intro @F15_2.eq_1 (And.intro @F15_3.eq_1 (And.intro @F15_4.eq_1 (And.intro @F15_5.eq_1 (And.intro @F15_6.eq_1 (And.intro @F15_7.eq_1 (And.intro @F15_8.eq_1 (And.intro @F15_9.eq_1 (And.intro @F15_10.eq_1 (And.intro @F15_11.eq_1 (And.intro @F15_12.eq_1 (And.intro @F15_13.eq_1 (And.intro @F15_14.eq_1 (And.intro @F15_15.eq_1 (And.intro @F15_16.eq_1 (And.intro @F15_17.eq_1 (And.intro @F15_18.eq_1 (And.intro @F15_19.eq_1 (And.intro @F15_20.eq_1 (And.intro @F15_21.eq_1 (And.intro @F15_22.eq_1 (And.intro @F15_23.eq_1 (And.intro @F15_24.eq_1 (And.intro @F15_25.eq_1 (And.intro @F15_26.eq_1 (And.intro @F15_27.eq_1 (@F15.eq_1))))))))))))))))))))))))))))
set_option maxRecDepth 100000
def fitsF (ns : List Slt) : List Slt → List Ev → Bool
  | _, [] => true
  | had, x :: r => if x.isState && (!hasT had x.slot && hasT ns x.slot) then fitsF ns (had ++ [x.slot]) r else false
def fits (e : Ev) (auth : List Ev) : Bool := fitsF (needs e) [] auth
theorem r_fits (e : Ev) (l : List Ev) (hb : e.content.sz < big) (hlen : l.length < lim) : cR 12 [evE e, .vsl (l.map evE) none] = some (.bool (fits e l)) := by
  unfold lim at hlen
  have h5 := r_needs e hb
  have hn7 := needs_len e
  unfold fits
  refine cR_of (F := F12) rfl ?_
  generalize needs e = ns at h5 hn7 ⊢
  have c37 : ∀ s : Slt, cR 37 [.vsl (ns.map sltE) none, sltE s] = some (.bool (hasT ns s)) := fun s => r_containsT ns s (by unfold big; omega)
  simp only [F12_0, F12_1, F12_2, F12_3, F12_4, F12_5, F12_6, F12_7, F12_8, F12_9, F12_10, F12_11, F12_12, F12_13, F12_14, F12_15, F12_16, F12_17, F12_18, F12_19, F12_20, F12_21, F12_22, F12_23, F12_24, F12_25, F12_26, F12_27, F12_29, F12_30, F12_31, F12_32, F12_33, F12_34, F12_35, F12_36, F12_37, F12_38, F12_39, F12_40, F12_41, F12_42, F12, ex_loop, EXA, Nat.reduceEqDiff, reduceIte, reduceCtorEq, Nat.reduceAdd, Nat.reduceLeDiff, Nat.reduceSub, Nat.reduceMul, Int.reduceEq, Int.reduceBEq, Int.reduceBNe, Int.reduceLT, Int.reduceLE, Nat.reduceLT, VX, readAt_some, h5]
  refine ex_whileI (S := Nat × List Slt × AV) (fun p => [(5, .vsl (ns.map sltE) none), (6, p.2.2), (12, .vsl (l.map evE) none), (13, .int .i64 l.length), (14, .int .i64 (p.1 : Int))]) (fun p => l.length - p.1)
    (fun p σ => Gr LSlt σ p.2.2 p.2.1 ∧ p.2.1.length ≤ p.1 ∧ fitsF ns p.2.1 (l.drop p.1) = fitsF ns [] l) ?_ (0, [], .nils) _ ⟨Gr.nil LSlt _, by simp, rfl⟩
  rintro b ⟨j, acc, v⟩ σ ⟨hg, hacc, hj⟩ ih
  simp only at hg hacc hj ih ⊢
  by_cases hlt : j < l.length
  · obtain ⟨x, hx⟩ := get_lt hlt
    have hidx := idx_ev (c := none) hx
    have hcond := dlt hlt
    rw [drop_cons hx, fitsF] at hj
    have hw := wsucc hlt (by omega)
    have hn := hg.newset
    have hn2 := fun a b c d => (hn a b).newset c d
    have hcall : ∀ a b c d, callP ipU gU false (.fn 37 [] []) [v, sltE x.slot] _ = some (.bool (hasT acc x.slot), _) := fun a b c d => (hn2 a b c d).call1 (by simp only [closedL, sltE_closed, Bool.and_self]) (by simp only [erL, sltE_er]; exact r_containsT acc x.slot (by unfold big; omega)) rfl
    have c37' := c37 x.slot
    have hne : (σ.next + 1 = σ.next) = False := by simp
    unfold Ev.slot at hcall c37' hj
    cases h1 : x.isState with
    | false =>
      simp only [h1, Bool.false_and, Bool.false_eq_true, if_false] at hj
      simp only [N6Fa, EXA, Nat.reduceEqDiff, reduceIte, reduceCtorEq, Nat.reduceAdd, Nat.reduceLeDiff, Nat.reduceSub, Nat.reduceMul, Int.reduceEq, Int.reduceBEq, Int.reduceBNe, Int.reduceLT, Int.reduceLE, Nat.reduceLT, VX, readAt_some, hcond, hidx, r_slot, hne, h1, ← hj]
    | true =>
    cases h2 : hasT acc ⟨x.type, x.key⟩ with
    | true =>
      rw [h2] at hcall
      simp only [h1, h2, Bool.not_true, Bool.false_and, Bool.and_false, Bool.false_eq_true, if_false] at hj
      simp only [N6Fa, EXA, Nat.reduceEqDiff, reduceIte, reduceCtorEq, Nat.reduceAdd, Nat.reduceLeDiff, Nat.reduceSub, Nat.reduceMul, Int.reduceEq, Int.reduceBEq, Int.reduceBNe, Int.reduceLT, Int.reduceLE, Nat.reduceLT, VX, readAt_some, hcond, hidx, r_slot, hne, h1, hcall, ← hj]
    | false =>
    rw [h2] at hcall
    cases h3 : hasT ns ⟨x.type, x.key⟩ with
    | false =>
      rw [h3] at c37'
      simp only [h1, h2, h3, Bool.and_false, Bool.false_eq_true, if_false] at hj
      simp only [N6Fa, EXA, Nat.reduceEqDiff, reduceIte, reduceCtorEq, Nat.reduceAdd, Nat.reduceLeDiff, Nat.reduceSub, Nat.reduceMul, Int.reduceEq, Int.reduceBEq, Int.reduceBNe, Int.reduceLT, Int.reduceLE, Nat.reduceLT, VX, readAt_some, hcond, hidx, r_slot, hne, h1, hcall, c37', ← hj]
    | true =>
      rw [h3] at c37'
      simp only [h1, h2, h3, Bool.not_false, Bool.and_self, if_true] at hj
      have happ : ∀ a b c d, appendTo _ 2 32 v [.str x.type, .str x.key] 1 = some _ := fun a b c d => (hn2 a b c d).push (a := (⟨x.type, x.key⟩ : Slt)) (bytes := 32) (by omega) (by unfold maxBytes; omega)
      have hlo : lenOf (.vsl [sltE ⟨x.type, x.key⟩] (some 1)) = some 1 := rfl
      have hro : ∀ σ', rowOf σ' 2 (.vsl [sltE ⟨x.type, x.key⟩] (some 1)) = some [.str x.type, .str x.key] := fun _ => rfl
      simp only [N6Fa, EXA, Nat.reduceEqDiff, reduceIte, reduceCtorEq, Nat.reduceAdd, Nat.reduceLeDiff, Nat.reduceSub, Nat.reduceMul, Int.reduceEq, Int.reduceBEq, Int.reduceBNe, Int.reduceLT, Int.reduceLE, Nat.reduceLT, VX, readAt_some, hcond, hidx, r_slot, hne, h1, hcall, c37', happ, hlo, hro, hw]
      exact ih (j + 1, acc ++ [⟨x.type, x.key⟩], _) _ _ (by simp; omega) ⟨Gr.own ((hn2 _ _ _ _).next (by simp)), by simp; omega, hj⟩ (by simp only [EXA, Nat.reduceEqDiff, reduceIte, reduceCtorEq, Nat.reduceAdd, Nat.reduceLeDiff, Nat.reduceSub, Nat.reduceMul, Int.reduceEq, Int.reduceBEq, Int.reduceBNe, Int.reduceLT, Int.reduceLE, Nat.reduceLT]; rfl)
  · have hcond := dge (Nat.not_lt.1 hlt)
    rw [List.drop_eq_nil_of_le (by omega), fitsF] at hj
    simp only [N6Fa, EXA, Nat.reduceEqDiff, reduceIte, reduceCtorEq, Nat.reduceAdd, Nat.reduceLeDiff, Nat.reduceSub, Nat.reduceMul, Int.reduceEq, Int.reduceBEq, Int.reduceBNe, Int.reduceLT, Int.reduceLE, Nat.reduceLT, VX, hcond, ← hj]
def findE (l : List Ev) (id : Bs) : Ev × Bool := match l.find? (fun x => x.id == id) with
  | some e => (e, true)
  | none => (Ev.zero, false)
theorem find_drop {α : Type} {p : α → Bool} {l : List α} {j : Nat} {x : α} (h : l[j]? = some x) (hp : p x = false) : (l.drop j).find? p = (l.drop (j + 1)).find? p := by
  rw [drop_cons h, List.find?_cons, hp]
theorem r_find (l : List Ev) (id : Bs) (hlen : l.length < big) : cR 15 [.vsl (l.map evE) none, .str id] = some (.tup [evE (findE l id).1, .bool (findE l id).2]) := by
  unfold big at hlen
  refine cR_of (F := F15) rfl ?_
  obtain ⟨r, hr⟩ : ∃ r, r = AV.tup [evE (findE l id).1, .bool (findE l id).2] := ⟨_, rfl⟩
  rw [← hr]
  simp only [F15_0, F15_1, F15_2, F15_3, F15_4, F15_5, F15_6, F15_7, F15_8, F15_9, F15_10, F15_11, F15_12, F15_13, F15_14, F15_15, F15_16, F15_18, F15_19, F15_20, F15_21, F15_22, F15_23, F15_24, F15_25, F15_26, F15_27, F15, ex_loop, EXA, Nat.reduceEqDiff, reduceIte, reduceCtorEq, Nat.reduceAdd, Nat.reduceLeDiff, Nat.reduceSub, Nat.reduceMul, Int.reduceEq, Int.reduceBEq, Int.reduceBNe, Int.reduceLT, Int.reduceLE, Nat.reduceLT, VX, readAt_some]
  refine ex_while (S := Nat) (fun j => [(0, .vsl (l.map evE) none), (1, .str id), (4, .ptr 0 0), (6, .int .i64 (j : Int))]) (fun _ => ⟨1, [(0, .own [.int .i64 0, .int .i64 0, .str [], .nils, .nils, .str [], .str [], .str [], .str [], .str [], .bool false, .int .i64 0, .int .i64 0, .nils, .nils, .int .i64 0, .int .i64 0, .str [], .nils, .nils])]⟩) (fun j => l.length - j) (fun j => (l.drop j).find? (fun x => x.id == id) = l.find? (fun x => x.id == id)) ?_ 0 rfl
  intro b j hj ih
  by_cases hlt : j < l.length
  · obtain ⟨x, hx⟩ := get_lt hlt
    have hidx := idx_ev (c := none) hx
    have hcond := dlt hlt
    have hw := wsucc hlt (by omega)
    cases hp : x.id == id with
    | true =>
      rw [drop_cons hx, List.find?_cons, hp] at hj
      simp only [findE, ← hj] at hr
      simp only [N6Fc, EXA, Nat.reduceEqDiff, reduceIte, reduceCtorEq, Nat.reduceAdd, Nat.reduceLeDiff, Nat.reduceSub, Nat.reduceMul, Int.reduceEq, Int.reduceBEq, Int.reduceBNe, Int.reduceLT, Int.reduceLE, Nat.reduceLT, VX, readAt_some, hcond, hidx, hp, hr]
    | false =>
      rw [find_drop hx hp] at hj
      simp only [N6Fc, EXA, Nat.reduceEqDiff, reduceIte, reduceCtorEq, Nat.reduceAdd, Nat.reduceLeDiff, Nat.reduceSub, Nat.reduceMul, Int.reduceEq, Int.reduceBEq, Int.reduceBNe, Int.reduceLT, Int.reduceLE, Nat.reduceLT, VX, readAt_some, hcond, hidx, hp, hw]
      exact ih (j + 1) _ _ (by omega) hj rfl rfl
  · have hcond := dge (Nat.not_lt.1 hlt)
    rw [List.drop_eq_nil_of_le (by omega), List.find?_nil] at hj
    simp only [findE, ← hj] at hr
    simp only [N6Fc, EXA, Nat.reduceEqDiff, reduceIte, reduceCtorEq, Nat.reduceAdd, Nat.reduceLeDiff, Nat.reduceSub, Nat.reduceMul, Int.reduceEq, Int.reduceBEq, Int.reduceBNe, Int.reduceLT, Int.reduceLE, Nat.reduceLT, VX, readAt_some, hcond, hr, evE_zero]
end Go.Ab
/- How great a value is, as the laws reckon it. -/
namespace Go.Ab
set_option linter.unusedSimpArgs false
set_option linter.defProp false
set_option maxHeartbeats 1000000
def N7Fb := And.intro @F47_0.eq_1 (And.intro @F47_1.eq_1 (And.intro @F47_2.eq_1 (And.intro @F47_3.eq_1 (And.intro @F47_4.eq_1 (And.intro @F47_5.eq_1 (And.intro @F47_6.eq_1 (And.intro @F47_7.eq_1 (And.intro @F47_8.eq_1 (And.intro @F47_9.eq_1 (And.intro @F47_10.eq_1 (And.intro @F47_11.eq_1 (And.intro @F47_12.eq_1 (And.intro @F47_13.eq_1 (And.intro @F47_14.eq_1 (And.intro @F47_15.eq_1 (And.intro @F47_16.eq_1 (And.intro @F47_17.eq_1 (And.intro @F47_18.eq_1 (And.intro @F47_19.eq_1 (And.intro @F47_20.eq_1 (And.intro @F47_21.eq_1 (And.intro @F47_22.eq_1 (And.intro @F47_23.eq_1 (And.intro @F47_24.eq_1 (And.intro @F47_25.eq_1 (And.intro @F47_26.eq_1 (And.intro @F47_27.eq_1 (And.intro @F47_28.eq_1 (And.intro @F47_29.eq_1 (And.intro @F47_30.eq_1 (And.intro @F47_31.eq_1 (And.intro @F47_32.eq_1 (And.intro @F47_33.eq_1 (And.intro @F47_34.eq_1 (And.intro @F47_35.eq_1 (And.intro @F47_36.eq_1 (And.intro @F47_37.eq_1 (And.intro @F47_38.eq_1 (And.intro @F47_39.eq_1 (And.intro @F47_40.eq_1 (And.intro @F47_41.eq_1 (And.intro @F47_42.eq_1 (And.intro @F47_43.eq_1 (And.intro @F47_44.eq_1 (And.intro @F47_45.eq_1 (And.intro @F47_46.eq_1 (And.intro @F47_47.eq_1 (And.intro @F47_48.eq_1 (And.intro @F47_49.eq_1 (And.intro @F47_50.eq_1 (And.intro @F47_51.eq_1 (@F47.eq_1))))))))))))))))))))))))))))))))))))))))))))))))))))
def N7Fc := And.intro @F47_0.eq_1 (And.intro @F47_1.eq_1 (And.intro @F47_2.eq_1 (And.intro @F47_3.eq_1 (And.intro @F47_4.eq_1 (And.intro @F47_5.eq_1 (And.intro @F47_6.eq_1 (And.intro @F47_7.eq_1 (And.intro @F47_8.eq_1 (And.intro @F47_9.eq_1 (And.intro @F47_10.eq_1 (And.intro @F47_11.eq_1 (And.intro @F47_12.eq_1 (And.intro @F47_13.eq_1 (And.intro @F47_14.eq_1 (And.intro @F47_15.eq_1 (And.intro @F47_16.eq_1 (And.intro @F47_17.eq_1 (And.intro @F47_18.eq_1 (And.intro @F47_20.eq_1 (And.intro @F47_21.eq_1 (And.intro @F47_22.eq_1 (And.intro @F47_23.eq_1 (And.intro @F47_24.eq_1 (And.intro @F47_25.eq_1 (And.intro @F47_26.eq_1 (And.intro @F47_27.eq_1 (And.intro @F47_28.eq_1 (And.intro @F47_29.eq_1 (And.intro @F47_30.eq_1 (And.intro @F47_31.eq_1 (And.intro @F47_32.eq_1 (And.intro @F47_33.eq_1 (And.intro @F47_34.eq_1 (And.intro @F47_35.eq_1 (And.intro @F47_36.eq_1 (And.intro @F47_37.eq_1 (And.intro @F47_38.eq_1 (And.intro @F47_39.eq_1 (And.intro @F47_40.eq_1 (And.intro @F47_41.eq_1 (And.intro @F47_42.eq_1 (And.intro @F47_44.eq_1 (And.intro @F47_45.eq_1 (And.intro @F47_46.eq_1 (And.intro @F47_47.eq_1 (And.intro @F47_48.eq_1 (And.intro @F47_49.eq_1 (And.intro @F47_50.eq_1 (And.intro @F47_51.eq_1 (@F47.eq_1))))))))))))))))))))))))))))))))))))))))))))))))))
def N7Fe := And.intro @F47_0.eq_1 (And.intro @F47_1.eq_1 (And.intro @F47_2.eq_1 (And.intro @F47_3.eq_1 (And.intro @F47_4.eq_1 (And.intro @F47_5.eq_1 (And.intro @F47_6.eq_1 (And.intro @F47_7.eq_1 (And.intro @F47_8.eq_1 (And.intro @F47_9.eq_1 (And.intro @F47_10.eq_1 (And.intro @F47_11.eq_1 (And.intro @F47_12.eq_1 (And.intro @F47_13.eq_1 (And.intro @F47_14.eq_1 (And.intro @F47_15.eq_1 (And.intro @F47_16.eq_1 (And.intro @F47_17.eq_1 (And.intro @F47_18.eq_1 (And.intro @F47_19.eq_1 (And.intro @F47_20.eq_1 (And.intro @F47_21.eq_1 (And.intro @F47_22.eq_1 (And.intro @F47_23.eq_1 (And.intro @F47_24.eq_1 (And.intro @F47_25.eq_1 (And.intro @F47_26.eq_1 (And.intro @F47_27.eq_1 (And.intro @F47_28.eq_1 (And.intro @F47_29.eq_1 (And.intro @F47_30.eq_1 (And.intro @F47_31.eq_1 (And.intro @F47_32.eq_1 (And.intro @F47_33.eq_1 (And.intro @F47_34.eq_1 (And.intro @F47_35.eq_1 (And.intro @F47_36.eq_1 (And.intro @F47_37.eq_1 (And.intro @F47_38.eq_1 (And.intro @F47_39.eq_1 (And.intro @F47_40.eq_1 (And.intro @F47_41.eq_1 (And.intro @F47_42.eq_1 (And.intro @F47_44.eq_1 (And.intro @F47_45.eq_1 (And.intro @F47_46.eq_1 (And.intro @F47_47.eq_1 (And.intro @F47_48.eq_1 (And.intro @F47_49.eq_1 (And.intro @F47_50.eq_1 (And.intro @F47_51.eq_1 (@F47.eq_1)))))))))))))))))))))))))))))))))))))))))))))))))))
set_option maxRecDepth 100000
abbrev W (n : Int) : Int := IntKind.wrap .i64 n
mutual
def wt : V → Int → Int → Int
  | .mk _ _ s l m, d, t => if decide (d > 70) = true then W (t + 1) else wtM m d t (wtL l d t (W (1 + (s.length : Int))))
def wtL : List V → Int → Int → Int → Int
  | [], _, _, a => a
  | v :: r, d, t, a => if decide (a ≤ t) = true then wtL r d t (W (a + wt v (W (d + 1)) t)) else a
def wtM : List (Bs × V) → Int → Int → Int → Int
  | [], _, _, a => a
  | (k, v) :: r, d, t, a => if decide (a ≤ t) = true then wtM r d t (W (a + W ((k.length : Int) + wt v (W (d + 1)) t))) else a
end
theorem wtM_cons (x : Mem) (r : List Mem) (d t a : Int) : wtM (x :: r) d t a = if decide (a ≤ t) = true then wtM r d t (W (a + W ((x.1.length : Int) + wt x.2 (W (d + 1)) t))) else a := by
  cases x; rw [wtM]
theorem wt_eq (v : V) (d t : Int) : wt v d t = if decide (d > 70) = true then W (t + 1) else wtM v.m d t (wtL v.l d t (W (1 + (v.s.length : Int)))) := by
  cases v; rw [wt]; rfl
theorem wt_tail (v : V) (d t a : Int) (σ : Store) (hb : v.sz < big) (ih : ∀ x ∈ v.m, ∀ d t : Int, cR 47 [x.2.enc, .int .i64 d, .int .i64 t] = some (.int .i64 (wt x.2 d t))) {r : AV} (hr : r = .int .i64 (wtM v.m d t a)) :
    Ex ipU gU [.code F47_43] [(1, .int .i64 d), (2, .int .i64 t), (3, .vptr [.int .i64 v.kind, .int .i64 v.n, .str v.s, .vsl (v.l.map V.enc) none, .vsl (v.m.map memE) none] 0), (7, .int .i64 a)] σ fun fr' σ1 => (resAll fr' σ1 F47.res).bind (rbE σ1) = some r := by
  have hm := m_len_sz v
  unfold big at hb
  simp only [F47_0, F47_1, F47_2, F47_3, F47_4, F47_5, F47_6, F47_7, F47_8, F47_9, F47_10, F47_11, F47_12, F47_13, F47_14, F47_15, F47_16, F47_17, F47_18, F47_19, F47_20, F47_21, F47_22, F47_23, F47_24, F47_25, F47_26, F47_27, F47_28, F47_29, F47_30, F47_31, F47_32, F47_33, F47_34, F47_36, F47_37, F47_38, F47_39, F47_40, F47_41, F47_42, F47_43, F47_44, F47_45, F47_46, F47_47, F47_48, F47_49, F47_50, F47_51, F47, ex_loop, EXA, Nat.reduceEqDiff, reduceIte, reduceCtorEq, Nat.reduceAdd, Nat.reduceLeDiff, Nat.reduceSub, Nat.reduceMul, Int.reduceEq, Int.reduceBEq, Int.reduceBNe, Int.reduceLT, Int.reduceLE, Nat.reduceLT, VX, readAt_some]
  refine ex_whileI (S := Nat × Int) (fun p => [(1, .int .i64 d), (2, .int .i64 t), (3, .vptr [.int .i64 v.kind, .int .i64 v.n, .str v.s, .vsl (v.l.map V.enc) none, .vsl (v.m.map memE) none] 0), (7, .int .i64 p.2), (9, .int .i64 (p.1 : Int))]) (fun p => v.m.length - p.1)
    (fun p _ => wtM (v.m.drop p.1) d t p.2 = wtM v.m d t a) ?_ (0, a) _ rfl
  rintro b ⟨j, c⟩ σ hj ih2
  simp only at hj ih2 ⊢
  by_cases hlt : j < v.m.length
  · obtain ⟨x, hx⟩ := get_lt hlt
    have hidx := idx_map (f := memE) (sz := 6) (c := none) hx (by simp [memE_cells])
    have hcond := dlt hlt
    have hcall := ih x (List.mem_of_getElem? hx)
    rw [drop_cons hx, wtM_cons] at hj
    cases ha : decide (c ≤ t) with
    | true =>
      simp only [ha, if_true] at hj
      simp only [N7Fb, EXA, Nat.reduceEqDiff, reduceIte, reduceCtorEq, Nat.reduceAdd, Nat.reduceLeDiff, Nat.reduceSub, Nat.reduceMul, Int.reduceEq, Int.reduceBEq, Int.reduceBNe, Int.reduceLT, Int.reduceLE, Nat.reduceLT, VX, readAt_some, hcond, hidx, hcall, ha]
      exact ih2 (j + 1, W (c + W ((x.1.length : Int) + wt x.2 (W (d + 1)) t))) _ _ (by simp; omega) hj (by rw [wsucc hlt (by omega)]; simp only [EXA, Nat.reduceEqDiff, reduceIte, reduceCtorEq, Nat.reduceAdd, Nat.reduceLeDiff, Nat.reduceSub, Nat.reduceMul, Int.reduceEq, Int.reduceBEq, Int.reduceBNe, Int.reduceLT, Int.reduceLE, Nat.reduceLT, VX])
    | false =>
      simp only [ha, Bool.false_eq_true, if_false] at hj
      rw [← hj] at hr
      simp only [N7Fb, EXA, Nat.reduceEqDiff, reduceIte, reduceCtorEq, Nat.reduceAdd, Nat.reduceLeDiff, Nat.reduceSub, Nat.reduceMul, Int.reduceEq, Int.reduceBEq, Int.reduceBNe, Int.reduceLT, Int.reduceLE, Nat.reduceLT, VX, readAt_some, hcond, ha, hr]
  · have hcond := dge (Nat.not_lt.1 hlt)
    rw [List.drop_eq_nil_of_le (by omega), wtM] at hj
    rw [← hj] at hr
    simp only [N7Fb, EXA, Nat.reduceEqDiff, reduceIte, reduceCtorEq, Nat.reduceAdd, Nat.reduceLeDiff, Nat.reduceSub, Nat.reduceMul, Int.reduceEq, Int.reduceBEq, Int.reduceBNe, Int.reduceLT, Int.reduceLE, Nat.reduceLT, VX, readAt_some, hcond, hr]
theorem r_weightN : ∀ (n : Nat) (v : V), v.sz < n → v.sz < big → ∀ d t : Int, cR 47 [v.enc, .int .i64 d, .int .i64 t] = some (.int .i64 (wt v d t)) := by
  intro n
  induction n with
  | zero => intro v h; omega
  | succ n ih =>
    intro v h hb d t
    have hsz := v.sz_eq
    have hl := szL_len v.l
    have ihL : ∀ x ∈ v.l, ∀ d t : Int, cR 47 [x.enc, .int .i64 d, .int .i64 t] = some (.int .i64 (wt x d t)) := fun x hx => by
      have := szL_mem hx
      exact ih x (by omega) (by omega)
    have ihM : ∀ x ∈ v.m, ∀ d t : Int, cR 47 [x.2.enc, .int .i64 d, .int .i64 t] = some (.int .i64 (wt x.2 d t)) := fun x hx => by
      have := szM_mem hx
      exact ih x.2 (by omega) (by omega)
    refine cR_of (F := F47) rfl ?_
    obtain ⟨r, hr⟩ : ∃ r, r = AV.int .i64 (wt v d t) := ⟨_, rfl⟩
    rw [← hr]
    rw [wt_eq] at hr
    cases hd : decide (d > 70) with
    | true =>
      simp only [hd, if_true] at hr
      simp only [N7Fc, EXA, Nat.reduceEqDiff, reduceIte, reduceCtorEq, Nat.reduceAdd, Nat.reduceLeDiff, Nat.reduceSub, Nat.reduceMul, Int.reduceEq, Int.reduceBEq, Int.reduceBNe, Int.reduceLT, Int.reduceLE, Nat.reduceLT, VX, readAt_some, hd, hr]
    | false =>
    simp only [hd, Bool.false_eq_true, if_false] at hr
    unfold big at hb
    simp only [N7Fc, ex_loop, EXA, Nat.reduceEqDiff, reduceIte, reduceCtorEq, Nat.reduceAdd, Nat.reduceLeDiff, Nat.reduceSub, Nat.reduceMul, Int.reduceEq, Int.reduceBEq, Int.reduceBNe, Int.reduceLT, Int.reduceLE, Nat.reduceLT, VX, readAt_some, hd]
    refine ex_whileI (S := Nat × Int) (fun p => [(1, .int .i64 d), (2, .int .i64 t), (3, .vptr [.int .i64 v.kind, .int .i64 v.n, .str v.s, .vsl (v.l.map V.enc) none, .vsl (v.m.map memE) none] 0), (7, .int .i64 p.2), (8, .int .i64 (p.1 : Int))]) (fun p => v.l.length - p.1)
      (fun p _ => wtL (v.l.drop p.1) d t p.2 = wtL v.l d t (W (1 + (v.s.length : Int)))) ?_ (0, _) _ rfl
    rintro b ⟨j, c⟩ σ hj ih2
    simp only at hj ih2 ⊢
    by_cases hlt : j < v.l.length
    · obtain ⟨x, hx⟩ := get_lt hlt
      have hidx := idx_map (f := V.enc) (sz := 5) (c := none) hx (by simp [V.enc_cells])
      have hcond := dlt hlt
      have hcall := ihL x (List.mem_of_getElem? hx)
      rw [drop_cons hx, wtL] at hj
      cases ha : decide (c ≤ t) with
      | true =>
        simp only [ha, if_true] at hj
        simp only [N7Fe, EXA, Nat.reduceEqDiff, reduceIte, reduceCtorEq, Nat.reduceAdd, Nat.reduceLeDiff, Nat.reduceSub, Nat.reduceMul, Int.reduceEq, Int.reduceBEq, Int.reduceBNe, Int.reduceLT, Int.reduceLE, Nat.reduceLT, VX, readAt_some, hcond, hidx, hcall, ha]
        exact ih2 (j + 1, W (c + wt x (W (d + 1)) t)) _ _ (by simp; omega) hj (by rw [wsucc hlt (by omega)]; simp only [EXA, Nat.reduceEqDiff, reduceIte, reduceCtorEq, Nat.reduceAdd, Nat.reduceLeDiff, Nat.reduceSub, Nat.reduceMul, Int.reduceEq, Int.reduceBEq, Int.reduceBNe, Int.reduceLT, Int.reduceLE, Nat.reduceLT, VX])
      | false =>
        simp only [ha, Bool.false_eq_true, if_false] at hj
        rw [← hj] at hr
        simp only [N7Fe, EXA, Nat.reduceEqDiff, reduceIte, reduceCtorEq, Nat.reduceAdd, Nat.reduceLeDiff, Nat.reduceSub, Nat.reduceMul, Int.reduceEq, Int.reduceBEq, Int.reduceBNe, Int.reduceLT, Int.reduceLE, Nat.reduceLT, VX, readAt_some, hcond, ha]
        exact wt_tail v d t c _ hb ihM hr
    · have hcond := dge (Nat.not_lt.1 hlt)
      rw [List.drop_eq_nil_of_le (by omega), wtL] at hj
      rw [← hj] at hr
      simp only [N7Fe, EXA, Nat.reduceEqDiff, reduceIte, reduceCtorEq, Nat.reduceAdd, Nat.reduceLeDiff, Nat.reduceSub, Nat.reduceMul, Int.reduceEq, Int.reduceBEq, Int.reduceBNe, Int.reduceLT, Int.reduceLE, Nat.reduceLT, VX, readAt_some, hcond]
      exact wt_tail v d t c _ hb ihM hr
def lightV (v : V) (t : Int) : Bool := decide (wt v 0 t ≤ t)
theorem r_lightV (v : V) (t : Int) (hb : v.sz < big) : cR 24 [v.enc, .int .i64 t] = some (.bool (lightV v t)) := by
  have h := r_weightN (v.sz + 1) v (Nat.lt_succ_self _) hb
  refine cR_of (F := F24) rfl ?_
  simp only [F24_0, F24_1, F24_2, F24_3, F24_4, F24, EXA, Nat.reduceEqDiff, reduceIte, reduceCtorEq, Nat.reduceAdd, Nat.reduceLeDiff, Nat.reduceSub, Nat.reduceMul, Int.reduceEq, Int.reduceBEq, Int.reduceBNe, Int.reduceLT, Int.reduceLE, Nat.reduceLT, VX, readAt_some, h, lightV]
end Go.Ab
