/- What functions of the program, and of the library, answer. Conditions: none. -/
import Derived.Test.YtgckcnggblomgaaDoorLaw4
set_option linter.unusedVariables false
set_option linter.unusedSimpArgs false
set_option linter.defProp false
/- What contents say. -/
namespace Go.Ab
set_option linter.unusedSimpArgs false
set_option maxHeartbeats 1000000
set_option maxRecDepth 100000
abbrev kThird : Bs := [116, 104, 105, 114, 100, 95, 112, 97, 114, 116, 121, 95, 105, 110, 118, 105, 116, 101]
abbrev kSigned : Bs := [115, 105, 103, 110, 101, 100]
abbrev kToken : Bs := [116, 111, 107, 101, 110]
abbrev kMxid : Bs := [109, 120, 105, 100]
abbrev kAuthd : Bs := [106, 111, 105, 110, 95, 97, 117, 116, 104, 111, 114, 105, 115, 101, 100, 95, 118, 105, 97, 95, 117, 115, 101, 114, 115, 95, 115, 101, 114, 118, 101, 114]
abbrev kType : Bs := [116, 121, 112, 101]
abbrev kRoomId : Bs := [114, 111, 111, 109, 95, 105, 100]
abbrev kMRM : Bs := [109, 46, 114, 111, 111, 109, 95, 109, 101, 109, 98, 101, 114, 115, 104, 105, 112]
abbrev kAllow : Bs := [97, 108, 108, 111, 119]
abbrev kJoinRule : Bs := [106, 111, 105, 110, 95, 114, 117, 108, 101]
abbrev kMembership : Bs := [109, 101, 109, 98, 101, 114, 115, 104, 105, 112]

theorem V.zero_sz : V.zero.sz = 1 := rfl
theorem said_sz (v : V) : (said v).sz ≤ v.sz := by
  unfold said
  split
  · exact Nat.le_refl _
  · rw [V.zero_sz]; exact v.sz_pos
theorem getV_sz (v : V) (k : Bs) : (getV v k).1.sz ≤ v.sz := by
  unfold getV
  split
  · rename_i x _ hx
    have := szM_mem (List.mem_of_getElem? hx)
    have := v.sz_eq
    simp only; omega
  · simp only; rw [V.zero_sz]; exact v.sz_pos
theorem m_len_sz (v : V) : v.m.length ≤ v.sz := by have := v.sz_eq; have := szM_len v.m; omega
theorem l_len_sz (v : V) : v.l.length ≤ v.sz := by have := v.sz_eq; have := szL_len v.l; omega
theorem s_len_sz (v : V) : v.s.length ≤ v.sz := by have := v.sz_eq; omega
theorem textAt_len (v : V) (k : Bs) : (textAt v k).1.length ≤ v.sz := by
  unfold textAt
  split
  · have := s_len_sz (getV v k).1; have := getV_sz v k; simp only; omega
  · simp
theorem r_textAt (v : V) (k : Bs) (hb : v.sz < big) : cR 46 [v.enc, .str k] = some (.tup [.str (textAt v k).1, .bool (textAt v k).2]) := r_TextAt v k (by have := m_len_sz v; omega)
theorem r_get (v : V) (k : Bs) (hb : v.sz < big) : cR 63 [v.enc, .str k] = some (.tup [(getV v k).1.enc, .bool (getV v k).2]) := r_Get v k (by have := m_len_sz v; omega)

def itemsV (v : V) (k : Bs) : List V := if (getV v k).1.kind = 4 then (getV v k).1.l else []
theorem r_items (v : V) (k : Bs) (hb : v.sz < big) : cR 44 [v.enc, .str k] = some (.vsl ((itemsV v k).map V.enc) none) := by
  refine cR_of (F := F44) rfl ?_
  have hg := r_get v k hb
  unfold itemsV
  generalize getV v k = g at hg ⊢
  by_cases h4 : g.1.kind = 4
  · have q : (g.1.kind != 4) = false := by simp [h4]
    simp only [F44_0, F44_1, F44_2, F44_3, F44_4, F44_5, F44_6, F44_7, F44_8, F44_9, F44_10, F44_11, F44_12, F44_13, F44_14, F44_15, F44, EX0, EX1, EX2, EX3, EX4, EX5, if_true, if_false, implies_true, forall_const, ne_eq, Nat.reduceEqDiff, reduceIte, reduceCtorEq, Nat.reduceAdd, Nat.reduceLeDiff, Nat.reduceSub, Nat.reduceMul, Int.reduceEq, Int.reduceBEq, Int.reduceBNe, Int.reduceLT, Int.reduceLE, Nat.reduceLT, VX, readAt_some, hg, q, h4]
  · have q : (g.1.kind != 4) = true := by simp [h4]
    simp only [F44_0, F44_1, F44_2, F44_3, F44_4, F44_5, F44_6, F44_7, F44_8, F44_9, F44_10, F44_11, F44_12, F44_13, F44_14, F44_15, F44, EX0, EX1, EX2, EX3, EX4, EX5, if_true, if_false, implies_true, forall_const, ne_eq, Nat.reduceEqDiff, reduceIte, reduceCtorEq, Nat.reduceAdd, Nat.reduceLeDiff, Nat.reduceSub, Nat.reduceMul, Int.reduceEq, Int.reduceBEq, Int.reduceBNe, Int.reduceLT, Int.reduceLE, Nat.reduceLT, VX, readAt_some, hg, q, h4]
def tableV (v : V) (k : Bs) : V × Bool := if (getV v k).2 && (getV v k).1.kind == 5 then ((getV v k).1, true) else (V.zero, false)
theorem tableV_sz (v : V) (k : Bs) : (tableV v k).1.sz ≤ v.sz := by
  unfold tableV
  split
  · exact getV_sz v k
  · simp only; rw [V.zero_sz]; exact v.sz_pos
theorem r_tableAt (v : V) (k : Bs) (hb : v.sz < big) : cR 67 [v.enc, .str k] = some (.tup [(tableV v k).1.enc, .bool (tableV v k).2]) := by
  refine cR_of (F := F67) rfl ?_
  have hg := r_get v k hb
  unfold tableV
  generalize getV v k = g at hg ⊢
  obtain ⟨x, ok⟩ := g
  simp only at hg ⊢
  cases ok
  · simp only [F67_0, F67_1, F67_2, F67_3, F67_4, F67_5, F67_6, F67_7, F67_8, F67_9, F67_10, F67_11, F67_12, F67_13, F67_14, F67_15, F67, EX0, EX1, EX2, EX3, EX4, EX5, if_true, if_false, implies_true, forall_const, ne_eq, Nat.reduceEqDiff, reduceIte, reduceCtorEq, Nat.reduceAdd, Nat.reduceLeDiff, Nat.reduceSub, Nat.reduceMul, Int.reduceEq, Int.reduceBEq, Int.reduceBNe, Int.reduceLT, Int.reduceLE, Nat.reduceLT, VX, readAt_some, hg, Bool.false_and, V.zero]
  · by_cases h5 : x.kind = 5
    · have q : (x.kind != 5) = false := by simp [h5]
      have q2 : (x.kind == 5) = true := by simp [h5]
      simp only [F67_0, F67_1, F67_2, F67_3, F67_4, F67_5, F67_6, F67_7, F67_8, F67_9, F67_10, F67_11, F67_12, F67_13, F67_14, F67_15, F67, EX0, EX1, EX2, EX3, EX4, EX5, if_true, if_false, implies_true, forall_const, ne_eq, Nat.reduceEqDiff, reduceIte, reduceCtorEq, Nat.reduceAdd, Nat.reduceLeDiff, Nat.reduceSub, Nat.reduceMul, Int.reduceEq, Int.reduceBEq, Int.reduceBNe, Int.reduceLT, Int.reduceLE, Nat.reduceLT, VX, readAt_some, hg, q, q2]
    · have q : (x.kind != 5) = true := by simp [h5]
      have q2 : (x.kind == 5) = false := by simp [h5]
      simp only [F67_0, F67_1, F67_2, F67_3, F67_4, F67_5, F67_6, F67_7, F67_8, F67_9, F67_10, F67_11, F67_12, F67_13, F67_14, F67_15, F67, EX0, EX1, EX2, EX3, EX4, EX5, if_true, if_false, implies_true, forall_const, ne_eq, Nat.reduceEqDiff, reduceIte, reduceCtorEq, Nat.reduceAdd, Nat.reduceLeDiff, Nat.reduceSub, Nat.reduceMul, Int.reduceEq, Int.reduceBEq, Int.reduceBNe, Int.reduceLT, Int.reduceLE, Nat.reduceLT, VX, readAt_some, hg, q, q2, V.zero]
def membershipV (c : V) : Bs := (textAt (said c) kMembership).1
theorem r_membership (c : V) (hb : c.sz < big) : cR 28 [c.enc] = some (.str (membershipV c)) := by
  have h1 := r_said c hb
  have h2 := r_textAt (said c) kMembership (by have := said_sz c; omega)
  refine cR_of (F := F28) rfl ?_
  simp only [F28_0, F28_1, F28_2, F28_3, F28_4, F28_5, F28_6, F28_7, F28, EX0, EX1, EX2, EX3, EX4, EX5, if_true, if_false, implies_true, forall_const, ne_eq, Nat.reduceEqDiff, reduceIte, reduceCtorEq, Nat.reduceAdd, Nat.reduceLeDiff, Nat.reduceSub, Nat.reduceMul, Int.reduceEq, Int.reduceBEq, Int.reduceBNe, Int.reduceLT, Int.reduceLE, Nat.reduceLT, VX, readAt_some, h1, h2, membershipV]
def ruleV (c : V) : Bs := (textAt (said c) kJoinRule).1
theorem r_rule (c : V) (hb : c.sz < big) : cR 23 [c.enc] = some (.str (ruleV c)) := by
  have h1 := r_said c hb
  have h2 := r_textAt (said c) kJoinRule (by have := said_sz c; omega)
  refine cR_of (F := F23) rfl ?_
  simp only [F23_0, F23_1, F23_2, F23_3, F23_4, F23_5, F23_6, F23_7, F23, EX0, EX1, EX2, EX3, EX4, EX5, if_true, if_false, implies_true, forall_const, ne_eq, Nat.reduceEqDiff, reduceIte, reduceCtorEq, Nat.reduceAdd, Nat.reduceLeDiff, Nat.reduceSub, Nat.reduceMul, Int.reduceEq, Int.reduceBEq, Int.reduceBNe, Int.reduceLT, Int.reduceLE, Nat.reduceLT, VX, readAt_some, h1, h2, ruleV]
def authV (c : V) : Bs × Bool := if (partsB (textAt (said c) kAuthd).1 64).2.2 = true then ((textAt (said c) kAuthd).1, true) else ([], false)
theorem r_auth (c : V) (hb : c.sz < big) : cR 30 [c.enc] = some (.tup [.str (authV c).1, .bool (authV c).2]) := by
  have h1 := r_said c hb
  have hz := said_sz c
  have h2 := r_textAt (said c) kAuthd (by omega)
  have h3 := r_User (textAt (said c) kAuthd).1 (by have := textAt_len (said c) kAuthd; omega)
  refine cR_of (F := F30) rfl ?_
  unfold authV
  cases hp : (partsB (textAt (said c) kAuthd).1 64).2.2
  · rw [hp] at h3
    simp only [F30_0, F30_1, F30_2, F30_3, F30_4, F30_5, F30_6, F30_7, F30_8, F30_9, F30_10, F30_11, F30_12, F30_13, F30_14, F30_15, F30_16, F30_17, F30_18, F30, EX0, EX1, EX2, EX3, EX4, EX5, if_true, if_false, implies_true, forall_const, ne_eq, Nat.reduceEqDiff, reduceIte, reduceCtorEq, Nat.reduceAdd, Nat.reduceLeDiff, Nat.reduceSub, Nat.reduceMul, Int.reduceEq, Int.reduceBEq, Int.reduceBNe, Int.reduceLT, Int.reduceLE, Nat.reduceLT, VX, readAt_some, h1, h2, h3, hp]
  · rw [hp] at h3
    simp only [F30_0, F30_1, F30_2, F30_3, F30_4, F30_5, F30_6, F30_7, F30_8, F30_9, F30_10, F30_11, F30_12, F30_13, F30_14, F30_15, F30_16, F30_17, F30_18, F30, EX0, EX1, EX2, EX3, EX4, EX5, if_true, if_false, implies_true, forall_const, ne_eq, Nat.reduceEqDiff, reduceIte, reduceCtorEq, Nat.reduceAdd, Nat.reduceLeDiff, Nat.reduceSub, Nat.reduceMul, Int.reduceEq, Int.reduceBEq, Int.reduceBNe, Int.reduceLT, Int.reduceLE, Nat.reduceLT, VX, readAt_some, h1, h2, h3, hp]
def signedV (c : V) : V × Bool := ((tableV (tableV (said c) kThird).1 kSigned).1, (tableV (tableV (said c) kThird).1 kSigned).2 && ((textAt (tableV (tableV (said c) kThird).1 kSigned).1 kToken).2 && (textAt (tableV (tableV (said c) kThird).1 kSigned).1 kMxid).2))
theorem signedV_sz (c : V) : (signedV c).1.sz ≤ c.sz := by
  have h1 := said_sz c
  have h2 := tableV_sz (said c) kThird
  have h3 := tableV_sz (tableV (said c) kThird).1 kSigned
  unfold signedV
  simp only; omega
theorem r_signed (c : V) (hb : c.sz < big) : cR 54 [c.enc] = some (.tup [(signedV c).1.enc, .bool (signedV c).2]) := by
  have h1 := r_said c hb
  have z1 := said_sz c
  have h2 := r_tableAt (said c) kThird (by omega)
  have z2 := tableV_sz (said c) kThird
  unfold signedV
  generalize (tableV (said c) kThird) = t1 at h2 z2 ⊢
  have h3 := r_tableAt t1.1 kSigned (by omega)
  have z3 := tableV_sz t1.1 kSigned
  generalize (tableV t1.1 kSigned) = t2 at h3 z3 ⊢
  have h4 := r_textAt t2.1 kToken (by omega)
  have h5 := r_textAt t2.1 kMxid (by omega)
  generalize textAt t2.1 kToken = a at h4 ⊢
  generalize textAt t2.1 kMxid = b at h5 ⊢
  obtain ⟨x, ok⟩ := t2
  obtain ⟨a1, a2⟩ := a
  obtain ⟨b1, b2⟩ := b
  simp only at h3 h4 h5 ⊢
  refine cR_of (F := F54) rfl ?_
  cases ok <;> cases a2 <;> cases b2 <;> simp only [F54_0, F54_1, F54_2, F54_3, F54_4, F54_5, F54_6, F54_7, F54_8, F54_9, F54_10, F54_11, F54_12, F54_13, F54_14, F54_15, F54_16, F54, EX0, EX1, EX2, EX3, EX4, EX5, if_true, if_false, implies_true, forall_const, ne_eq, Nat.reduceEqDiff, reduceIte, reduceCtorEq, Nat.reduceAdd, Nat.reduceLeDiff, Nat.reduceSub, Nat.reduceMul, Int.reduceEq, Int.reduceBEq, Int.reduceBNe, Int.reduceLT, Int.reduceLE, Nat.reduceLT, VX, readAt_some, h1, h2, h3, h4, h5, Bool.false_and, Bool.and_false]
def thirdV (c : V) : Bs × Bs × Bool := if (signedV c).2 = true then ((textAt (signedV c).1 kToken).1, (textAt (signedV c).1 kMxid).1, true) else ([], [], false)
theorem r_third (c : V) (hb : c.sz < big) : cR 29 [c.enc] = some (.tup [.str (thirdV c).1, .str (thirdV c).2.1, .bool (thirdV c).2.2]) := by
  have h1 := r_signed c hb
  have z1 := signedV_sz c
  unfold thirdV
  generalize signedV c = t at h1 z1 ⊢
  obtain ⟨x, ok⟩ := t
  simp only at h1 z1 ⊢
  have h2 := r_textAt x kToken (by omega)
  have h3 := r_textAt x kMxid (by omega)
  refine cR_of (F := F29) rfl ?_
  cases ok
  · simp only [F29_0, F29_1, F29_2, F29_3, F29_4, F29_5, F29_6, F29_7, F29_8, F29_9, F29_10, F29_11, F29_12, F29_13, F29_14, F29_15, F29_16, F29_17, F29_18, F29_19, F29_20, F29_21, F29, EX0, EX1, EX2, EX3, EX4, EX5, if_true, if_false, implies_true, forall_const, ne_eq, Nat.reduceEqDiff, reduceIte, reduceCtorEq, Nat.reduceAdd, Nat.reduceLeDiff, Nat.reduceSub, Nat.reduceMul, Int.reduceEq, Int.reduceBEq, Int.reduceBNe, Int.reduceLT, Int.reduceLE, Nat.reduceLT, VX, readAt_some, h1]
  · simp only [F29_0, F29_1, F29_2, F29_3, F29_4, F29_5, F29_6, F29_7, F29_8, F29_9, F29_10, F29_11, F29_12, F29_13, F29_14, F29_15, F29_16, F29_17, F29_18, F29_19, F29_20, F29_21, F29, EX0, EX1, EX2, EX3, EX4, EX5, if_true, if_false, implies_true, forall_const, ne_eq, Nat.reduceEqDiff, reduceIte, reduceCtorEq, Nat.reduceAdd, Nat.reduceLeDiff, Nat.reduceSub, Nat.reduceMul, Int.reduceEq, Int.reduceBEq, Int.reduceBNe, Int.reduceLT, Int.reduceLE, Nat.reduceLT, VX, readAt_some, h1, h2, h3]
def roomV (c : V) : Bs × Bool := if (textAt c kType).1 = kMRM ∧ (partsB (textAt c kRoomId).1 33).2.2 = true then ((textAt c kRoomId).1, true) else ([], false)
theorem r_room (c : V) (hb : c.sz < big) : cR 42 [c.enc] = some (.tup [.str (roomV c).1, .bool (roomV c).2]) := by
  have h2 := r_textAt c kType hb
  have h3 := r_textAt c kRoomId hb
  have h4 := r_Room (textAt c kRoomId).1 (by have := textAt_len c kRoomId; omega)
  unfold roomV
  generalize textAt c kType = a at h2 ⊢
  generalize textAt c kRoomId = b at h3 h4 ⊢
  generalize partsB b.1 33 = p at h4 ⊢
  obtain ⟨a1, a2⟩ := a
  obtain ⟨b1, b2⟩ := b
  obtain ⟨p1, p2, p3⟩ := p
  simp only at h2 h3 h4 ⊢
  refine cR_of (F := F42) rfl ?_
  by_cases hk : a1 = kMRM
  · have q : (!(a1 == kMRM)) = false := by simp [hk]
    have qT : (a1 = kMRM) = True := eq_true hk
    cases p3
    · simp only [F42_0, F42_1, F42_2, F42_3, F42_4, F42_5, F42_6, F42_7, F42_8, F42_9, F42_10, F42_11, F42_12, F42_13, F42_14, F42_15, F42_16, F42_17, F42_18, F42_19, F42_20, F42_21, F42_22, F42_23, F42_24, F42, EX0, EX1, EX2, EX3, EX4, EX5, if_true, if_false, implies_true, forall_const, ne_eq, Nat.reduceEqDiff, reduceIte, reduceCtorEq, Nat.reduceAdd, Nat.reduceLeDiff, Nat.reduceSub, Nat.reduceMul, Int.reduceEq, Int.reduceBEq, Int.reduceBNe, Int.reduceLT, Int.reduceLE, Nat.reduceLT, VX, readAt_some, h2, h3, h4, q, qT, and_false]
    · simp only [F42_0, F42_1, F42_2, F42_3, F42_4, F42_5, F42_6, F42_7, F42_8, F42_9, F42_10, F42_11, F42_12, F42_13, F42_14, F42_15, F42_16, F42_17, F42_18, F42_19, F42_20, F42_21, F42_22, F42_23, F42_24, F42, EX0, EX1, EX2, EX3, EX4, EX5, if_true, if_false, implies_true, forall_const, ne_eq, Nat.reduceEqDiff, reduceIte, reduceCtorEq, Nat.reduceAdd, Nat.reduceLeDiff, Nat.reduceSub, Nat.reduceMul, Int.reduceEq, Int.reduceBEq, Int.reduceBNe, Int.reduceLT, Int.reduceLE, Nat.reduceLT, VX, readAt_some, h2, h3, h4, q, qT]
  · have q : (!(a1 == kMRM)) = true := by simp [hk]
    simp only [F42_0, F42_1, F42_2, F42_3, F42_4, F42_5, F42_6, F42_7, F42_8, F42_9, F42_10, F42_11, F42_12, F42_13, F42_14, F42_15, F42_16, F42_17, F42_18, F42_19, F42_20, F42_21, F42_22, F42_23, F42_24, F42, EX0, EX1, EX2, EX3, EX4, EX5, if_true, if_false, implies_true, forall_const, ne_eq, Nat.reduceEqDiff, reduceIte, reduceCtorEq, Nat.reduceAdd, Nat.reduceLeDiff, Nat.reduceSub, Nat.reduceMul, Int.reduceEq, Int.reduceBEq, Int.reduceBNe, Int.reduceLT, Int.reduceLE, Nat.reduceLT, VX, readAt_some, h2, h3, h4, q, hk, false_and]
end Go.Ab
/- Slices that may grow; copies; rooms that a rule allows. -/
namespace Go.Ab
set_option linter.unusedSimpArgs false
set_option maxHeartbeats 1000000
set_option maxRecDepth 100000
def lim : Nat := 1073741824
theorem Lay.rowOf {α : Type} (L : Lay α) (σ : Store) (l : List α) (c : Option Nat) : rowOf σ L.sz (.vsl (l.map L.f) c) = some (L.cells l) := by
  have h : (l.map L.f).all (fun e => e.cells.length == L.sz) = true := by
    rw [List.all_eq_true]
    intro x hx
    obtain ⟨a, _, rfl⟩ := List.mem_map.1 hx
    simp [L.len a]
  have e : (l.map L.f).flatMap AV.cells = L.cells l := by simp [Lay.cells, List.flatMap_map]
  show (if (l.map L.f).all (fun e => e.cells.length == L.sz) = true then some ((l.map L.f).flatMap AV.cells) else none) = _
  rw [if_pos h, e]
/-- A slice that holds a list, and of which one knows what append does. -/
def Gr {α : Type} (L : Lay α) (σ : Store) (v : AV) (l : List α) : Prop :=
  (v = .nils ∧ l = []) ∨ (∃ b, v = .sl b 0 l.length L.sz none ∧ Own L σ (some b) l) ∨ v = .vsl (l.map L.f) (some l.length)
section
variable {α : Type} {L : Lay α} {σ : Store} {v : AV} {l : List α}
theorem Gr.nil (L : Lay α) (σ : Store) : Gr L σ .nils [] := .inl ⟨rfl, rfl⟩
theorem Gr.nil0 (L : Lay α) (σ : Store) : Gr L σ (.vsl [] (some 0)) [] := .inr (.inr rfl)
theorem Gr.lit (L : Lay α) (σ : Store) (l : List α) : Gr L σ (.vsl (l.map L.f) (some l.length)) l := .inr (.inr rfl)
theorem Gr.own {b : Nat} (h : Own L σ (some b) l) : Gr L σ (.sl b 0 l.length L.sz none) l := .inr (.inl ⟨b, rfl, h⟩)
theorem Gr.lenL (h : Gr L σ v l) : lenL v = some (.int .i64 l.length) := by
  rcases h with ⟨rfl, rfl⟩ | ⟨b, rfl, h⟩ | rfl
  · rfl
  · rfl
  · rw [lenL_vsl, List.length_map]
theorem Gr.rb (h : Gr L σ v l) : ∃ v', Go.Ab.rb σ rbDepth v = some v' ∧ v'.er = .vsl (l.map L.f) none := by
  rcases h with ⟨rfl, rfl⟩ | ⟨b, rfl, h⟩ | rfl
  · exact ⟨_, rfl, by simp only [AV.er]; rfl⟩
  · exact Own.rb (ob := some b) h
  · refine ⟨_, rb_closed' (by simp only [AV.closed]; exact closedL_map fun a _ => L.closed a), ?_⟩
    simp only [AV.er, L.erMap]
theorem Gr.rbE (h : Gr L σ v l) : Go.Ab.rbE σ v = some (.vsl (l.map L.f) none) := by
  obtain ⟨v', h1, h2⟩ := h.rb
  unfold Go.Ab.rbE
  rw [h1, Option.map_some, h2]
theorem Gr.call1 {st : Bool} {f : Nat} {args : List AV} {r : AV} (h : Gr L σ v l) (ha : closedL args = true) (hc : cR f (.vsl (l.map L.f) none :: erL args) = some r) (hr : r.flat = true) :
    callP ipU gU st (.fn f [] []) (v :: args) σ = some (r, σ) := by
  obtain ⟨v', h1, h2⟩ := h.rb
  refine callP_flat (args' := v' :: args) rfl ?_ ?_ hr
  · simp only [mapO, h1, mapO_closed' ha]
  · simp only [erL, h2, AV.er]; exact hc
/-- The store behind an append. -/
def grNext {α : Type} (L : Lay α) (σ : Store) (v : AV) (l m : List α) : Store := match v with
  | .sl b .. => (σ.set b .dead).alloc (L.cells l ++ L.cells m)
  | _ => σ.alloc (L.cells l ++ L.cells m)
theorem Gr.app {m : List α} {bytes : Nat} (h : Gr L σ v l) (hb : 0 < bytes) (hm : (l.length + m.length) * bytes ≤ maxBytes) (hk : 0 < m.length) :
    appendTo σ L.sz bytes v (L.cells m) m.length = some (.sl σ.next 0 (l ++ m).length L.sz none, grNext L σ v l m) := by
  have c1 := L.cells_len m
  have c2 := L.cells_one m
  have c3 := L.pos
  rcases h with ⟨rfl, rfl⟩ | ⟨b, rfl, h⟩ | rfl
  · unfold appendTo
    simp only [lenOf]
    rw [if_pos ⟨c3, hb, by simpa using hm, c1, c2⟩, if_neg (by omega)]
    simp [grNext, Lay.cells]
  · obtain ⟨h1, h2, h3, h4⟩ := h
    unfold appendTo
    simp only [lenOf]
    rw [if_pos ⟨c3, hb, hm, c1, c2⟩, if_pos trivial]
    have : σ.owned b = some (L.cells l) := by simp [Store.owned, h1]
    rw [this]
    simp only
    rw [if_neg (by omega), if_pos (by omega)]
    simp [grNext]
  · unfold appendTo
    simp only [lenOf, List.length_map]
    rw [if_pos ⟨c3, hb, hm, c1, c2⟩, if_neg (by omega), if_pos trivial, L.rowOf]
    simp [grNext]
theorem Gr.next {m : List α} (h : Gr L σ v l) (hk : 0 < m.length) : Own L (grNext L σ v l m) (some σ.next) (l ++ m) := by
  have e : L.cells (l ++ m) = L.cells l ++ L.cells m := by simp [Lay.cells]
  have hl := L.cells_len (l ++ m)
  have hlen : 0 < (l ++ m).length := by simp; omega
  rcases h with ⟨rfl, rfl⟩ | ⟨b, rfl, h⟩ | rfl
  · exact ⟨by simp only [grNext]; rw [← e]; exact get_alloc_next, hl, by simp [grNext, next_alloc], hlen⟩
  · exact ⟨by simp only [grNext]; rw [← e]; exact get_alloc_next (σ := σ.set b .dead), hl, by simp [grNext, next_alloc, next_set], hlen⟩
  · exact ⟨by simp only [grNext]; rw [← e]; exact get_alloc_next, hl, by simp [grNext, next_alloc], hlen⟩
theorem Gr.push {a : α} {bytes : Nat} (h : Gr L σ v l) (hb : 0 < bytes) (hm : (l.length + 1) * bytes ≤ maxBytes) :
    appendTo σ L.sz bytes v (L.f a).cells 1 = some (.sl σ.next 0 (l ++ [a]).length L.sz none, grNext L σ v l [a]) := by
  have := Gr.app (m := [a]) h hb (by simpa using hm) (by simp)
  simpa [Lay.cells] using this
theorem grNext_next (L : Lay α) (σ : Store) (v : AV) (l m : List α) : (grNext L σ v l m).next = σ.next + 1 := by
  unfold grNext; split <;> rfl
/-- What is far from a slice's own block leaves it as it is. -/
theorem Gr.frame {σ' : Store} (h : Gr L σ v l) (hg : ∀ b, b < σ.next → σ'.get b = σ.get b) (hn : σ.next ≤ σ'.next) : Gr L σ' v l := by
  rcases h with h | ⟨b, rfl, h⟩ | h
  · exact .inl h
  · exact .inr (.inl ⟨b, rfl, h.frame (hg b h.lt) hn⟩)
  · exact .inr (.inr h)
theorem Gr.alloc (h : Gr L σ v l) (cs : List AV) : Gr L (σ.alloc cs) v l := h.frame (fun _ hb => get_alloc hb) (by simp [next_alloc])
/-- A new block, written once. -/
theorem Gr.newset (h : Gr L σ v l) (cs cs' : List AV) : Gr L { next := σ.next + 1, m := (σ.next, .own cs) :: (σ.next, .own cs') :: σ.m } v l :=
  h.frame (fun b hb => by
    show look ((σ.next, Blk.own cs) :: (σ.next, .own cs') :: σ.m) b = look σ.m b
    simp only [look]; rw [if_neg (by omega), if_neg (by omega)]) (by simp)
theorem grNext_get {m : List α} (h : Gr L σ v l) {b : Nat} (hb : b < σ.next) (hne : ∀ len sz c, v ≠ .sl b 0 len sz c) : (grNext L σ v l m).get b = σ.get b := by
  unfold grNext
  split
  · rename_i b' off len sz c
    have hoff : off = 0 := by
      rcases h with ⟨h, _⟩ | ⟨b2, h, _⟩ | h
      · simp at h
      · simp at h; exact h.2.1
      · simp at h
    subst hoff
    rw [get_alloc (by rw [next_set]; exact hb), get_set (by rintro rfl; exact hne len sz c rfl)]
  · exact get_alloc hb
end
/-- An index into a slice of strings, by a text. -/
theorem r_indexS (l : List Bs) (x : Bs) (hlen : l.length < big) : cR 64 [.vsl (l.map .str) none, .str x] = some (.int .i64 (firstFrom (fun s => x == s) l 0)) := by
  unfold big at hlen
  refine cR_of (F := F64) rfl ?_
  simp only [F64_0, F64_1, F64_2, F64_3, F64_4, F64_5, F64_6, F64_7, F64_8, F64_9, F64_10, F64_11, F64_12, F64_13, F64_14, F64_15, F64_16, F64_17, F64_18, F64_19, F64_21, F64_22, F64_23, F64_24, F64_25, F64_26, F64_27, F64_28, F64_29, F64_30, F64, ex_loop, EX0, EX1, EX2, EX3, EX4, EX5, if_true, if_false, implies_true, forall_const, ne_eq, Nat.reduceEqDiff, reduceIte, reduceCtorEq, Nat.reduceAdd, Nat.reduceLeDiff, Nat.reduceSub, Nat.reduceMul, Int.reduceEq, Int.reduceBEq, Int.reduceBNe, Int.reduceLT, Int.reduceLE, Nat.reduceLT, VX]
  refine ex_while (S := Nat) (fun j => [(0, .vsl (l.map .str) none), (1, .str x), (7, .int .i64 l.length), (8, .int .i64 (j : Int))]) (fun _ => .empty) (fun j => l.length - j) (fun j => firstFrom (fun s => x == s) l j = firstFrom (fun s => x == s) l 0) ?_ 0 rfl
  intro b j hj ih
  by_cases hlt : j < l.length
  · obtain ⟨y, hy⟩ := get_lt hlt
    have hidx := idx_map (f := AV.str) (sz := 1) (c := none) hy rfl
    have hcond := dlt hlt
    simp only [F64_0, F64_1, F64_2, F64_3, F64_4, F64_5, F64_6, F64_7, F64_8, F64_9, F64_10, F64_11, F64_12, F64_13, F64_14, F64_15, F64_16, F64_17, F64_18, F64_19, F64_20, F64_21, F64_22, F64_23, F64_24, F64_25, F64_26, F64_27, F64_28, F64_29, F64_30, F64, EX0, EX1, EX2, EX3, EX4, EX5, if_true, if_false, implies_true, forall_const, ne_eq, Nat.reduceEqDiff, reduceIte, reduceCtorEq, Nat.reduceAdd, Nat.reduceLeDiff, Nat.reduceSub, Nat.reduceMul, Int.reduceEq, Int.reduceBEq, Int.reduceBNe, Int.reduceLT, Int.reduceLE, Nat.reduceLT, VX, readAt_some, hcond, hidx]
    split
    · rename_i hp
      rw [← hj, firstFrom_hit hy hp]
    · rename_i hp
      refine ih (j + 1) _ _ (by omega) ?_ ?_ rfl
      · rw [← firstFrom_miss hy (by simpa using hp)]; exact hj
      · rw [wsucc hlt (by omega)]
        simp only [EX0, EX1, EX2, EX3, EX4, EX5, if_true, if_false, implies_true, forall_const, ne_eq, Nat.reduceEqDiff, reduceIte, reduceCtorEq, Nat.reduceAdd, Nat.reduceLeDiff, Nat.reduceSub, Nat.reduceMul, Int.reduceEq, Int.reduceBEq, Int.reduceBNe, Int.reduceLT, Int.reduceLE, Nat.reduceLT]
  · have hcond := dge (Nat.not_lt.1 hlt)
    simp only [F64_0, F64_1, F64_2, F64_3, F64_4, F64_5, F64_6, F64_7, F64_8, F64_9, F64_10, F64_11, F64_12, F64_13, F64_14, F64_15, F64_16, F64_17, F64_18, F64_19, F64_20, F64_21, F64_22, F64_23, F64_24, F64_25, F64_26, F64_27, F64_28, F64_29, F64_30, F64, EX0, EX1, EX2, EX3, EX4, EX5, if_true, if_false, implies_true, forall_const, ne_eq, Nat.reduceEqDiff, reduceIte, reduceCtorEq, Nat.reduceAdd, Nat.reduceLeDiff, Nat.reduceSub, Nat.reduceMul, Int.reduceEq, Int.reduceBEq, Int.reduceBNe, Int.reduceLT, Int.reduceLE, Nat.reduceLT, VX, hcond]
    rw [← hj, firstFrom_end (by omega)]
def hasS (l : List Bs) (x : Bs) : Bool := l.any fun s => x == s
theorem r_containsS (l : List Bs) (x : Bs) (hlen : l.length < big) : cR 45 [.vsl (l.map .str) none, .str x] = some (.bool (hasS l x)) := by
  refine cR_of (F := F45) rfl ?_
  simp only [F45_0, F45_1, F45_2, F45_3, F45_4, F45, EX0, EX1, EX2, EX3, EX4, EX5, if_true, if_false, implies_true, forall_const, ne_eq, Nat.reduceEqDiff, reduceIte, reduceCtorEq, Nat.reduceAdd, Nat.reduceLeDiff, Nat.reduceSub, Nat.reduceMul, Int.reduceEq, Int.reduceBEq, Int.reduceBNe, Int.reduceLT, Int.reduceLE, Nat.reduceLT, VX, r_indexS l x hlen, firstFrom_ge, hasS]

def allowsL : List Bs → List V → List Bs
  | acc, [] => acc
  | acc, x :: r => if (roomV x).2 = true ∧ hasS acc (roomV x).1 = false then allowsL (acc ++ [(roomV x).1]) r else allowsL acc r
def allowsV (c : V) : List Bs := allowsL [] (itemsV (said c) kAllow)
theorem itemsV_sz (v : V) (k : Bs) : ∀ x ∈ itemsV v k, x.sz ≤ v.sz := by
  intro x hx
  unfold itemsV at hx
  split at hx
  · have := szL_mem hx; have := (getV v k).1.sz_eq; have := getV_sz v k; omega
  · simp at hx
theorem itemsV_len (v : V) (k : Bs) : (itemsV v k).length ≤ v.sz := by
  unfold itemsV
  split
  · have := l_len_sz (getV v k).1; have := getV_sz v k; omega
  · simp
theorem r_allows (c : V) (hb : c.sz < lim) : cR 22 [c.enc] = some (.vsl ((allowsV c).map .str) none) := by
  unfold lim at hb
  have hb' : c.sz < big := by unfold big; omega
  have h1 := r_said c hb'
  have z1 := said_sz c
  have h2 := r_items (said c) kAllow (by unfold big; omega)
  have z2 := itemsV_sz (said c) kAllow
  have z3 := itemsV_len (said c) kAllow
  refine cR_of (F := F22) rfl ?_
  unfold allowsV
  generalize itemsV (said c) kAllow = l at h2 z2 z3 ⊢
  simp only [F22_0, F22_1, F22_2, F22_3, F22_4, F22_5, F22_6, F22_7, F22_8, F22_9, F22_10, F22_11, F22_12, F22_13, F22_14, F22_15, F22_16, F22_17, F22_18, F22_19, F22_20, F22_21, F22_22, F22_23, F22_25, F22_26, F22_27, F22_28, F22_29, F22_30, F22_31, F22_32, F22_33, F22_34, F22_35, F22_36, F22_37, F22_38, F22, ex_loop, EX0, EX1, EX2, EX3, EX4, EX5, if_true, if_false, implies_true, forall_const, ne_eq, Nat.reduceEqDiff, reduceIte, reduceCtorEq, Nat.reduceAdd, Nat.reduceLeDiff, Nat.reduceSub, Nat.reduceMul, Int.reduceEq, Int.reduceBEq, Int.reduceBNe, Int.reduceLT, Int.reduceLE, Nat.reduceLT, VX, readAt_some, h1, h2]
  refine ex_whileI (S := Nat × List Bs × AV) (fun p => [(3, .fn 42 [] []), (4, p.2.2), (11, .vsl (l.map V.enc) none), (12, .int .i64 l.length), (13, .int .i64 (p.1 : Int))]) (fun p => l.length - p.1)
    (fun p σ => Gr LStr σ p.2.2 p.2.1 ∧ p.2.1.length ≤ p.1 ∧ allowsL p.2.1 (l.drop p.1) = allowsL [] l) ?_ (0, [], .nils) _ ⟨Gr.nil LStr _, by simp, rfl⟩
  rintro b ⟨j, acc, v⟩ σ ⟨hg, hlen, hj⟩ ih
  simp only at hg hlen hj ih ⊢
  by_cases hlt : j < l.length
  · obtain ⟨x, hx⟩ := get_lt hlt
    have hidx := idx_map (f := V.enc) (sz := 5) (c := none) hx (by simp [V.enc_cells])
    have hcond := dlt hlt
    have hr := r_room x (by have := z2 x (List.mem_of_getElem? hx); unfold big; omega)
    rw [drop_cons hx, allowsL] at hj
    have hw := wsucc hlt (by omega)
    have hn := hg.newset
    cases hok : (roomV x).2
    · rw [hok] at hr
      simp only [hok, Bool.false_eq_true, false_and, if_false] at hj
      simp only [F22_0, F22_1, F22_2, F22_3, F22_4, F22_5, F22_6, F22_7, F22_8, F22_9, F22_10, F22_11, F22_12, F22_13, F22_14, F22_15, F22_16, F22_17, F22_18, F22_19, F22_20, F22_21, F22_22, F22_23, F22_24, F22_25, F22_26, F22_27, F22_28, F22_29, F22_30, F22_31, F22_32, F22_33, F22_34, F22_35, F22_36, F22_37, F22_38, F22, EX0, EX1, EX2, EX3, EX4, EX5, if_true, if_false, implies_true, forall_const, ne_eq, Nat.reduceEqDiff, reduceIte, reduceCtorEq, Nat.reduceAdd, Nat.reduceLeDiff, Nat.reduceSub, Nat.reduceMul, Int.reduceEq, Int.reduceBEq, Int.reduceBNe, Int.reduceLT, Int.reduceLE, Nat.reduceLT, VX, readAt_some, hcond, hidx, hr, hw]
      exact ih (j + 1, acc, v) _ _ (by simp; omega) ⟨hn _ _, by simp; omega, hj⟩ (by simp only [EX0, EX1, EX2, EX3, EX4, EX5, if_true, if_false, implies_true, forall_const, ne_eq, Nat.reduceEqDiff, reduceIte, reduceCtorEq, Nat.reduceAdd, Nat.reduceLeDiff, Nat.reduceSub, Nat.reduceMul, Int.reduceEq, Int.reduceBEq, Int.reduceBNe, Int.reduceLT, Int.reduceLE, Nat.reduceLT])
    · rw [hok] at hr
      have hcall : ∀ cs cs', callP ipU gU false (.fn 45 [] []) [v, .str (roomV x).1] _ = some (.bool (hasS acc (roomV x).1), _) := fun cs cs' => (hn cs cs').call1 rfl (by simp only [erL, AV.er]; exact r_containsS acc _ (by unfold big; omega)) rfl
      cases hh : hasS acc (roomV x).1
      · simp only [hok, hh, and_self, if_true] at hj
        rw [hh] at hcall
        have happ : ∀ cs cs', appendTo _ 1 16 v [.str (roomV x).1] 1 = some _ := fun cs cs' => (hn cs cs').push (a := (roomV x).1) (bytes := 16) (by omega) (by unfold maxBytes; omega)
        have hlo : lenOf (.vsl [.str (roomV x).1] (some 1)) = some 1 := rfl
        have hro : ∀ σ', rowOf σ' 1 (.vsl [.str (roomV x).1] (some 1)) = some [.str (roomV x).1] := fun _ => rfl
        simp only [F22_0, F22_1, F22_2, F22_3, F22_4, F22_5, F22_6, F22_7, F22_8, F22_9, F22_10, F22_11, F22_12, F22_13, F22_14, F22_15, F22_16, F22_17, F22_18, F22_19, F22_20, F22_21, F22_22, F22_23, F22_24, F22_25, F22_26, F22_27, F22_28, F22_29, F22_30, F22_31, F22_32, F22_33, F22_34, F22_35, F22_36, F22_37, F22_38, F22, EX0, EX1, EX2, EX3, EX4, EX5, if_true, if_false, implies_true, forall_const, ne_eq, Nat.reduceEqDiff, reduceIte, reduceCtorEq, Nat.reduceAdd, Nat.reduceLeDiff, Nat.reduceSub, Nat.reduceMul, Int.reduceEq, Int.reduceBEq, Int.reduceBNe, Int.reduceLT, Int.reduceLE, Nat.reduceLT, VX, readAt_some, hcond, hidx, hr, hcall, happ, hlo, hro, hw]
        exact ih (j + 1, acc ++ [(roomV x).1], _) _ _ (by simp; omega) ⟨Gr.own ((hn _ _).next (by simp)), by simp; omega, hj⟩ (by simp only [EX0, EX1, EX2, EX3, EX4, EX5, if_true, if_false, implies_true, forall_const, ne_eq, Nat.reduceEqDiff, reduceIte, reduceCtorEq, Nat.reduceAdd, Nat.reduceLeDiff, Nat.reduceSub, Nat.reduceMul, Int.reduceEq, Int.reduceBEq, Int.reduceBNe, Int.reduceLT, Int.reduceLE, Nat.reduceLT]; rfl)
      · simp only [hok, hh, Bool.true_eq_false, and_false, if_false] at hj
        rw [hh] at hcall
        simp only [F22_0, F22_1, F22_2, F22_3, F22_4, F22_5, F22_6, F22_7, F22_8, F22_9, F22_10, F22_11, F22_12, F22_13, F22_14, F22_15, F22_16, F22_17, F22_18, F22_19, F22_20, F22_21, F22_22, F22_23, F22_24, F22_25, F22_26, F22_27, F22_28, F22_29, F22_30, F22_31, F22_32, F22_33, F22_34, F22_35, F22_36, F22_37, F22_38, F22, EX0, EX1, EX2, EX3, EX4, EX5, if_true, if_false, implies_true, forall_const, ne_eq, Nat.reduceEqDiff, reduceIte, reduceCtorEq, Nat.reduceAdd, Nat.reduceLeDiff, Nat.reduceSub, Nat.reduceMul, Int.reduceEq, Int.reduceBEq, Int.reduceBNe, Int.reduceLT, Int.reduceLE, Nat.reduceLT, VX, readAt_some, hcond, hidx, hr, hcall, hw]
        exact ih (j + 1, acc, v) _ _ (by simp; omega) ⟨hn _ _, by simp; omega, hj⟩ (by simp only [EX0, EX1, EX2, EX3, EX4, EX5, if_true, if_false, implies_true, forall_const, ne_eq, Nat.reduceEqDiff, reduceIte, reduceCtorEq, Nat.reduceAdd, Nat.reduceLeDiff, Nat.reduceSub, Nat.reduceMul, Int.reduceEq, Int.reduceBEq, Int.reduceBNe, Int.reduceLT, Int.reduceLE, Nat.reduceLT])
  · have hcond := dge (Nat.not_lt.1 hlt)
    rw [List.drop_eq_nil_of_le (by omega), allowsL] at hj
    have hrb := hg.rbE
    simp only [F22_0, F22_1, F22_2, F22_3, F22_4, F22_5, F22_6, F22_7, F22_8, F22_9, F22_10, F22_11, F22_12, F22_13, F22_14, F22_15, F22_16, F22_17, F22_18, F22_19, F22_20, F22_21, F22_22, F22_23, F22_24, F22_25, F22_26, F22_27, F22_28, F22_29, F22_30, F22_31, F22_32, F22_33, F22_34, F22_35, F22_36, F22_37, F22_38, F22, EX0, EX1, EX2, EX3, EX4, EX5, if_true, if_false, implies_true, forall_const, ne_eq, Nat.reduceEqDiff, reduceIte, reduceCtorEq, Nat.reduceAdd, Nat.reduceLeDiff, Nat.reduceSub, Nat.reduceMul, Int.reduceEq, Int.reduceBEq, Int.reduceBNe, Int.reduceLT, Int.reduceLE, Nat.reduceLT, VX, hcond, hrb, ← hj]
    rfl
end Go.Ab
/- Copies, lists. -/
namespace Go.Ab
set_option linter.unusedSimpArgs false
set_option maxHeartbeats 1000000
set_option maxRecDepth 100000
/-- The store has grown; what was is as it was. -/
def Grown (σ σ' : Store) : Prop := σ.next ≤ σ'.next ∧ ∀ b, b < σ.next → σ'.get b = σ.get b
theorem Grown.refl (σ : Store) : Grown σ σ := ⟨Nat.le_refl _, fun _ _ => rfl⟩
theorem Grown.alloc (σ : Store) (cs : List AV) : Grown σ (σ.alloc cs) := ⟨by simp [next_alloc], fun _ hb => get_alloc hb⟩
/-- A slice whose block, if it has one, is new. -/
def Fresh (σ : Store) (v : AV) : Prop := ∀ b o len sz c, v = .sl b o len sz c → σ.next ≤ b
theorem both_of {f : Nat} {σ : Store} (n : Nat) (h1 : scall ipU (run ipU gU n) (.fn f [] []) [.nils] .empty = some (.nils, .empty)) (h2 : scall ipU (run ipU gU n) (.fn f [] []) [.e0] .empty = some (.vsl [] (some 0), .empty)) :
    both ipU gU (.fn f [] []) σ = true := by
  refine both_some.2 ⟨n, ?_⟩
  have e1 : pcall ipU (run ipU gU n) false true (.fn f [] []) [.nils] σ = some (.nils, σ) := by
    unfold pcall
    rw [rb_closed' rfl, mapO_closed' rfl]
    simp only [AV.er, erL, Bool.false_eq_true, if_false, h1]
    rfl
  have e2 : pcall ipU (run ipU gU n) false true (.fn f [] []) [.e0] σ = some (.vsl [] (some 0), σ) := by
    unfold pcall
    rw [rb_closed' rfl, mapO_closed' rfl]
    simp only [AV.er, erL, Bool.false_eq_true, if_false, h2]
    rfl
  unfold bothWays
  rw [e1, e2]
  rfl
theorem app00 {σ : Store} {sz bytes n : Nat} {new : List AV} (hs : 0 < sz) (hb : 0 < bytes) (hm : n * bytes ≤ maxBytes) (hl : new.length = n * sz) (ho : new.all AV.one = true) (hn : 0 < n) :
    appendTo σ sz bytes (.vsl [] (some 0)) new n = some (.sl σ.next 0 n sz none, σ.alloc new) := by
  unfold appendTo
  simp only [lenOf, List.length_nil, Nat.zero_add]
  rw [if_pos ⟨hs, hb, hm, hl, ho⟩, if_neg (by omega), if_pos trivial]
  rfl
theorem lenOf_vsl (l : List AV) (c : Option Nat) : lenOf (.vsl l c) = some l.length := rfl
section
variable {α : Type} {L : Lay α}
theorem Gr.cloned (σ : Store) {l : List α} (h : 0 < l.length) : Gr L (σ.alloc (L.cells l)) (.sl σ.next 0 l.length L.sz none) l :=
  Gr.own ⟨get_alloc_next, L.cells_len l, by simp [next_alloc], h⟩
end
theorem Gr.rbD {α : Type} {L : Lay α} {σ : Store} {v : AV} {l : List α} (h : Gr L σ v l) (d : Nat) : ∃ v', Go.Ab.rb σ (d + 1) v = some v' ∧ v'.er = .vsl (l.map L.f) none := by
  rcases h with ⟨rfl, rfl⟩ | ⟨b, rfl, h⟩ | rfl
  · exact ⟨_, rfl, by simp only [AV.er]; rfl⟩
  · obtain ⟨h1, h2, h3, h4⟩ := h
    refine ⟨_, rb_sl (by simp [Store.cells, h1]) h2 L.pos (L.cells_closed l) (one_notAgg (L.cells_one l)), ?_⟩
    rw [L.chunks]; simp only [AV.er, L.erMap]
  · refine ⟨_, rb_closed' (by simp only [AV.closed]; exact closedL_map fun a _ => L.closed a), ?_⟩
    simp only [AV.er, L.erMap]
theorem Gr.plain {α : Type} {L : Lay α} {σ : Store} {v : AV} {l : List α} (h : Gr L σ v l) : v.known = true ∧ v.one = true ∧ v.cells = [v] ∧ v.notAgg = true := by
  rcases h with ⟨rfl, _⟩ | ⟨b, rfl, _⟩ | rfl <;> exact ⟨rfl, rfl, rfl, rfl⟩
/-- Cells read out of the store, handed on. -/
def RbL (σ : Store) (d : Nat) (cs cs' : List AV) : Prop := ∃ m, mapO (rb σ d) cs = some m ∧ erL m = cs'
theorem RbL.nil (σ : Store) (d : Nat) : RbL σ d [] [] := ⟨[], rfl, by simp only [erL]⟩
theorem RbL.clo {σ : Store} {d : Nat} {x : AV} {cs cs' : List AV} (hx : x.closed = true) (h : RbL σ d cs cs') : RbL σ d (x :: cs) (x.er :: cs') := by
  obtain ⟨m, h1, h2⟩ := h
  exact ⟨x :: m, by simp only [mapO, rb_closed' hx, h1], by simp only [erL, h2]⟩
theorem RbL.gr {α : Type} {L : Lay α} {σ : Store} {d : Nat} {v : AV} {l : List α} {cs cs' : List AV} (hv : Gr L σ v l) (h : RbL σ (d + 1) cs cs') : RbL σ (d + 1) (v :: cs) (.vsl (l.map L.f) none :: cs') := by
  obtain ⟨m, h1, h2⟩ := h
  obtain ⟨v', h3, h4⟩ := hv.rbD d
  exact ⟨v' :: m, by simp only [mapO, h3, h1], by simp only [erL, h2, h4]⟩
theorem RbL.agg {σ : Store} {cs cs' : List AV} (h : RbL σ 23 cs cs') : rbE σ (.agg cs) = some (.agg cs') := by
  obtain ⟨m, h1, h2⟩ := h
  unfold rbE
  by_cases hc : (AV.agg cs).closed = true
  · have : m = cs := by
      have hm := mapO_closed' (σ := σ) (d := 23) (show closedL cs = true by simpa [AV.closed] using hc)
      rw [h1] at hm
      exact Option.some.inj hm
    subst this
    rw [rb_closed' hc, Option.map_some, AV.er, h2]
  · have e : rb σ rbDepth (.agg cs) = some (.agg m) := by
      show rb σ (23 + 1) (.agg cs) = _
      rw [rb, if_neg hc, h1]
    rw [e, Option.map_some, AV.er, h2]
theorem look_get {σ : Store} {b : Nat} {x : Blk} (h : σ.get b = some x) : look σ.m b = some x := h
theorem c_cloneV (l : List V) (c : Option Nat) (σ : Store) (hb : l.length < lim) : ∃ v σ', callM ipU gU .split (.fn 41 [] []) [.vsl (l.map V.enc) c] σ = some (v, σ') ∧ Gr LV σ' v l ∧ Grown σ σ' ∧ Fresh σ v := by
  unfold lim at hb
  cases l with
  | nil =>
    refine ⟨.vsl [] (some 0), σ, ?_, Gr.nil0 _ _, Grown.refl _, fun b o len sz c h => by simp at h⟩
    have hb2 : both ipU gU (.fn 41 [] []) σ = true := both_of 100 (by kernel_rfl) (by kernel_rfl)
    simp only [callM, List.map_nil, noItems, if_true, hb2]
  | cons x l =>
    have hro : ∀ σ', rowOf σ' 5 (.vsl ((x :: l).map V.enc) c) = some (LV.cells (x :: l)) := fun σ' => LV.rowOf σ' (x :: l) c
    have ha : appendTo σ 5 80 (.vsl [] (some 0)) (LV.cells (x :: l)) (l.length + 1) = some (.sl σ.next 0 (l.length + 1) 5 none, σ.alloc (LV.cells (x :: l))) :=
      app00 (by omega) (by omega) (by unfold maxBytes; simp at hb; omega) (LV.cells_len (x :: l)) (LV.cells_one _) (by omega)
    refine ⟨_, σ.alloc (LV.cells (x :: l)), ?_, Gr.cloned (L := LV) σ (l := x :: l) (by simp), Grown.alloc _ _, fun b o len sz c h => by simp at h; omega⟩
    have hn : noItems [.vsl ((x :: l).map V.enc) c] = false := rfl
    simp only [callM, hn, Bool.false_eq_true, if_false]
    refine callS_of (F := F41) rfl (first := []) (caps := []) ?_
    simp only [List.map_cons] at hro
    simp only [F41_0, F41_1, F41_2, F41_3, F41_4, F41_5, F41_6, F41_7, F41_8, F41_9, F41_10, F41_11, F41_12, F41, EX0, EX1, EX2, EX3, EX4, EX5, if_true, if_false, implies_true, forall_const, ne_eq, Nat.reduceEqDiff, reduceIte, reduceCtorEq, Nat.reduceAdd, Nat.reduceLeDiff, Nat.reduceSub, Nat.reduceMul, Int.reduceEq, Int.reduceBEq, Int.reduceBNe, Int.reduceLT, Int.reduceLE, Nat.reduceLT, VX, lenOf_vsl, hro, ha]
    simp [Store.alloc, LV]
theorem c_cloneM (l : List Mem) (c : Option Nat) (σ : Store) (hb : l.length < lim) : ∃ v σ', callM ipU gU .split (.fn 38 [] []) [.vsl (l.map memE) c] σ = some (v, σ') ∧ Gr LMem σ' v l ∧ Grown σ σ' ∧ Fresh σ v := by
  unfold lim at hb
  cases l with
  | nil =>
    refine ⟨.vsl [] (some 0), σ, ?_, Gr.nil0 _ _, Grown.refl _, fun b o len sz c h => by simp at h⟩
    have hb2 : both ipU gU (.fn 38 [] []) σ = true := both_of 100 (by kernel_rfl) (by kernel_rfl)
    simp only [callM, List.map_nil, noItems, if_true, hb2]
  | cons x l =>
    have hro : ∀ σ', rowOf σ' 6 (.vsl ((x :: l).map memE) c) = some (LMem.cells (x :: l)) := fun σ' => LMem.rowOf σ' (x :: l) c
    have ha : appendTo σ 6 96 (.vsl [] (some 0)) (LMem.cells (x :: l)) (l.length + 1) = some (.sl σ.next 0 (l.length + 1) 6 none, σ.alloc (LMem.cells (x :: l))) :=
      app00 (by omega) (by omega) (by unfold maxBytes; simp at hb; omega) (LMem.cells_len (x :: l)) (LMem.cells_one _) (by omega)
    refine ⟨_, σ.alloc (LMem.cells (x :: l)), ?_, Gr.cloned (L := LMem) σ (l := x :: l) (by simp), Grown.alloc _ _, fun b o len sz c h => by simp at h; omega⟩
    have hn : noItems [.vsl ((x :: l).map memE) c] = false := rfl
    simp only [callM, hn, Bool.false_eq_true, if_false]
    refine callS_of (F := F38) rfl (first := []) (caps := []) ?_
    simp only [List.map_cons] at hro
    simp only [F38_0, F38_1, F38_2, F38_3, F38_4, F38_5, F38_6, F38_7, F38_8, F38_9, F38_10, F38_11, F38_12, F38, EX0, EX1, EX2, EX3, EX4, EX5, if_true, if_false, implies_true, forall_const, ne_eq, Nat.reduceEqDiff, reduceIte, reduceCtorEq, Nat.reduceAdd, Nat.reduceLeDiff, Nat.reduceSub, Nat.reduceMul, Int.reduceEq, Int.reduceBEq, Int.reduceBNe, Int.reduceLT, Int.reduceLE, Nat.reduceLT, VX, lenOf_vsl, hro, ha]
    simp [Store.alloc, LMem]
theorem r_List (l : List V) (hb : l.length < lim) : cR 21 [.vsl (l.map V.enc) none] = some (V.mk 4 0 [] l []).enc := by
  refine cR_of (F := F21) rfl ?_
  simp only [F21_0, F21_1, F21_2, F21_3, F21_4, F21, EX0, EX1, EX2, EX3, EX4, EX5, if_true, if_false, implies_true, forall_const, ne_eq, Nat.reduceEqDiff, reduceIte, reduceCtorEq, Nat.reduceAdd, Nat.reduceLeDiff, Nat.reduceSub, Nat.reduceMul, Int.reduceEq, Int.reduceBEq, Int.reduceBNe, Int.reduceLT, Int.reduceLE, Nat.reduceLT, VX]
  obtain ⟨v, σ', h1, hg, hgr, hfr⟩ := c_cloneV l none ⟨1, [(0, .own [.int .i64 0, .int .i64 0, .str [], .nils, .nils])]⟩ hb
  obtain ⟨p1, p2, p3, p4⟩ := hg.plain
  have hlk := look_get (hgr.2 0 (by simp))
  have hg2 : Gr LV { next := σ'.next, m := (0, .own [.int .i64 4, .int .i64 0, .str [], v, .nils]) :: σ'.m } v l := by
    rcases hg with h | ⟨b, rfl, h⟩ | h
    · exact .inl h
    · have hb1 := hfr b _ _ _ _ rfl
      exact Gr.own (h.frame (by show look ((0, _) :: σ'.m) b = _; simp only [look]; rw [if_neg (by simp at hb1; omega)]; rfl) (Nat.le_refl _))
    · exact .inr (.inr h)
  have hrb := RbL.agg (RbL.clo (x := .int .i64 4) rfl (RbL.clo (x := .int .i64 0) rfl (RbL.clo (x := .str []) rfl (RbL.gr hg2 (RbL.clo (x := .nils) rfl (RbL.nil _ 23))))))
  simp only [EX0, EX1, EX2, EX3, EX4, EX5, if_true, if_false, implies_true, forall_const, ne_eq, Nat.reduceEqDiff, reduceIte, reduceCtorEq, Nat.reduceAdd, Nat.reduceLeDiff, Nat.reduceSub, Nat.reduceMul, Int.reduceEq, Int.reduceBEq, Int.reduceBNe, Int.reduceLT, Int.reduceLE, Nat.reduceLT, VX, h1, p1, p2, p3, p4, hlk, readAt_some, hrb]
  exact V.fold2 4 0 [] l
end Go.Ab
/- Sorting of members. -/
namespace Go.Ab
set_option linter.unusedSimpArgs false
set_option maxHeartbeats 1000000
set_option maxRecDepth 100000
def insR (x : Mem) : List Mem → List Mem
  | [] => [x]
  | y :: r => if bytesLess x.1 y.1 = true then y :: insR x r else x :: y :: r
def sortR : List Mem → List Mem → List Mem
  | acc, [] => acc
  | acc, x :: r => sortR (insR x acc) r
def sortM (l : List Mem) : List Mem := (sortR [] l).reverse
theorem insR_len (x : Mem) : ∀ l, (insR x l).length = l.length + 1
  | [] => rfl
  | y :: r => by simp only [insR]; split <;> simp [insR_len x r]
theorem sortR_len : ∀ (l acc : List Mem), (sortR acc l).length = acc.length + l.length
  | [], acc => by simp [sortR]
  | x :: r, acc => by rw [sortR, sortR_len r, insR_len]; simp; omega
section
variable {α : Type} (L : Lay α)
theorem Lay.cells_append (l m : List α) : L.cells (l ++ m) = L.cells l ++ L.cells m := by simp [Lay.cells]
theorem Lay.cells_cons (a : α) (l : List α) : L.cells (a :: l) = (L.f a).cells ++ L.cells l := by simp [Lay.cells]
theorem Lay.take {l : List α} {j : Nat} (h : j ≤ l.length) : (L.cells l).take (j * L.sz) = L.cells (l.take j) := by
  have e : L.cells l = L.cells (l.take j) ++ L.cells (l.drop j) := by rw [← L.cells_append, List.take_append_drop]
  have hl : (L.cells (l.take j)).length = j * L.sz := by rw [L.cells_len, List.length_take, Nat.min_eq_left h]
  rw [e, ← hl, List.take_left]
theorem Lay.drop {l : List α} {j : Nat} (h : j ≤ l.length) : (L.cells l).drop (j * L.sz) = L.cells (l.drop j) := by
  have e : L.cells l = L.cells (l.take j) ++ L.cells (l.drop j) := by rw [← L.cells_append, List.take_append_drop]
  have hl : (L.cells (l.take j)).length = j * L.sz := by rw [L.cells_len, List.length_take, Nat.min_eq_left h]
  rw [e, ← hl, List.drop_left]
theorem Lay.read {l : List α} {j : Nat} {a : α} (h : l[j]? = some a) (hs : L.sz ≠ 1) : readAt (L.cells l) (j * L.sz) (some L.sz) = some (L.f a) := by
  have hlt := lt_of_get h
  have hcl := L.cells_len l
  have hle : j * L.sz + L.sz ≤ (L.cells l).length := by
    rw [hcl]
    have := Nat.mul_le_mul_right L.sz (Nat.succ_le_of_lt hlt)
    rw [Nat.succ_mul] at this
    exact this
  show (if j * L.sz + L.sz ≤ (L.cells l).length then some (AV.agg (((L.cells l).drop (j * L.sz)).take L.sz)) else none) = _
  rw [if_pos hle, L.drop (Nat.le_of_lt hlt), drop_cons h, L.cells_cons]
  have ha := L.agg a
  rw [if_neg hs] at ha
  obtain ⟨cs, hcs⟩ := ha
  have hl := L.len a
  rw [hcs] at hl ⊢
  simp only [AV.cells] at hl ⊢
  rw [← hl, List.take_left]
theorem Lay.splice {l : List α} {j : Nat} (a : α) (h : j < l.length) : (L.cells l).take (j * L.sz) ++ (L.f a).cells ++ (L.cells l).drop (j * L.sz + L.sz) = L.cells (l.set j a) := by
  have e : j * L.sz + L.sz = (j + 1) * L.sz := by rw [Nat.add_mul]; simp
  rw [e, L.take (Nat.le_of_lt h), L.drop h, List.set_eq_take_append_cons_drop, if_pos h, L.cells_append, L.cells_cons, List.append_assoc]
end
theorem swap_set {α : Type} (A B : List α) (x y : α) : ((A ++ y :: x :: B).set (A.length + 1) y).set A.length x = A ++ x :: y :: B := by
  induction A with
  | nil => rfl
  | cons a A ih => simp [ih]
theorem Own.blk {α : Type} {L : Lay α} {σ : Store} {b : Nat} {l : List α} (h : Own L σ (some b) l) : look σ.m b = some (.own (L.cells l)) := h.1
def InsQ (σ : Store) (b : Nat) (l : List Mem) (τ : Store) : Prop := Own LMem τ (some b) l ∧ τ.next = σ.next ∧ ∀ b', b' ≠ b → τ.get b' = σ.get b'
theorem c_ins (b N : Nat) (l : List Mem) (σ : Store) (hN : l.length = N) (hlt : N < 64) (ho : Own LMem σ (some b) l) :
    ∃ σ', callS ipU gU (.fn 72 [] []) [.sl b 0 N 6 none, .int .i64 0, .int .i64 (N : Int), .fn 40 [] []] σ = some (.tup [], σ') ∧ InsQ σ b (sortM l) σ' := by
  have main : Ex ipU gU [.code F72.body] (initFr [.sl b 0 N 6 none, .int .i64 0, .int .i64 (N : Int), .fn 40 [] []]) σ fun fr' σ1 => resAll fr' σ1 F72.res = some (.tup []) ∧ InsQ σ b (sortM l) σ1 := by
    have w1 : IntKind.wrap .i64 (0 + 1) = ((1 : Nat) : Int) := by decide
    cases l with
    | nil =>
      subst hN
      have d0 : decide (((1 : Nat) : Int) < (([] : List Mem).length : Int)) = false := rfl
      simp only [F72_0, F72_1, F72_2, F72_3, F72_4, F72_5, F72_6, F72_7, F72_8, F72_9, F72_10, F72_11, F72_12, F72_13, F72_14, F72_15, F72_17, F72_18, F72_19, F72_20, F72_21, F72_22, F72_23, F72_24, F72_25, F72_26, F72_27, F72_28, F72_29, F72_30, F72, ex_loop, EX0, EX1, EX2, EX3, EX4, EX5, if_true, if_false, implies_true, forall_const, ne_eq, Nat.reduceEqDiff, reduceIte, reduceCtorEq, Nat.reduceAdd, Nat.reduceLeDiff, Nat.reduceSub, Nat.reduceMul, Int.reduceEq, Int.reduceBEq, Int.reduceBNe, Int.reduceLT, Int.reduceLE, Nat.reduceLT, w1, d0]
      exact ⟨ho, rfl, fun _ _ => rfl⟩
    | cons x0 r0 =>
    simp only [F72_0, F72_1, F72_2, F72_3, F72_4, F72_5, F72_6, F72_7, F72_8, F72_9, F72_10, F72_11, F72_12, F72_13, F72_14, F72_15, F72_17, F72_18, F72_19, F72_20, F72_21, F72_22, F72_23, F72_24, F72_25, F72_27, F72_28, F72_29, F72_30, F72, ex_loop, EX0, EX1, EX2, EX3, EX4, EX5, if_true, if_false, implies_true, forall_const, ne_eq, Nat.reduceEqDiff, reduceIte, reduceCtorEq, Nat.reduceAdd, Nat.reduceLeDiff, Nat.reduceSub, Nat.reduceMul, Int.reduceEq, Int.reduceBEq, Int.reduceBNe, Int.reduceLT, Int.reduceLE, Nat.reduceLT, w1]
    refine ex_whileI (S := List Mem × List Mem) (fun p => [(0, .sl b 0 N 6 none), (1, .int .i64 0), (2, .int .i64 (N : Int)), (3, .fn 40 [] []), (8, .int .i64 (p.1.length : Int))]) (fun p => p.2.length)
      (fun p τ => 0 < p.1.length ∧ p.1.length + p.2.length = N ∧ sortR p.1 p.2 = sortR [] (x0 :: r0) ∧ Own LMem τ (some b) (p.1.reverse ++ p.2) ∧ τ.next = σ.next ∧ ∀ b', b' ≠ b → τ.get b' = σ.get b') ?_ ([x0], r0) σ ⟨by simp, by simp at hN ⊢; omega, rfl, ho, rfl, fun _ _ => rfl⟩
    rintro bd ⟨acc, rest⟩ τ ⟨k1, k2, k3, k4, k5, k6⟩ ih
    simp only at k1 k2 k3 k4 k5 k6 ih ⊢
    cases rest with
    | nil =>
      have d0 : decide ((acc.length : Int) < (N : Int)) = false := by simp at k2 ⊢; omega
      simp only [F72_0, F72_1, F72_2, F72_3, F72_4, F72_5, F72_6, F72_7, F72_8, F72_9, F72_10, F72_11, F72_12, F72_13, F72_14, F72_15, F72_17, F72_18, F72_19, F72_20, F72_21, F72_22, F72_23, F72_24, F72_25, F72_26, F72_27, F72_28, F72_29, F72_30, F72, EX0, EX1, EX2, EX3, EX4, EX5, if_true, if_false, implies_true, forall_const, ne_eq, Nat.reduceEqDiff, reduceIte, reduceCtorEq, Nat.reduceAdd, Nat.reduceLeDiff, Nat.reduceSub, Nat.reduceMul, Int.reduceEq, Int.reduceBEq, Int.reduceBNe, Int.reduceLT, Int.reduceLE, Nat.reduceLT, d0]
      have k3' : acc = sortR [] (x0 :: r0) := k3
      refine ⟨?_, k5, k6⟩
      unfold sortM
      rw [← k3']; simpa using k4
    | cons x rest =>
      have d0 : decide ((acc.length : Int) < (N : Int)) = true := by simp at k2 ⊢; omega
      simp only [F72_0, F72_1, F72_2, F72_3, F72_4, F72_5, F72_6, F72_7, F72_8, F72_9, F72_10, F72_11, F72_12, F72_13, F72_14, F72_15, F72_17, F72_18, F72_19, F72_20, F72_21, F72_22, F72_23, F72_24, F72_25, F72_26, F72_27, F72_28, F72_29, F72_30, F72, ex_loop, EX0, EX1, EX2, EX3, EX4, EX5, if_true, if_false, implies_true, forall_const, ne_eq, Nat.reduceEqDiff, reduceIte, reduceCtorEq, Nat.reduceAdd, Nat.reduceLeDiff, Nat.reduceSub, Nat.reduceMul, Int.reduceEq, Int.reduceBEq, Int.reduceBNe, Int.reduceLT, Int.reduceLE, Nat.reduceLT, d0]
      have k3' : sortR (insR x acc) rest = sortR [] (x0 :: r0) := k3
      refine ex_whileI (S := List Mem × List Mem) (fun p => [(0, .sl b 0 N 6 none), (1, .int .i64 0), (2, .int .i64 (N : Int)), (3, .fn 40 [] []), (8, .int .i64 (acc.length : Int)), (9, .int .i64 (p.1.length : Int))]) (fun p => p.1.length)
        (fun p ρ => p.1.length + p.2.length = acc.length ∧ p.2 ++ insR x p.1 = insR x acc ∧ Own LMem ρ (some b) (p.1.reverse ++ x :: (p.2.reverse ++ rest)) ∧ ρ.next = σ.next ∧ ∀ b', b' ≠ b → ρ.get b' = σ.get b') ?_ (acc, []) τ ⟨by simp, rfl, by simpa using k4, k5, k6⟩
      rintro bd2 ⟨left, passed⟩ ρ ⟨q1, q2, q3, q4, q5⟩ ih2
      simp only at q1 q2 q3 q4 q5 ih2 ⊢
      -- how the outer loop goes on
      have fin : ∀ (fr' : Fr) (ρ' : Store), passed ++ x :: left = insR x acc → Own LMem ρ' (some b) (left.reverse ++ x :: (passed.reverse ++ rest)) → ρ'.next = σ.next → (∀ b', b' ≠ b → ρ'.get b' = σ.get b') →
          keep [0, 1, 2, 3, 8] fr' = [(0, .sl b 0 N 6 none), (1, .int .i64 0), (2, .int .i64 (N : Int)), (3, .fn 40 [] []), (8, .int .i64 ((acc.length + 1 : Nat) : Int))] → _ := fun fr' ρ' e1 e2 e3 e4 e5 =>
        ih (passed ++ x :: left, rest) fr' ρ' (by simp) ⟨by simp; omega, by simp at k2 ⊢; omega, by rw [e1]; exact k3', by simpa using e2, e3, e4⟩ (by
          have hh : (passed ++ x :: left).length = acc.length + 1 := by
            simp; omega
          rw [e5, hh])
      have hwi := wsucc (j := acc.length) (n := 64) (by simp at k2; omega) (by omega)
      cases left with
      | nil =>
        have d1 : decide (((([] : List Mem).length : Nat) : Int) > 0) = false := rfl
        have d1' : decide (0 < ((([] : List Mem).length : Nat) : Int)) = false := rfl
        have d1'' : decide (0 < ((0 : Nat) : Int)) = false := rfl
        simp only [F72_0, F72_1, F72_2, F72_3, F72_4, F72_5, F72_6, F72_7, F72_8, F72_9, F72_10, F72_11, F72_12, F72_13, F72_14, F72_15, F72_16, F72_17, F72_18, F72_19, F72_20, F72_21, F72_22, F72_23, F72_24, F72_25, F72_26, F72_27, F72_28, F72_29, F72_30, F72, EX0, EX1, EX2, EX3, EX4, EX5, if_true, if_false, implies_true, forall_const, ne_eq, Nat.reduceEqDiff, reduceIte, reduceCtorEq, Nat.reduceAdd, Nat.reduceLeDiff, Nat.reduceSub, Nat.reduceMul, Int.reduceEq, Int.reduceBEq, Int.reduceBNe, Int.reduceLT, Int.reduceLE, Nat.reduceLT, d1, d1', d1'', hwi]
        exact fin _ _ q2 q3 q4 q5 (by simp only [EX0, EX1, EX2, EX3, EX4, EX5, if_true, if_false, implies_true, forall_const, ne_eq, Nat.reduceEqDiff, reduceIte, reduceCtorEq, Nat.reduceAdd, Nat.reduceLeDiff, Nat.reduceSub, Nat.reduceMul, Int.reduceEq, Int.reduceBEq, Int.reduceBNe, Int.reduceLT, Int.reduceLE, Nat.reduceLT])
      | cons y r =>
        have hD : (y :: r).reverse ++ x :: (passed.reverse ++ rest) = r.reverse ++ y :: x :: (passed.reverse ++ rest) := by simp
        rw [hD] at q3
        have g0 : (r.reverse ++ y :: x :: (passed.reverse ++ rest))[r.length]? = some y := by
          rw [List.getElem?_append_right (by simp)]; simp
        have g1 : (r.reverse ++ y :: x :: (passed.reverse ++ rest))[r.length + 1]? = some x := by
          rw [List.getElem?_append_right (by simp)]; simp
        have hrN : r.length + 1 < N := by simp at q1 k2; omega
        have d1 : decide (((r.length + 1 : Nat) : Int) > 0) = true := by simp
        have d1' : decide (0 < ((r.length + 1 : Nat) : Int)) = true := by simp
        have i1 : idxOf 6 none (.sl b 0 N 6 none) (.int .i64 ((r.length + 1 : Nat) : Int)) = some (.ptr b ((r.length + 1) * 6)) := by
          simp [idxOf]
          omega
        have i0 : idxOf 6 none (.sl b 0 N 6 none) (.int .i64 ((r.length : Nat) : Int)) = some (.ptr b (r.length * 6)) := by
          have : r.length < N := by omega
          simp [idxOf, this]
        have wp : IntKind.wrap .i64 (((r.length + 1 : Nat) : Int) - 1) = ((r.length : Nat) : Int) := by
          have := wpred (j := r.length + 1) (by omega) (by omega)
          simpa using this
        have hlk := q3.blk
        have hlen : (r.reverse ++ y :: x :: (passed.reverse ++ rest)).length = N := by simp at q1 k2 ⊢; omega
        have rd1 : readAt (LMem.cells _) ((r.length + 1) * 6) (some 6) = some (memE x) := LMem.read g1 (by decide)
        have rd0 : readAt (LMem.cells _) (r.length * 6) (some 6) = some (memE y) := LMem.read g0 (by decide)
        have hk := r_key x y
        cases hb : bytesLess x.1 y.1
        · simp only [F72_0, F72_1, F72_2, F72_3, F72_4, F72_5, F72_6, F72_7, F72_8, F72_9, F72_10, F72_11, F72_12, F72_13, F72_14, F72_15, F72_16, F72_17, F72_18, F72_19, F72_20, F72_21, F72_22, F72_23, F72_24, F72_25, F72_26, F72_27, F72_28, F72_29, F72_30, F72, EX0, EX1, EX2, EX3, EX4, EX5, if_true, if_false, implies_true, forall_const, ne_eq, Nat.reduceEqDiff, reduceIte, reduceCtorEq, Nat.reduceAdd, Nat.reduceLeDiff, Nat.reduceSub, Nat.reduceMul, Int.reduceEq, Int.reduceBEq, Int.reduceBNe, Int.reduceLT, Int.reduceLE, Nat.reduceLT, VX, d1, d1', i1, i0, wp, hlk, rd1, rd0, hk, keyC_lt, hb, hwi]
          simp only [insR, hb, Bool.false_eq_true, if_false] at q2
          exact fin _ _ q2 (by rw [hD]; exact q3) q4 q5 (by simp only [EX0, EX1, EX2, EX3, EX4, EX5, if_true, if_false, implies_true, forall_const, ne_eq, Nat.reduceEqDiff, reduceIte, reduceCtorEq, Nat.reduceAdd, Nat.reduceLeDiff, Nat.reduceSub, Nat.reduceMul, Int.reduceEq, Int.reduceBEq, Int.reduceBNe, Int.reduceLT, Int.reduceLE, Nat.reduceLT])
        · simp only [insR, hb, if_true] at q2
          have hCl := LMem.cells_len (r.reverse ++ y :: x :: (passed.reverse ++ rest))
          rw [hlen] at hCl
          have sw := swap_set r.reverse (passed.reverse ++ rest) x y
          rw [List.length_reverse] at sw
          have sp1 := LMem.splice (l := r.reverse ++ y :: x :: (passed.reverse ++ rest)) (j := r.length + 1) y (by omega)
          generalize hD1 : (r.reverse ++ y :: x :: (passed.reverse ++ rest)).set (r.length + 1) y = D1 at sp1 sw
          have hl1 : D1.length = N := by rw [← hD1, List.length_set, hlen]
          have sp2 := LMem.splice (l := D1) (j := r.length) x (by omega)
          rw [sw] at sp2
          simp only [show ∀ z, LMem.f z = memE z from fun _ => rfl, memE_cells, show LMem.sz = 6 from rfl] at sp1 sp2
          have hc1 : ((r.length + 1) * 6 + 6 ≤ (LMem.cells (r.reverse ++ y :: x :: (passed.reverse ++ rest))).length) = True := eq_true (by rw [hCl]; show _ ≤ N * 6; omega)
          have hc2 : (r.length * 6 + 6 ≤ (LMem.cells D1).length) = True := eq_true (by rw [LMem.cells_len, hl1]; show _ ≤ N * 6; omega)
          simp only [F72_0, F72_1, F72_2, F72_3, F72_4, F72_5, F72_6, F72_7, F72_8, F72_9, F72_10, F72_11, F72_12, F72_13, F72_14, F72_15, F72_16, F72_17, F72_18, F72_19, F72_20, F72_21, F72_22, F72_23, F72_24, F72_25, F72_26, F72_27, F72_28, F72_29, F72_30, F72, EX0, EX1, EX2, EX3, EX4, EX5, if_true, if_false, implies_true, forall_const, ne_eq, Nat.reduceEqDiff, reduceIte, reduceCtorEq, Nat.reduceAdd, Nat.reduceLeDiff, Nat.reduceSub, Nat.reduceMul, Int.reduceEq, Int.reduceBEq, Int.reduceBNe, Int.reduceLT, Int.reduceLE, Nat.reduceLT, VX, d1, d1', i1, i0, wp, hlk, rd1, rd0, hk, keyC_lt, hb, hwi, hc1, sp1, hc2, sp2]
          refine ih2 (r, passed ++ [y]) _ _ (by simp) ⟨by simp at q1 ⊢; omega, by simpa using q2, ?_, q4, ?_⟩ (by simp only [EX0, EX1, EX2, EX3, EX4, EX5, if_true, if_false, implies_true, forall_const, ne_eq, Nat.reduceEqDiff, reduceIte, reduceCtorEq, Nat.reduceAdd, Nat.reduceLeDiff, Nat.reduceSub, Nat.reduceMul, Int.reduceEq, Int.reduceBEq, Int.reduceBNe, Int.reduceLT, Int.reduceLE, Nat.reduceLT])
          · obtain ⟨o1, o2, o3, o4⟩ := q3
            refine ⟨?_, by simpa using LMem.cells_len (r.reverse ++ x :: ((passed ++ [y]).reverse ++ rest)), o3, by simp; omega⟩
            simp [Store.get, look]
          · intro b' hb'
            rw [← q5 b' hb']
            simp only [Store.get, look]
            rw [if_neg (fun hh => hb' hh.symm), if_neg (fun hh => hb' hh.symm)]
  obtain ⟨n, fr', σ1, h1, h2, h3⟩ := main
  exact ⟨σ1, callS_of (F := F72) rfl (first := []) (caps := []) ⟨n, fr', σ1, h1, h2, rfl⟩, h3⟩
end Go.Ab
/- Sorting, maps. -/
namespace Go.Ab
set_option linter.unusedSimpArgs false
set_option maxHeartbeats 1000000
set_option maxRecDepth 100000
theorem c_ins0 (v : AV) (σ : Store) : callS ipU gU (.fn 72 [] []) [v, .int .i64 0, .int .i64 0, .fn 40 [] []] σ = some (.tup [], σ) := by
  refine callS_of (F := F72) rfl (first := []) (caps := []) ?_
  have w1 : IntKind.wrap .i64 (0 + 1) = ((1 : Nat) : Int) := by decide
  have d0 : decide (((1 : Nat) : Int) < 0) = false := rfl
  simp only [F72_0, F72_1, F72_2, F72_3, F72_4, F72_5, F72_6, F72_7, F72_8, F72_9, F72_10, F72_11, F72_12, F72_13, F72_14, F72_15, F72_17, F72_18, F72_19, F72_20, F72_21, F72_22, F72_23, F72_24, F72_25, F72_26, F72_27, F72_28, F72_29, F72_30, F72, ex_loop, EX0, EX1, EX2, EX3, EX4, EX5, if_true, if_false, implies_true, forall_const, ne_eq, Nat.reduceEqDiff, reduceIte, reduceCtorEq, Nat.reduceAdd, Nat.reduceLeDiff, Nat.reduceSub, Nat.reduceMul, Int.reduceEq, Int.reduceBEq, Int.reduceBNe, Int.reduceLT, Int.reduceLE, Nat.reduceLT, w1, d0]
/-- What a copy of some members is. -/
def cpy (σ : Store) (l : List Mem) : AV := if l = [] then .vsl [] (some 0) else .sl σ.next 0 l.length 6 none
def cpyS (σ : Store) (l : List Mem) : Store := if l = [] then σ else σ.alloc (LMem.cells l)
theorem c_clone2 (l : List Mem) (c : Option Nat) (σ : Store) (hb : l.length < lim) : callM ipU gU .split (.fn 38 [] []) [.vsl (l.map memE) c] σ = some (cpy σ l, cpyS σ l) := by
  unfold lim at hb
  cases l with
  | nil =>
    have hb2 : both ipU gU (.fn 38 [] []) σ = true := both_of 100 (by kernel_rfl) (by kernel_rfl)
    simp only [callM, List.map_nil, noItems, if_true, hb2, cpy, cpyS]
  | cons x l =>
    have hro : ∀ σ', rowOf σ' 6 (.vsl ((x :: l).map memE) c) = some (LMem.cells (x :: l)) := fun σ' => LMem.rowOf σ' (x :: l) c
    have ha : appendTo σ 6 96 (.vsl [] (some 0)) (LMem.cells (x :: l)) (l.length + 1) = some (.sl σ.next 0 (l.length + 1) 6 none, σ.alloc (LMem.cells (x :: l))) :=
      app00 (by omega) (by omega) (by unfold maxBytes; simp at hb; omega) (LMem.cells_len (x :: l)) (LMem.cells_one _) (by omega)
    have hn : noItems [.vsl ((x :: l).map memE) c] = false := rfl
    simp only [callM, hn, Bool.false_eq_true, if_false]
    refine callS_of (F := F38) rfl (first := []) (caps := []) ?_
    simp only [List.map_cons] at hro
    simp only [F38_0, F38_1, F38_2, F38_3, F38_4, F38_5, F38_6, F38_7, F38_8, F38_9, F38_10, F38_11, F38_12, F38, EX0, EX1, EX2, EX3, EX4, EX5, if_true, if_false, implies_true, forall_const, ne_eq, Nat.reduceEqDiff, reduceIte, reduceCtorEq, Nat.reduceAdd, Nat.reduceLeDiff, Nat.reduceSub, Nat.reduceMul, Int.reduceEq, Int.reduceBEq, Int.reduceBNe, Int.reduceLT, Int.reduceLE, Nat.reduceLT, VX, lenOf_vsl, hro, ha]
    simp [Store.alloc, cpy, cpyS]
theorem cpy_own {σ : Store} {l : List Mem} (h : l ≠ []) : Own LMem (cpyS σ l) (some σ.next) l := by
  have hl : 0 < l.length := List.length_pos_iff.2 h
  rw [cpyS, if_neg h]
  exact ⟨get_alloc_next, LMem.cells_len l, by simp [next_alloc], hl⟩
theorem sortM_len (l : List Mem) : (sortM l).length = l.length := by simp [sortM, sortR_len]
theorem c_sort (l : List Mem) (σ : Store) (hb : l.length < 20) : ∃ σ', callS ipU gU (.fn 39 [] []) [cpy σ l, .fn 40 [] []] (cpyS σ l) = some (.tup [], σ') ∧
    (if l = [] then σ' = σ else Own LMem σ' (some σ.next) (sortM l)) ∧ Grown σ σ' ∧ σ'.next ≤ σ.next + 1 := by
  have d1 : decide ((20 : Int) ≤ (l.length : Int)) = false := by simp; omega
  have d2 : decide ((20 : Int) < (l.length : Int)) = false := by simp; omega
  have h60 : ∀ (v : AV) (τ τ' : Store), callS ipU gU (.fn 72 [] []) [v, .int .i64 0, .int .i64 (l.length : Int), .fn 40 [] []] τ = some (.tup [], τ') →
      callS ipU gU (.fn 60 [] []) [v, .int .i64 (l.length : Int), .fn 40 [] []] τ = some (.tup [], τ') := by
    intro v τ τ' hc
    refine callS_of (F := F60) rfl (first := []) (caps := []) ?_
    simp only [F60_0, F60_1, F60_2, F60_3, F60_4, F60_5, F60_6, F60_7, F60_8, F60_9, F60_10, F60_11, F60_12, F60_13, F60_14, F60_15, F60_16, F60_17, F60_18, F60_19, F60_20, F60_21, F60_22, F60_23, F60_24, F60_25, F60_26, F60_27, F60_28, F60_29, F60_30, F60_31, F60_32, F60_33, F60_34, F60_35, F60_36, F60_38, F60_39, F60_40, F60_41, F60_42, F60_43, F60_44, F60_45, F60_46, F60_47, F60_48, F60_49, F60_50, F60_51, F60_52, F60_53, F60_54, F60_55, F60_56, F60_57, F60_58, F60_59, F60_60, F60_61, F60_62, F60_63, F60_64, F60_65, F60_66, F60_67, F60, ex_loop, EX0, EX1, EX2, EX3, EX4, EX5, if_true, if_false, implies_true, forall_const, ne_eq, Nat.reduceEqDiff, reduceIte, reduceCtorEq, Nat.reduceAdd, Nat.reduceLeDiff, Nat.reduceSub, Nat.reduceMul, Int.reduceEq, Int.reduceBEq, Int.reduceBNe, Int.reduceLT, Int.reduceLE, Nat.reduceLT, d1, d2, hc]
  by_cases h0 : l = []
  · subst h0
    refine ⟨σ, ?_, by rw [if_pos rfl], Grown.refl _, by omega⟩
    have h := h60 (.vsl [] (some 0)) σ σ (c_ins0 _ _)
    refine callS_of (F := F39) rfl (first := []) (caps := []) ?_
    simp only [cpy, cpyS, if_true]
    simp only [F39_0, F39, EX0, EX1, EX2, EX3, EX4, EX5, if_true, if_false, implies_true, forall_const, ne_eq, Nat.reduceEqDiff, reduceIte, reduceCtorEq, Nat.reduceAdd, Nat.reduceLeDiff, Nat.reduceSub, Nat.reduceMul, Int.reduceEq, Int.reduceBEq, Int.reduceBNe, Int.reduceLT, Int.reduceLE, Nat.reduceLT, VX] at h ⊢
    simp only [h, EX0, EX1, EX2, EX3, EX4, EX5, if_true, if_false, implies_true, forall_const, ne_eq, Nat.reduceEqDiff, reduceIte, reduceCtorEq, Nat.reduceAdd, Nat.reduceLeDiff, Nat.reduceSub, Nat.reduceMul, Int.reduceEq, Int.reduceBEq, Int.reduceBNe, Int.reduceLT, Int.reduceLE, Nat.reduceLT]
  · have ho := cpy_own (σ := σ) h0
    obtain ⟨σ', h1, h2, h3, h4⟩ := c_ins σ.next l.length l (cpyS σ l) rfl (by omega) ho
    have h := h60 _ _ _ h1
    have hn : (cpyS σ l).next = σ.next + 1 := by rw [cpyS, if_neg h0]; rfl
    refine ⟨σ', ?_, by rw [if_neg h0]; exact h2, ⟨by omega, fun b hb' => ?_⟩, by omega⟩
    · refine callS_of (F := F39) rfl (first := []) (caps := []) ?_
      simp only [cpy, if_neg h0]
      simp only [F39_0, F39, EX0, EX1, EX2, EX3, EX4, EX5, if_true, if_false, implies_true, forall_const, ne_eq, Nat.reduceEqDiff, reduceIte, reduceCtorEq, Nat.reduceAdd, Nat.reduceLeDiff, Nat.reduceSub, Nat.reduceMul, Int.reduceEq, Int.reduceBEq, Int.reduceBNe, Int.reduceLT, Int.reduceLE, Nat.reduceLT, VX, h]
    · rw [h4 b (by omega), cpyS, if_neg h0, get_alloc hb']
end Go.Ab
/- value.Map. -/
namespace Go.Ab
set_option linter.unusedSimpArgs false
set_option maxHeartbeats 1000000
set_option maxRecDepth 100000
/-- A slice that was begun behind σ0 holds a list; what was at σ0 is as it was. -/
structure Acc {α : Type} (L : Lay α) (σ0 σ : Store) (v : AV) (l : List α) : Prop where
  gr : Gr L σ v l
  far : ∀ b o len sz c, v = .sl b o len sz c → σ0.next ≤ b
  grown : Grown σ0 σ
theorem Acc.newset {α : Type} {L : Lay α} {σ0 σ : Store} {v : AV} {l : List α} (h : Acc L σ0 σ v l) (cs cs' : List AV) : Acc L σ0 { next := σ.next + 1, m := (σ.next, .own cs) :: (σ.next, .own cs') :: σ.m } v l where
  gr := h.gr.newset cs cs'
  far := h.far
  grown := ⟨by have := h.grown.1; simp; omega, fun b hb => by
    rw [← h.grown.2 b hb]
    have := h.grown.1
    show look ((σ.next, Blk.own cs) :: (σ.next, .own cs') :: σ.m) b = look σ.m b
    simp only [look]; rw [if_neg (by omega), if_neg (by omega)]⟩
theorem Acc.app {α : Type} {L : Lay α} {σ0 σ : Store} {v : AV} {l m : List α} (h : Acc L σ0 σ v l) (hm : 0 < m.length) : Acc L σ0 (grNext L σ v l m) (.sl σ.next 0 (l ++ m).length L.sz none) (l ++ m) where
  gr := Gr.own (h.gr.next hm)
  far := fun b o len sz c he => by simp only [AV.sl.injEq] at he; have := h.grown.1; omega
  grown := ⟨by rw [grNext_next]; have := h.grown.1; omega, fun b hb => by
    have h1 := h.grown.1
    rw [grNext_get h.gr (by omega) (fun len sz c he => by have := h.far _ _ _ _ _ he; omega)]
    exact h.grown.2 b hb⟩
def dedupM : List Mem → List Mem
  | [] => []
  | [x] => [x]
  | x :: y :: r => if y.1 = x.1 then dedupM (y :: r) else x :: dedupM (y :: r)
def mapOf (l : List Mem) : V := V.mk 5 0 [] [] (dedupM (sortM l))
theorem dedupM_len : ∀ l : List Mem, (dedupM l).length ≤ l.length
  | [] => by simp [dedupM]
  | [x] => by simp [dedupM]
  | x :: y :: r => by
    have := dedupM_len (y :: r)
    simp only [dedupM]
    split <;> simp at this ⊢ <;> omega
theorem r_Map (l : List Mem) (hb : l.length < 20) : cR 20 [.vsl (l.map memE) none] = some (mapOf l).enc := by
  refine cR_of (F := F20) rfl ?_
  simp only [F20_0, F20_1, F20_2, F20_3, F20_4, F20_5, F20_6, F20_7, F20_8, F20_9, F20_10, F20_11, F20_12, F20_13, F20_14, F20_15, F20_16, F20_17, F20_18, F20_19, F20_20, F20_21, F20_23, F20_24, F20_25, F20_26, F20_27, F20_28, F20_29, F20_30, F20_31, F20_32, F20_33, F20_34, F20_35, F20_36, F20_37, F20_38, F20, ex_loop, EX0, EX1, EX2, EX3, EX4, EX5, if_true, if_false, implies_true, forall_const, ne_eq, Nat.reduceEqDiff, reduceIte, reduceCtorEq, Nat.reduceAdd, Nat.reduceLeDiff, Nat.reduceSub, Nat.reduceMul, Int.reduceEq, Int.reduceBEq, Int.reduceBNe, Int.reduceLT, Int.reduceLE, Nat.reduceLT, VX]
  have h1 := c_clone2 l none ⟨1, [(0, .own [.int .i64 0, .int .i64 0, .str [], .nils, .nils])]⟩ (by unfold lim; omega)
  obtain ⟨σ1, h2, h3, h4, h5⟩ := c_sort l ⟨1, [(0, .own [.int .i64 0, .int .i64 0, .str [], .nils, .nils])]⟩ hb
  have hN := sortM_len l
  have hlen : lenL (cpy ⟨1, [(0, .own [.int .i64 0, .int .i64 0, .str [], .nils, .nils])]⟩ l) = some (.int .i64 (l.length : Int)) := by
    unfold cpy
    split
    · rename_i h; subst h; rfl
    · rfl
  have hidx : ∀ j : Nat, j < l.length → idxOf 6 none (cpy ⟨1, [(0, .own [.int .i64 0, .int .i64 0, .str [], .nils, .nils])]⟩ l) (.int .i64 (j : Int)) = some (.ptr 1 (j * 6)) := by
    intro j hj
    have h0 : l ≠ [] := by rintro rfl; simp at hj
    unfold cpy
    rw [if_neg h0]
    simp [idxOf, hj]
  generalize cpy ⟨1, [(0, .own [.int .i64 0, .int .i64 0, .str [], .nils, .nils])]⟩ l = cv at h1 h2 hlen hidx
  simp only [h1]
  simp only [ex_loop, EX0, EX1, EX2, EX3, EX4, EX5, if_true, if_false, implies_true, forall_const, ne_eq, Nat.reduceEqDiff, reduceIte, reduceCtorEq, Nat.reduceAdd, Nat.reduceLeDiff, Nat.reduceSub, Nat.reduceMul, Int.reduceEq, Int.reduceBEq, Int.reduceBNe, Int.reduceLT, Int.reduceLE, Nat.reduceLT, VX, h2, hlen]
  unfold mapOf
  generalize hS : sortM l = S at h3 hN ⊢
  have z0 : σ1.get 0 = some (.own [.int .i64 0, .int .i64 0, .str [], .nils, .nils]) := h4.2 0 (by simp)
  have hnx : 1 ≤ σ1.next := h4.1
  have own1 : ∀ j : Nat, j < l.length → Own LMem σ1 (some 1) S := by
    intro j hj
    have h0 : l ≠ [] := by rintro rfl; simp at hj
    rw [if_neg h0] at h3
    exact h3
  refine ex_whileI (S := Nat × List Mem × AV) (fun p => [(0, cv), (2, .ptr 0 0), (3, p.2.2), (10, cv), (11, .int .i64 (l.length : Int)), (12, .int .i64 (p.1 : Int))]) (fun p => l.length - p.1)
    (fun p τ => Acc LMem σ1 τ p.2.2 p.2.1 ∧ p.2.1 ++ dedupM (S.drop p.1) = dedupM S ∧ p.2.1.length ≤ p.1) ?_ (0, [], .nils) σ1 ⟨⟨Gr.nil _ _, fun b o len sz c h => by simp at h, Grown.refl _⟩, by simp, by simp⟩
  rintro b ⟨j, acc, ov⟩ τ ⟨k1, k2, k3⟩ ih
  simp only at k1 k2 k3 ih ⊢
  by_cases hlt : j < l.length
  · obtain ⟨x, hx⟩ := get_lt (l := S) (j := j) (by omega)
    have hcond := dlt hlt
    have ho := own1 j hlt
    have hb1 : 1 < σ1.next := ho.lt
    have hg1 : τ.get 1 = some (.own (LMem.cells S)) := by rw [k1.grown.2 1 hb1]; exact ho.1
    have hlk := look_get hg1
    have hne : (τ.next = 1) = False := eq_false (by have := k1.grown.1; omega)
    have rd : readAt (LMem.cells S) (j * 6) (some 6) = some (memE x) := LMem.read hx (by decide)
    have hi := hidx j hlt
    have hw := wsucc (j := j) (n := 64) (by omega) (by omega)
    have hns := k1.newset
    have hlo : lenOf (.vsl [memE x] (some 1)) = some 1 := rfl
    have hro : ∀ σ', rowOf σ' 6 (.vsl [memE x] (some 1)) = some (memE x).cells := fun σ' => by
      have := LMem.rowOf σ' [x] (some 1)
      simpa [Lay.cells, LMem] using this
    rw [drop_cons hx] at k2
    by_cases hlast : j + 1 = l.length
    · have q1 : (((j + 1 : Nat) : Int) == (l.length : Int)) = true := by simp; omega
      have hd : S.drop (j + 1) = [] := List.drop_eq_nil_of_le (by omega)
      rw [hd] at k2
      have happ : ∀ cs cs', appendTo _ 6 96 ov (memE x).cells 1 = some _ := fun cs cs' => (hns cs cs').gr.push (a := x) (bytes := 96) (by omega) (by unfold maxBytes; omega)
      simp only [memE_cells] at happ hro
      simp only [F20_0, F20_1, F20_2, F20_3, F20_4, F20_5, F20_6, F20_7, F20_8, F20_9, F20_10, F20_11, F20_12, F20_13, F20_14, F20_15, F20_16, F20_17, F20_18, F20_19, F20_20, F20_21, F20_22, F20_23, F20_24, F20_25, F20_26, F20_27, F20_28, F20_29, F20_30, F20_31, F20_32, F20_33, F20_34, F20_35, F20_36, F20_37, F20_38, F20, EX0, EX1, EX2, EX3, EX4, EX5, if_true, if_false, implies_true, forall_const, ne_eq, Nat.reduceEqDiff, reduceIte, reduceCtorEq, Nat.reduceAdd, Nat.reduceLeDiff, Nat.reduceSub, Nat.reduceMul, Int.reduceEq, Int.reduceBEq, Int.reduceBNe, Int.reduceLT, Int.reduceLE, Nat.reduceLT, VX, readAt_some, hcond, hi, hlk, hne, rd, hw, hlen, q1, hlo, hro, happ]
      refine ih (j + 1, acc ++ [x], _) _ _ (by simp; omega) ⟨(hns _ _).app (by simp), ?_, by simp; omega⟩ (by simp only [EX0, EX1, EX2, EX3, EX4, EX5, if_true, if_false, implies_true, forall_const, ne_eq, Nat.reduceEqDiff, reduceIte, reduceCtorEq, Nat.reduceAdd, Nat.reduceLeDiff, Nat.reduceSub, Nat.reduceMul, Int.reduceEq, Int.reduceBEq, Int.reduceBNe, Int.reduceLT, Int.reduceLE, Nat.reduceLT])
      rw [hd]
      simpa [dedupM] using k2
    · have q1 : (((j + 1 : Nat) : Int) == (l.length : Int)) = false := by
        rw [beq_eq_false_iff_ne]; omega
      obtain ⟨y, hy⟩ := get_lt (l := S) (j := j + 1) (by omega)
      have hi2 := hidx (j + 1) (by omega)
      have hy0 : readAt (LMem.cells S) ((j + 1) * 6) none = some (.str y.1) := by
        have := LMem.read hy (by decide)
        show (LMem.cells S)[(j + 1) * 6]? = _
        have e := LMem.drop (l := S) (j := j + 1) (by omega)
        rw [drop_cons hy, LMem.cells_cons] at e
        have e2 : ((LMem.cells S).drop ((j + 1) * 6))[0]? = some (.str y.1) := by
          show ((LMem.cells S).drop ((j + 1) * LMem.sz))[0]? = _
          rw [e]
          show ((memE y).cells ++ _)[0]? = _
          rw [memE_cells]; rfl
        rw [List.getElem?_drop] at e2
        simpa using e2
      rw [drop_cons hy] at k2
      have hy1 : (LMem.cells S)[(j + 1) * 6]? = some (.str y.1) := hy0
      by_cases hxy : y.1 = x.1
      · have q2 : (!(y.1 == x.1)) = false := by simp [hxy]
        simp only [dedupM, hxy, if_true] at k2
        simp only [F20_0, F20_1, F20_2, F20_3, F20_4, F20_5, F20_6, F20_7, F20_8, F20_9, F20_10, F20_11, F20_12, F20_13, F20_14, F20_15, F20_16, F20_17, F20_18, F20_19, F20_20, F20_21, F20_22, F20_23, F20_24, F20_25, F20_26, F20_27, F20_28, F20_29, F20_30, F20_31, F20_32, F20_33, F20_34, F20_35, F20_36, F20_37, F20_38, F20, EX0, EX1, EX2, EX3, EX4, EX5, if_true, if_false, implies_true, forall_const, ne_eq, Nat.reduceEqDiff, reduceIte, reduceCtorEq, Nat.reduceAdd, Nat.reduceLeDiff, Nat.reduceSub, Nat.reduceMul, Int.reduceEq, Int.reduceBEq, Int.reduceBNe, Int.reduceLT, Int.reduceLE, Nat.reduceLT, VX, readAt_some, hcond, hi, hlk, hne, rd, hw, hlen, q1, hi2, hy1, q2]
        refine ih (j + 1, acc, ov) _ _ (by simp; omega) ⟨hns _ _, ?_, by simp; omega⟩ (by simp only [EX0, EX1, EX2, EX3, EX4, EX5, if_true, if_false, implies_true, forall_const, ne_eq, Nat.reduceEqDiff, reduceIte, reduceCtorEq, Nat.reduceAdd, Nat.reduceLeDiff, Nat.reduceSub, Nat.reduceMul, Int.reduceEq, Int.reduceBEq, Int.reduceBNe, Int.reduceLT, Int.reduceLE, Nat.reduceLT])
        rw [drop_cons hy]; exact k2
      · have q2 : (!(y.1 == x.1)) = true := by simp [hxy]
        simp only [dedupM, hxy, if_false] at k2
        have happ : ∀ cs cs', appendTo _ 6 96 ov (memE x).cells 1 = some _ := fun cs cs' => (hns cs cs').gr.push (a := x) (bytes := 96) (by omega) (by unfold maxBytes; omega)
        simp only [memE_cells] at happ hro
        simp only [F20_0, F20_1, F20_2, F20_3, F20_4, F20_5, F20_6, F20_7, F20_8, F20_9, F20_10, F20_11, F20_12, F20_13, F20_14, F20_15, F20_16, F20_17, F20_18, F20_19, F20_20, F20_21, F20_22, F20_23, F20_24, F20_25, F20_26, F20_27, F20_28, F20_29, F20_30, F20_31, F20_32, F20_33, F20_34, F20_35, F20_36, F20_37, F20_38, F20, EX0, EX1, EX2, EX3, EX4, EX5, if_true, if_false, implies_true, forall_const, ne_eq, Nat.reduceEqDiff, reduceIte, reduceCtorEq, Nat.reduceAdd, Nat.reduceLeDiff, Nat.reduceSub, Nat.reduceMul, Int.reduceEq, Int.reduceBEq, Int.reduceBNe, Int.reduceLT, Int.reduceLE, Nat.reduceLT, VX, readAt_some, hcond, hi, hlk, hne, rd, hw, hlen, q1, hi2, hy1, q2, hlo, hro, happ]
        refine ih (j + 1, acc ++ [x], _) _ _ (by simp; omega) ⟨(hns _ _).app (by simp), ?_, by simp; omega⟩ (by simp only [EX0, EX1, EX2, EX3, EX4, EX5, if_true, if_false, implies_true, forall_const, ne_eq, Nat.reduceEqDiff, reduceIte, reduceCtorEq, Nat.reduceAdd, Nat.reduceLeDiff, Nat.reduceSub, Nat.reduceMul, Int.reduceEq, Int.reduceBEq, Int.reduceBNe, Int.reduceLT, Int.reduceLE, Nat.reduceLT])
        rw [drop_cons hy]
        simpa using k2
  · have hcond := dge (Nat.not_lt.1 hlt)
    have hd : S.drop j = [] := List.drop_eq_nil_of_le (by omega)
    rw [hd] at k2
    simp only [dedupM, List.append_nil] at k2
    obtain ⟨p1, p2, p3, p4⟩ := k1.gr.plain
    have hlk0 := look_get ((k1.grown.2 0 (by omega)).trans z0)
    have hg2 : Gr LMem { next := τ.next, m := (0, .own [.int .i64 5, .int .i64 0, .str [], .nils, ov]) :: τ.m } ov acc := by
      rcases k1.gr with h | ⟨b', rfl, h⟩ | h
      · exact .inl h
      · have hb1 := k1.far b' _ _ _ _ rfl
        exact Gr.own (h.frame (by show look ((0, _) :: τ.m) b' = _; simp only [look]; rw [if_neg (by omega)]; rfl) (Nat.le_refl _))
      · exact .inr (.inr h)
    have hrb := RbL.agg (RbL.clo (x := .int .i64 5) rfl (RbL.clo (x := .int .i64 0) rfl (RbL.clo (x := .str []) rfl (RbL.clo (x := .nils) rfl (RbL.gr hg2 (RbL.nil _ 23))))))
    simp only [F20_0, F20_1, F20_2, F20_3, F20_4, F20_5, F20_6, F20_7, F20_8, F20_9, F20_10, F20_11, F20_12, F20_13, F20_14, F20_15, F20_16, F20_17, F20_18, F20_19, F20_20, F20_21, F20_22, F20_23, F20_24, F20_25, F20_26, F20_27, F20_28, F20_29, F20_30, F20_31, F20_32, F20_33, F20_34, F20_35, F20_36, F20_37, F20_38, F20, EX0, EX1, EX2, EX3, EX4, EX5, if_true, if_false, implies_true, forall_const, ne_eq, Nat.reduceEqDiff, reduceIte, reduceCtorEq, Nat.reduceAdd, Nat.reduceLeDiff, Nat.reduceSub, Nat.reduceMul, Int.reduceEq, Int.reduceBEq, Int.reduceBNe, Int.reduceLT, Int.reduceLE, Nat.reduceLT, VX, readAt_some, hcond, p1, p2, p3, p4, hlk0, hrb]
    rw [← k2]
    exact V.fold1 5 0 [] acc
end Go.Ab
/- Members looked up, in order. -/
namespace Go.Ab
set_option linter.unusedSimpArgs false
set_option maxHeartbeats 1000000
set_option maxRecDepth 100000
def lookM : List Mem → Bs → Option V
  | [], _ => none
  | x :: r, k => if x.1 = k then some x.2 else lookM r k
def Rises (m : List Mem) : Prop := m.Pairwise fun x y => bytesLess x.1 y.1 = true
theorem keyAt_of {m : List Mem} {i : Nat} {x : Mem} (h : m[i]? = some x) : keyAt m i = x.1 := by simp [keyAt, h]
theorem rises_get {m : List Mem} (h : Rises m) {i j : Nat} (hij : i < j) (hj : j < m.length) : bytesLess (keyAt m i) (keyAt m j) = true := by
  have hi : i < m.length := by omega
  rw [keyAt_of (List.getElem?_eq_getElem hi), keyAt_of (List.getElem?_eq_getElem hj)]
  exact List.pairwise_iff_getElem.1 h i j hi hj hij
theorem bsF_spec {m : List Mem} {k : Bs} (h : Rises m) : ∀ (n i j : Nat), j - i ≤ n → i ≤ j → j ≤ m.length → (∀ t, t < i → bytesLess (keyAt m t) k = true) → (∀ t, j ≤ t → t < m.length → bytesLess (keyAt m t) k = false) →
    i ≤ bsF m k i j ∧ bsF m k i j ≤ j ∧ (∀ t, t < bsF m k i j → bytesLess (keyAt m t) k = true) ∧ (∀ t, bsF m k i j ≤ t → t < m.length → bytesLess (keyAt m t) k = false) := by
  intro n
  induction n with
  | zero =>
    intro i j h1 h2 h3 h4 h5
    have : i = j := by omega
    subst this
    have e : bsF m k i i = i := by rw [bsF, if_neg (Nat.lt_irrefl _)]
    rw [e]; exact ⟨Nat.le_refl _, Nat.le_refl _, h4, h5⟩
  | succ n ih =>
    intro i j h1 h2 h3 h4 h5
    by_cases hij : i < j
    · obtain ⟨c, hc⟩ : ∃ c, c = (i + j) / 2 := ⟨_, rfl⟩
      have hstep : bsF m k i j = if bytesLess (keyAt m c) k = true then bsF m k (c + 1) j else bsF m k i c := by rw [bsF, if_pos hij, ← hc]
      rw [hstep]
      by_cases hb : bytesLess (keyAt m c) k = true
      · rw [if_pos hb]
        obtain ⟨g1, g2, g3, g4⟩ := ih (c + 1) j (by omega) (by omega) h3 (fun t ht => by
          by_cases htc : t = c
          · rw [htc]; exact hb
          · exact bl_trans (rises_get h (show t < c by omega) (by omega)) hb) h5
        exact ⟨by omega, g2, g3, g4⟩
      · rw [if_neg hb]
        have hb' : bytesLess (keyAt m c) k = false := by simpa using hb
        obtain ⟨g1, g2, g3, g4⟩ := ih i c (by omega) (by omega) (by omega) h4 (fun t ht htl => by
          by_cases htc : t = c
          · rw [htc]; exact hb'
          · cases hh : bytesLess (keyAt m t) k
            · rfl
            · rw [bl_trans (rises_get h (show c < t by omega) htl) hh] at hb'; simp at hb')
        exact ⟨g1, by omega, g3, g4⟩
    · have : i = j := by omega
      subst this
      have e : bsF m k i i = i := by rw [bsF, if_neg (Nat.lt_irrefl _)]
      rw [e]; exact ⟨Nat.le_refl _, Nat.le_refl _, h4, h5⟩
theorem lookM_some {k : Bs} {v : V} : ∀ {m : List Mem}, lookM m k = some v → ∃ i : Nat, m[i]? = some (k, v)
  | x :: r, h => by
    simp only [lookM] at h
    split at h
    · rename_i hk
      obtain ⟨a, b⟩ := x
      simp only [Option.some.injEq] at h hk
      exact ⟨0, by simp [h, hk]⟩
    · obtain ⟨i, hi⟩ := lookM_some h
      exact ⟨i + 1, by simpa using hi⟩
theorem lookM_none {k : Bs} : ∀ {m : List Mem}, lookM m k = none → ∀ (i : Nat) (x : Mem), m[i]? = some x → x.1 ≠ k
  | [], _, i, x, h => by simp at h
  | y :: r, h, i, x, hx => by
    simp only [lookM] at h
    split at h
    · simp at h
    · rename_i hk
      cases i with
      | zero => simp at hx; rw [← hx]; exact hk
      | succ i => exact lookM_none h i x (by simpa using hx)
theorem rises_inj {m : List Mem} (h : Rises m) {i j : Nat} {x y : Mem} (hi : m[i]? = some x) (hj : m[j]? = some y) (hk : x.1 = y.1) : i = j := by
  have li := lt_of_get hi
  have lj := lt_of_get hj
  rcases Nat.lt_trichotomy i j with h1 | h1 | h1
  · have := rises_get h h1 lj
    rw [keyAt_of hi, keyAt_of hj, hk, bl_irrefl] at this; simp at this
  · exact h1
  · have := rises_get h h1 li
    rw [keyAt_of hi, keyAt_of hj, hk, bl_irrefl] at this; simp at this
/-- Get, where keys rise: the member of that key. -/
theorem getV_rises {v : V} (k : Bs) (h5 : v.kind = 5) (hr : Rises v.m) : getV v k = match lookM v.m k with | some x => (x, true) | none => (V.zero, false) := by
  obtain ⟨g1, g2, g3, g4⟩ := bsF_spec (k := k) hr v.m.length 0 v.m.length (by omega) (by omega) (Nat.le_refl _) (fun t ht => by omega) (fun t h1 h2 => by omega)
  unfold getV placeV
  rw [if_pos h5]
  simp only
  generalize bsF v.m k 0 v.m.length = i at g1 g2 g3 g4
  cases hl : lookM v.m k with
  | some x =>
    obtain ⟨j, hj⟩ := lookM_some hl
    have lj := lt_of_get hj
    have hji : j = i := by
      rcases Nat.lt_trichotomy j i with h1 | h1 | h1
      · have := g3 j h1
        rw [keyAt_of hj, bl_irrefl] at this; simp at this
      · exact h1
      · have h2 := rises_get hr h1 lj
        rw [keyAt_of hj] at h2
        have h3 := g4 i (Nat.le_refl _) (by omega)
        rw [h2] at h3; simp at h3
    subst hji
    have hk : keyAt v.m j = k := keyAt_of hj
    simp only [lj, decide_true, Bool.true_and, hk, beq_self_eq_true, hj]
  | none =>
    by_cases hi : i < v.m.length
    · obtain ⟨x, hx⟩ := get_lt hi
      have hne : (keyAt v.m i == k) = false := by
        rw [beq_eq_false_iff_ne, keyAt_of hx]; exact lookM_none hl i x hx
      simp only [hne, Bool.and_false]
    · simp only [hi, decide_false, Bool.false_and]
theorem getV_other {v : V} (k : Bs) (h5 : v.kind ≠ 5) : getV v k = (V.zero, false) := by
  unfold getV placeV
  rw [if_neg h5]
/-- Keys of a good map rise. -/
theorem fineM_rises : ∀ (m : List Mem) (p : Option Bs), fineM p m = true → Rises m ∧ ∀ q, p = some q → ∀ x ∈ m, bytesLess q x.1 = true
  | [], p, _ => ⟨List.Pairwise.nil, fun q _ x hx => by simp at hx⟩
  | (k, v) :: r, p, h => by
    rw [fineM_cons] at h
    simp only [Bool.and_eq_true] at h
    obtain ⟨h1, h2, h3, h4⟩ := h
    obtain ⟨i1, i2⟩ := fineM_rises r (some k) h4
    refine ⟨List.Pairwise.cons (fun x hx => i2 k rfl x hx) i1, fun q hq x hx => ?_⟩
    subst hq
    rcases List.mem_cons.1 hx with rfl | hx
    · exact h2
    · exact bl_trans h2 (i2 k rfl x hx)
theorem fine_rises {v : V} (h5 : v.kind = 5) (h : v.fine = true) : Rises v.m := by
  rw [V.fine_eq, h5] at h
  simp at h
  exact (fineM_rises v.m none h.2).1
theorem fineM_mem : ∀ {m : List Mem} {p : Option Bs}, fineM p m = true → ∀ x ∈ m, x.2.fine = true ∧ vu x.1 = true
  | (k, v) :: r, p, h, x, hx => by
    rw [fineM_cons] at h
    simp only [Bool.and_eq_true] at h
    obtain ⟨h1, h2, h3, h4⟩ := h
    rcases List.mem_cons.1 hx with rfl | hx
    · exact ⟨h3, h1⟩
    · exact fineM_mem h4 x hx
end Go.Ab
/- Lists of texts held against each other; what RulesAllows makes. -/
namespace Go.Ab
set_option linter.unusedSimpArgs false
set_option maxHeartbeats 1000000
set_option maxRecDepth 100000
theorem idx_str {l : List Bs} {j : Nat} {s : Bs} {c : Option Nat} (h : l[j]? = some s) : idxOf 1 none (.vsl (l.map AV.str) c) (.int .i64 (j : Int)) = some (.vptr [.str s] 0) := idx_map (f := AV.str) h rfl
theorem neLen {a b : Nat} : ((a : Int) != (b : Int)) = !(decide (a = b)) := by
  by_cases h : a = b
  · simp [h]
  · have : (a : Int) ≠ (b : Int) := by omega
    simp [h, this]
theorem r_Texts (l m : List Bs) (hb : l.length < big) : cR 10 [.vsl (l.map .str) none, .vsl (m.map .str) none] = some (.bool (l == m)) := by
  unfold big at hb
  refine cR_of (F := F10) rfl ?_
  by_cases hl : l.length = m.length
  · have hd : (!decide (l.length = m.length)) = false := by simp [hl]
    simp only [F10_0, F10_1, F10_2, F10_3, F10_4, F10_5, F10_6, F10_7, F10_8, F10_9, F10_10, F10_11, F10_12, F10_13, F10_14, F10_15, F10_16, F10_17, F10_18, F10_19, F10_20, F10_21, F10_22, F10_24, F10_25, F10_26, F10_27, F10_28, F10_29, F10_30, F10_31, F10_32, F10_33, F10_34, F10_35, F10, ex_loop, EX0, EX1, EX2, EX3, EX4, EX5, if_true, if_false, implies_true, forall_const, ne_eq, Nat.reduceEqDiff, reduceIte, reduceCtorEq, Nat.reduceAdd, Nat.reduceLeDiff, Nat.reduceSub, Nat.reduceMul, Int.reduceEq, Int.reduceBEq, Int.reduceBNe, Int.reduceLT, Int.reduceLE, Nat.reduceLT, VX, neLen, hd]
    refine ex_while (S := Nat) (fun j => [(0, .vsl (l.map .str) none), (1, .vsl (m.map .str) none), (5, .int .i64 (j : Int))]) (fun _ => .empty) (fun j => l.length - j) (fun j => (l.drop j == m.drop j) = (l == m)) ?_ 0 rfl
    intro b j hj ih
    by_cases hlt : j < l.length
    · obtain ⟨x, hx⟩ := get_lt hlt
      obtain ⟨y, hy⟩ := get_lt (l := m) (j := j) (by omega)
      have i1 := idx_str (c := none) hx
      have i2 := idx_str (c := none) hy
      have hcond := dlt hlt
      rw [drop_cons hx, drop_cons hy] at hj
      by_cases hxy : x = y
      · subst hxy
        have hxx : (!(x == x)) = false := by simp
        simp only [F10_0, F10_1, F10_2, F10_3, F10_4, F10_5, F10_6, F10_7, F10_8, F10_9, F10_10, F10_11, F10_12, F10_13, F10_14, F10_15, F10_16, F10_17, F10_18, F10_19, F10_20, F10_21, F10_22, F10_23, F10_24, F10_25, F10_26, F10_27, F10_28, F10_29, F10_30, F10_31, F10_32, F10_33, F10_34, F10_35, F10, EX0, EX1, EX2, EX3, EX4, EX5, if_true, if_false, implies_true, forall_const, ne_eq, Nat.reduceEqDiff, reduceIte, reduceCtorEq, Nat.reduceAdd, Nat.reduceLeDiff, Nat.reduceSub, Nat.reduceMul, Int.reduceEq, Int.reduceBEq, Int.reduceBNe, Int.reduceLT, Int.reduceLE, Nat.reduceLT, VX, hcond, i1, i2, hxx]
        refine ih (j + 1) _ _ (by omega) ?_ ?_ rfl
        · rw [← hj]; simp
        · rw [wsucc hlt (by omega)]; simp only [EX0, EX1, EX2, EX3, EX4, EX5, if_true, if_false, implies_true, forall_const, ne_eq, Nat.reduceEqDiff, reduceIte, reduceCtorEq, Nat.reduceAdd, Nat.reduceLeDiff, Nat.reduceSub, Nat.reduceMul, Int.reduceEq, Int.reduceBEq, Int.reduceBNe, Int.reduceLT, Int.reduceLE, Nat.reduceLT]
      · have hxx : (!(x == y)) = true := by simp [hxy]
        have hb : (l == m) = false := by rw [← hj]; simp [hxy]
        simp only [F10_0, F10_1, F10_2, F10_3, F10_4, F10_5, F10_6, F10_7, F10_8, F10_9, F10_10, F10_11, F10_12, F10_13, F10_14, F10_15, F10_16, F10_17, F10_18, F10_19, F10_20, F10_21, F10_22, F10_23, F10_24, F10_25, F10_26, F10_27, F10_28, F10_29, F10_30, F10_31, F10_32, F10_33, F10_34, F10_35, F10, EX0, EX1, EX2, EX3, EX4, EX5, if_true, if_false, implies_true, forall_const, ne_eq, Nat.reduceEqDiff, reduceIte, reduceCtorEq, Nat.reduceAdd, Nat.reduceLeDiff, Nat.reduceSub, Nat.reduceMul, Int.reduceEq, Int.reduceBEq, Int.reduceBNe, Int.reduceLT, Int.reduceLE, Nat.reduceLT, VX, hcond, i1, i2, hxx, hb]
    · have hcond := dge (Nat.not_lt.1 hlt)
      have hb : (l == m) = true := by
        rw [← hj, List.drop_eq_nil_of_le (by omega), List.drop_eq_nil_of_le (by omega)]; rfl
      simp only [F10_0, F10_1, F10_2, F10_3, F10_4, F10_5, F10_6, F10_7, F10_8, F10_9, F10_10, F10_11, F10_12, F10_13, F10_14, F10_15, F10_16, F10_17, F10_18, F10_19, F10_20, F10_21, F10_22, F10_23, F10_24, F10_25, F10_26, F10_27, F10_28, F10_29, F10_30, F10_31, F10_32, F10_33, F10_34, F10_35, F10, EX0, EX1, EX2, EX3, EX4, EX5, if_true, if_false, implies_true, forall_const, ne_eq, Nat.reduceEqDiff, reduceIte, reduceCtorEq, Nat.reduceAdd, Nat.reduceLeDiff, Nat.reduceSub, Nat.reduceMul, Int.reduceEq, Int.reduceBEq, Int.reduceBNe, Int.reduceLT, Int.reduceLE, Nat.reduceLT, VX, hcond, hb]
  · have hd : (!decide (l.length = m.length)) = true := by simp [hl]
    have hb : (l == m) = false := by
      rw [beq_eq_false_iff_ne]; rintro rfl; exact hl rfl
    simp only [F10_0, F10_1, F10_2, F10_3, F10_4, F10_5, F10_6, F10_7, F10_8, F10_9, F10_10, F10_11, F10_12, F10_13, F10_14, F10_15, F10_16, F10_17, F10_18, F10_19, F10_20, F10_21, F10_22, F10_24, F10_25, F10_26, F10_27, F10_28, F10_29, F10_30, F10_31, F10_32, F10_33, F10_34, F10_35, F10, EX0, EX1, EX2, EX3, EX4, EX5, if_true, if_false, implies_true, forall_const, ne_eq, Nat.reduceEqDiff, reduceIte, reduceCtorEq, Nat.reduceAdd, Nat.reduceLeDiff, Nat.reduceSub, Nat.reduceMul, Int.reduceEq, Int.reduceBEq, Int.reduceBNe, Int.reduceLT, Int.reduceLE, Nat.reduceLT, VX, neLen, hd, hb]
theorem r_awake18 : cR 17 [] = some (.bool true) := cR_closed 5000 (by kernel_rfl)

def roomB (k : Nat) : Bs := [33, UInt8.ofNat (97 + k), 58, 120, 46, 111, 114, 103]
def tV (s : Bs) : V := V.mk 3 0 s [] []
def iV (n : Int) : V := V.mk 2 n [] [] []
abbrev kVia : Bs := [118, 105, 97]
def e1V (r : Bs) : V := mapOf [(kType, tV kMRM), (kRoomId, tV r), (kVia, iV 1)]
def e2V (q : Nat) (r : Bs) : V := match q with | 0 => iV 1 | 1 => mapOf [] | 2 => tV r | _ => mapOf [(kRoomId, tV [33, 113, 58, 120])]
theorem room_e1 : ∀ k, k < 8 → (e1V (roomB k)).fine = true ∧ (e1V (roomB k)).dep = 1 ∧ (e1V (roomB k)).sz ≤ 100 ∧ lookM (e1V (roomB k)).m kType = some (tV kMRM) ∧ lookM (e1V (roomB k)).m kRoomId = some (tV (roomB k)) ∧ (e1V (roomB k)).kind = 5 ∧ (partsB (roomB k) 33).2.2 = true := by
  intro k hk
  match k, hk with
  | 0, _ | 1, _ | 2, _ | 3, _ | 4, _ | 5, _ | 6, _ | 7, _ => exact ⟨by decide +kernel, by decide +kernel, by decide +kernel, rfl, rfl, rfl, by decide +kernel⟩
theorem textAt_rises {v : V} {k : Bs} (h5 : v.kind = 5) (hr : Rises v.m) : textAt v k = match lookM v.m k with | some x => if x.kind = 3 then (x.s, true) else ([], false) | none => ([], false) := by
  unfold textAt
  rw [getV_rises k h5 hr]
  cases lookM v.m k with
  | none => rfl
  | some x =>
    simp only [Bool.true_and]
    by_cases h3 : x.kind = 3
    · simp [h3]
    · simp [h3]
theorem textAt_other {v : V} {k : Bs} (h5 : v.kind ≠ 5) : textAt v k = ([], false) := by
  unfold textAt
  rw [getV_other k h5]
  rfl
theorem roomV_e1 {k : Nat} (hk : k < 8) : roomV (e1V (roomB k)) = (roomB k, true) := by
  obtain ⟨h1, h2, h3, h4, h5, h6, h7⟩ := room_e1 k hk
  have hr := fine_rises h6 h1
  unfold roomV
  rw [textAt_rises h6 hr, textAt_rises h6 hr, h4, h5]
  simp only [tV, V.kind, V.s, if_true]
  rw [if_pos ⟨trivial, h7⟩]
theorem e2_facts : ∀ q, q < 4 → ∀ k, k < 8 → (e2V q (roomB k)).fine = true ∧ (e2V q (roomB k)).dep ≤ 1 ∧ (e2V q (roomB k)).sz ≤ 100 ∧ ((e2V q (roomB k)).kind = 5 → lookM (e2V q (roomB k)).m kType = none) := by
  intro q hq k hk
  match q, hq with
  | 0, _ | 1, _ | 2, _ | 3, _ =>
    match k, hk with
    | 0, _ | 1, _ | 2, _ | 3, _ | 4, _ | 5, _ | 6, _ | 7, _ => exact ⟨by decide +kernel, by decide +kernel, by decide +kernel, fun h => by first | rfl | exact absurd h (by decide)⟩
theorem roomV_e2 {q k : Nat} (hq : q < 4) (hk : k < 8) : roomV (e2V q (roomB k)) = ([], false) := by
  obtain ⟨h1, h2, h3, h4⟩ := e2_facts q hq k hk
  unfold roomV
  have : (textAt (e2V q (roomB k)) kType).1 = [] := by
    by_cases h5 : (e2V q (roomB k)).kind = 5
    · rw [textAt_rises h5 (fine_rises h5 h1), h4 h5]
    · rw [textAt_other h5]
  rw [this, if_neg]
  rintro ⟨h, _⟩
  simp at h
theorem allowsL_append : ∀ (l m : List V) (acc : List Bs), allowsL acc (l ++ m) = allowsL (allowsL acc l) m
  | [], m, acc => rfl
  | x :: l, m, acc => by
    simp only [List.cons_append, allowsL]
    split <;> exact allowsL_append l m _
theorem allowsL_e1 {k : Nat} (hk : k < 8) (acc : List Bs) : allowsL acc [e1V (roomB k)] = if hasS acc (roomB k) = true then acc else acc ++ [roomB k] := by
  simp only [allowsL, roomV_e1 hk]
  cases hasS acc (roomB k) <;> simp
theorem allowsL_e2 {q k : Nat} (hq : q < 4) (hk : k < 8) (acc : List Bs) : allowsL acc [e2V q (roomB k)] = acc := by
  simp only [allowsL, roomV_e2 hq hk]
  simp
/-- The content of a rule. -/
def cV (l : List V) : V := mapOf [(kAllow, V.mk 4 0 [] l []), (kJoinRule, tV [114, 101, 115, 116, 114, 105, 99, 116, 101, 100])]
theorem cV_eq (l : List V) : cV l = V.mk 5 0 [] [] [(kAllow, V.mk 4 0 [] l []), (kJoinRule, tV [114, 101, 115, 116, 114, 105, 99, 116, 101, 100])] := rfl
theorem depL_le1 : ∀ {l : List V}, (∀ e ∈ l, e.dep ≤ 1) → depL l ≤ 1
  | [], _ => by simp [depL]
  | v :: r, h => by
    have := h v (by simp)
    have := depL_le1 (fun e he => h e (by simp [he]) : ∀ e ∈ r, e.dep ≤ 1)
    simp only [depL]; omega
theorem fineL_of : ∀ {l : List V}, (∀ e ∈ l, e.fine = true) → fineL l = true
  | [], _ => by simp [fineL]
  | v :: r, h => by
    rw [fineL, h v (by simp), fineL_of (fun e he => h e (by simp [he]))]; rfl
theorem cV_good {l : List V} (h1 : ∀ e ∈ l, e.fine = true) (h2 : ∀ e ∈ l, e.dep ≤ 1) : (cV l).good = true := by
  have hf := fineL_of h1
  have hd := depL_le1 h2
  have e1 : (V.mk 4 0 [] l []).fine = true := by rw [V.fine]; simp [hf, V.bare, V.n, V.s, V.l, V.m]
  have e2 : (tV [114, 101, 115, 116, 114, 105, 99, 116, 101, 100]).fine = true := by decide +kernel
  have e3 : vu kAllow = true := by decide +kernel
  have e4 : vu kJoinRule = true := by decide +kernel
  have e5 : bytesLess kAllow kJoinRule = true := by decide
  have hfine : (cV l).fine = true := by
    rw [cV_eq, V.fine]
    simp only [fineM_cons, e1, e2, e3, e4, okP, e5]
    simp [V.bare, V.n, V.s, V.l, V.m, fineM]
  have hdep : (cV l).dep ≤ 50 := by
    rw [cV_eq, V.dep]
    simp [depM, V.dep, tV]
    omega
  unfold V.good
  simp [hfine, hdep]
theorem cV_allows {l : List V} (h1 : ∀ e ∈ l, e.fine = true) (h2 : ∀ e ∈ l, e.dep ≤ 1) : allowsV (cV l) = allowsL [] l ∧ ruleV (cV l) = [114, 101, 115, 116, 114, 105, 99, 116, 101, 100] := by
  have hg := cV_good h1 h2
  have hk : (cV l).kind = 5 := rfl
  have hs : said (cV l) = cV l := by unfold said; rw [hg, hk]; rfl
  have hf : (cV l).fine = true := by unfold V.good at hg; simp at hg; exact hg.1
  have hr := fine_rises hk hf
  have hl1 : lookM (cV l).m kAllow = some (V.mk 4 0 [] l []) := rfl
  have hl2 : lookM (cV l).m kJoinRule = some (tV [114, 101, 115, 116, 114, 105, 99, 116, 101, 100]) := rfl
  constructor
  · unfold allowsV itemsV
    rw [hs, getV_rises kAllow hk hr, hl1]
    rfl
  · unfold ruleV
    rw [hs, textAt_rises hk hr, hl2]
    rfl
end Go.Ab
/- RulesAllows: true. -/
namespace Go.Ab
set_option linter.unusedSimpArgs false
set_option maxHeartbeats 1000000
set_option maxRecDepth 100000
/-- A slice that may be read as a list. -/
def Rd {α : Type} (L : Lay α) (σ : Store) (v : AV) (l : List α) : Prop :=
  (v = .nils ∧ l = []) ∨ (∃ b, v = .sl b 0 l.length L.sz none ∧ σ.cells b = some (L.cells l) ∧ b < σ.next) ∨ v = .vsl (l.map L.f) (some l.length)
section
variable {α : Type} {L : Lay α} {σ : Store} {v : AV} {l : List α}
theorem Gr.rd (h : Gr L σ v l) : Rd L σ v l := by
  rcases h with h | ⟨b, rfl, h⟩ | h
  · exact .inl h
  · exact .inr (.inl ⟨b, rfl, by have := h.1; simp [Store.cells, this], h.lt⟩)
  · exact .inr (.inr h)
theorem freeze_cells (σ : Store) (b : Nat) : σ.freeze.cells b = σ.cells b := by
  have e : σ.freeze.get b = (σ.get b).map fun x => match x with | .own cs => .frz cs | x => x := by
    unfold Store.freeze Store.get
    simp only
    induction σ.m with
    | nil => rfl
    | cons p l ih =>
      obtain ⟨i, x⟩ := p
      simp only [List.map_cons, look]
      by_cases h : i = b
      · rw [if_pos h, if_pos h]; rfl
      · rw [if_neg h, if_neg h]; exact ih
  unfold Store.cells
  rw [e]
  cases σ.get b with
  | none => rfl
  | some x => cases x <;> rfl
theorem Rd.freeze (h : Rd L σ v l) : Rd L σ.freeze v l := by
  rcases h with h | ⟨b, rfl, h, h2⟩ | h
  · exact .inl h
  · exact .inr (.inl ⟨b, rfl, by rw [freeze_cells]; exact h, h2⟩)
  · exact .inr (.inr h)
theorem Rd.newset (h : Rd L σ v l) (cs cs' : List AV) : Rd L { next := σ.next + 1, m := (σ.next, .own cs) :: (σ.next, .own cs') :: σ.m } v l := by
  rcases h with h | ⟨b, rfl, h, h2⟩ | h
  · exact .inl h
  · refine .inr (.inl ⟨b, rfl, ?_, by simp; omega⟩)
    have : Store.get { next := σ.next + 1, m := (σ.next, .own cs) :: (σ.next, .own cs') :: σ.m } b = σ.get b := by
      show look ((σ.next, Blk.own cs) :: (σ.next, .own cs') :: σ.m) b = look σ.m b
      simp only [look]; rw [if_neg (by omega), if_neg (by omega)]
    unfold Store.cells at h ⊢
    rw [this]; exact h
  · exact .inr (.inr h)
theorem Rd.rb (h : Rd L σ v l) : ∃ v', Go.Ab.rb σ rbDepth v = some v' ∧ v'.er = .vsl (l.map L.f) none := by
  rcases h with ⟨rfl, rfl⟩ | ⟨b, rfl, h, _⟩ | rfl
  · exact ⟨_, rfl, by simp only [AV.er]; rfl⟩
  · refine ⟨_, rb_sl (d := 23) h (L.cells_len l) L.pos (L.cells_closed l) (one_notAgg (L.cells_one l)), ?_⟩
    rw [L.chunks]; simp only [AV.er, L.erMap]
  · refine ⟨_, rb_closed' (by simp only [AV.closed]; exact closedL_map fun a _ => L.closed a), ?_⟩
    simp only [AV.er, L.erMap]
/-- A call of one slice of one's own, whose answer bears memory. -/
theorem Rd.callF {f : Nat} {r : AV} (h : Rd L σ v l) (hv : v.closed = false) (hc : cR f [.vsl (l.map L.f) none] = some r) (hr : r.flat = false) :
    callP ipU gU false (.fn f [] []) [v] σ = some (r, σ.freeze) := by
  obtain ⟨v', h1, h2⟩ := h.rb
  unfold callP
  rw [rb_closed' rfl]
  simp only [mapO, h1, Option.bind_some, erL, h2, AV.er]
  have : callR ipU gU (.fn f [] []) [.vsl (l.map L.f) none] = some r := hc
  simp only [this, Option.bind_some, hr, closedL, hv, Bool.and_false, Bool.false_and, Bool.or_self, Bool.false_eq_true, if_false]
/-- A call of a closed value and a slice of one's own. -/
theorem Rd.call2 {st : Bool} {f : Nat} {x r : AV} (h : Rd L σ v l) (hx : x.closed = true) (hc : cR f [x.er, .vsl (l.map L.f) none] = some r) (hr : r.flat = true) :
    callP ipU gU st (.fn f [] []) [x, v] σ = some (r, σ) := by
  obtain ⟨v', h1, h2⟩ := h.rb
  refine callP_flat (args' := [x, v']) rfl ?_ ?_ hr
  · simp only [mapO, h1, rb_closed' hx]
  · simp only [erL, h2, AV.er]; exact hc
/-- No block is both's. -/
def Dis (v w : AV) : Prop := ∀ b o len sz c o' len' sz' c', v = .sl b o len sz c → w ≠ .sl b o' len' sz' c'
theorem Gr.other {β : Type} {M : Lay β} {w : AV} {k : List β} {m : List α} (hw : Gr M σ w k) (hv : Gr L σ v l) (hd : Dis v w) : Gr M (grNext L σ v l m) w k := by
  rcases hw with h | ⟨b, rfl, h⟩ | h
  · exact .inl h
  · refine .inr (.inl ⟨b, rfl, h.frame ?_ (by rw [grNext_next]; omega)⟩)
    exact grNext_get hv h.lt (fun len sz c he => hd _ _ _ _ _ _ _ _ _ he rfl)
  · exact .inr (.inr h)
theorem Gr.dis_next {β : Type} {M : Lay β} {w : AV} {k : List β} (hw : Gr M σ w k) (o len sz : Nat) (c : Option Nat) : Dis (.sl σ.next o len sz c) w := by
  intro b o1 len1 sz1 c1 o' len' sz' c' h1 h2
  simp only [AV.sl.injEq] at h1
  rcases hw with ⟨rfl, _⟩ | ⟨b2, rfl, h⟩ | rfl
  · simp at h2
  · simp only [AV.sl.injEq] at h2
    have := h.lt
    omega
  · simp at h2
theorem Dis.symm {v w : AV} (h : Dis v w) : Dis w v := fun _ _ _ _ _ _ _ _ _ h1 h2 => h _ _ _ _ _ _ _ _ _ h2 h1
theorem Gr.closed_or (h : Gr L σ v l) : v.closed = true ∨ v.closed = false := by cases v.closed <;> simp
end
/-- A text of such a slice, by its number. -/
theorem Gr.idxS {σ : Store} {v : AV} {l : List Bs} (h : Gr LStr σ v l) {j : Nat} {s : Bs} (hj : l[j]? = some s) : ∃ p, idxOf 1 none v (.int .i64 (j : Int)) = some p ∧ readPtr σ p none = some (.str s) := by
  have hlt := lt_of_get hj
  have hc : ∀ m : List Bs, LStr.cells m = m.map AV.str := by
    intro m; simp only [Lay.cells, LStr, AV.cells]; induction m with
    | nil => rfl
    | cons a m ih => simp [ih]
  rcases h with ⟨rfl, rfl⟩ | ⟨b, rfl, h⟩ | rfl
  · simp at hj
  · refine ⟨.ptr b j, ?_, ?_⟩
    · simp [idxOf, LStr, hlt]
    · have := h.1
      simp only [readPtr, Store.cells, this, readAt, hc, List.getElem?_map, hj, Option.map_some]
  · refine ⟨.vptr [.str s] 0, idx_map (f := AV.str) hj rfl, rfl⟩
/-- A call of one slice, whose answer bears memory: the store behind it may be read as before. -/
theorem c_List {σ : Store} {v : AV} {l : List V} (h : Gr LV σ v l) (hb : l.length < lim) : ∃ σ', callP ipU gU false (.fn 21 [] []) [v] σ = some ((V.mk 4 0 [] l []).enc, σ') ∧ (σ' = σ ∨ σ' = σ.freeze) := by
  have hr := r_List l hb
  rcases h.closed_or with hc | hc
  · obtain ⟨v', h1, h2⟩ := h.rd.rb
    rw [rb_closed' hc] at h1
    simp only [Option.some.injEq] at h1
    subst h1
    refine ⟨σ, ?_, .inl rfl⟩
    rw [callP_closed rfl (by simp [closedL, hc])]
    simp only [erL, h2, AV.er]
    have : callR ipU gU (.fn 21 [] []) [.vsl (l.map LV.f) none] = _ := hr
    simp only [this, Option.map_some]
  · by_cases hfl : ((V.mk 4 0 [] l []).enc).flat = true
    · refine ⟨σ, ?_, .inl rfl⟩
      obtain ⟨v', h1, h2⟩ := h.rd.rb
      refine callP_flat (args' := [v']) rfl ?_ ?_ hfl
      · simp only [mapO, h1]
      · simp only [erL, h2, AV.er]; exact hr
    · exact ⟨σ.freeze, h.rd.callF hc hr (by simpa using hfl), .inr rfl⟩
end Go.Ab
