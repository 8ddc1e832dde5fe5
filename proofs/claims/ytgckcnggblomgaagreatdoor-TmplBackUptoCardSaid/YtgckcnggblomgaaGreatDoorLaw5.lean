/- What functions of the program, and of the library, answer. Conditions: none. -/
import Derived.Test.YtgckcnggblomgaaGreatDoorLaw4
import Derived.Test.YtgckcnggblomgaaGreatDoorEx
set_option linter.unusedVariables false
set_option linter.unusedSimpArgs false
set_option linter.defProp false
/- Slices of one's own, by the plain lists that they hold. -/
namespace Go.Ab
set_option maxHeartbeats 1000000
/-- How a plain thing lies in a row. -/
structure Lay (α : Type) where
  f : α → AV
  sz : Nat
  pos : 0 < sz
  len : ∀ a, (f a).cells.length = sz
  closed : ∀ a, (f a).closed = true
  er : ∀ a, (f a).er = f a
  one : ∀ a, (f a).cells.all AV.one = true
  agg : ∀ a, if sz = 1 then (f a).cells = [f a] else ∃ cs, f a = .agg cs
def Lay.cells {α : Type} (L : Lay α) (l : List α) : List AV := l.flatMap fun a => (L.f a).cells
theorem Lay.cells_len {α : Type} (L : Lay α) (l : List α) : (L.cells l).length = l.length * L.sz := by
  unfold Lay.cells
  induction l with
  | nil => simp
  | cons a l ih => simp [L.len a, ih, Nat.add_mul]; omega
theorem Lay.cells_closed {α : Type} (L : Lay α) (l : List α) : closedL (L.cells l) = true := by
  unfold Lay.cells
  induction l with
  | nil => rfl
  | cons a l ih =>
    rw [List.flatMap_cons]
    have h : ∀ x y : List AV, closedL x = true → closedL y = true → closedL (x ++ y) = true := by
      intro x y
      induction x with
      | nil => intro _ h; exact h
      | cons c x ihx => intro h1 h2; simp only [closedL, Bool.and_eq_true, List.cons_append] at h1 ⊢; exact ⟨h1.1, ihx h1.2 h2⟩
    refine h _ _ ?_ ih
    have := L.closed a
    cases hf : L.f a <;> simp_all [AV.cells, AV.closed, closedL]
theorem Lay.cells_one {α : Type} (L : Lay α) (l : List α) : (L.cells l).all AV.one = true := by
  unfold Lay.cells
  induction l with
  | nil => rfl
  | cons a l ih => simp only [List.flatMap_cons, List.all_append, L.one a, ih, Bool.and_self]
theorem one_notAgg {l : List AV} (h : l.all AV.one = true) : l.all AV.notAgg = true := by
  rw [List.all_eq_true] at h ⊢
  intro x hx
  have := h x hx
  cases x <;> simp_all [AV.one, AV.notAgg]
theorem Lay.chunks {α : Type} (L : Lay α) (l : List α) : chunks L.sz l.length (L.cells l) = l.map L.f := by
  induction l with
  | nil => rfl
  | cons a l ih =>
    have e : L.cells (a :: l) = (L.f a).cells ++ L.cells l := by simp [Lay.cells]
    simp only [List.length_cons, Go.Ab.chunks, e]
    have hd : ((L.f a).cells ++ L.cells l).drop L.sz = L.cells l := by
      rw [List.drop_append_of_le_length (by rw [L.len]; exact Nat.le_refl _), List.drop_eq_nil_of_le (by rw [L.len]; exact Nat.le_refl _), List.nil_append]
    rw [hd, ih, List.map_cons]
    congr 1
    have ha := L.agg a
    by_cases h1 : L.sz = 1
    · rw [if_pos h1] at ha ⊢
      rw [ha]; rfl
    · rw [if_neg h1] at ha ⊢
      obtain ⟨cs, hcs⟩ := ha
      have hl := L.len a
      rw [hcs] at hl ⊢
      simp only [AV.cells] at hl ⊢
      rw [List.take_append_of_le_length (by omega), List.take_of_length_le (by omega)]
/-- A slice of one's own holds a list. -/
def Own {α : Type} (L : Lay α) (σ : Store) (ob : Option Nat) (l : List α) : Prop := OwnSl σ L.sz ob l.length (L.cells l)
theorem Own.nil {α : Type} (L : Lay α) (σ : Store) : Own L σ none [] := ⟨rfl, rfl⟩
theorem Lay.erMap {α : Type} (L : Lay α) (l : List α) : erL (l.map L.f) = l.map L.f := erL_mapId fun a _ => L.er a
theorem Own.rb {α : Type} {L : Lay α} {σ : Store} {ob : Option Nat} {l : List α} (h : Own L σ ob l) : ∃ v, rb σ rbDepth (slOf L.sz ob l.length) = some v ∧ v.er = .vsl (l.map L.f) none := by
  have := rb_own h L.pos (L.cells_closed l) (one_notAgg (L.cells_one l))
  refine ⟨_, this, ?_⟩
  by_cases h0 : l.length = 0
  · rw [if_pos h0, List.eq_nil_of_length_eq_zero h0]; simp only [AV.er]; rfl
  · rw [if_neg h0, L.chunks]; simp only [AV.er, L.erMap]
theorem Own.rbE {α : Type} {L : Lay α} {σ : Store} {ob : Option Nat} {l : List α} (h : Own L σ ob l) : rbE σ (slOf L.sz ob l.length) = some (.vsl (l.map L.f) none) := by
  obtain ⟨v, h1, h2⟩ := h.rb
  unfold Go.Ab.rbE
  rw [h1, Option.map_some, h2]
theorem Own.lenL {α : Type} {L : Lay α} {σ : Store} {ob : Option Nat} {l : List α} (h : Own L σ ob l) : lenL (slOf L.sz ob l.length) = some (.int .i64 l.length) := lenL_slOf h
theorem Own.append {α : Type} {L : Lay α} {σ : Store} {ob : Option Nat} {l m : List α} {bytes : Nat} (h : Own L σ ob l) (hb : 0 < bytes) (hm : (l.length + m.length) * bytes ≤ maxBytes) (hk : 0 < m.length) :
    ∃ σ', appendTo σ L.sz bytes (slOf L.sz ob l.length) (L.cells m) m.length = some (slOf L.sz (some σ.next) (l ++ m).length, σ') ∧ Own L σ' (some σ.next) (l ++ m) ∧ σ'.next = σ.next + 1 ∧
      ∀ b', b' < σ.next → ob ≠ some b' → σ'.get b' = σ.get b' := by
  obtain ⟨σ', h1, h2, h3, h4⟩ := append_own h L.pos hb hm (L.cells_len m) (L.cells_one m) hk
  refine ⟨σ', by rw [h1, List.length_append], ?_, h3, h4⟩
  unfold Own
  rw [List.length_append]
  have : L.cells (l ++ m) = L.cells l ++ L.cells m := by simp [Lay.cells]
  rw [this]
  exact h2
/-- One more, as a walk meets it. -/
theorem Own.push {α : Type} {L : Lay α} {σ : Store} {ob : Option Nat} {l : List α} {a : α} {bytes : Nat} (h : Own L σ ob l) (hb : 0 < bytes) (hm : (l.length + 1) * bytes ≤ maxBytes) :
    ∃ σ', appendTo σ L.sz bytes (slOf L.sz ob l.length) (L.f a).cells 1 = some (slOf L.sz (some σ.next) (l ++ [a]).length, σ') ∧ Own L σ' (some σ.next) (l ++ [a]) ∧ σ'.next = σ.next + 1 ∧
      ∀ b', b' < σ.next → ob ≠ some b' → σ'.get b' = σ.get b' := by
  have := Own.append (m := [a]) h hb (by simpa using hm) (by simp)
  simpa [Lay.cells] using this
/-- What happens to other blocks. -/
theorem Own.frame {α : Type} {L : Lay α} {σ σ' : Store} {b : Nat} {l : List α} (h : Own L σ (some b) l) (hg : σ'.get b = σ.get b) (hn : σ.next ≤ σ'.next) : Own L σ' (some b) l := by
  obtain ⟨h1, h2, h3, h4⟩ := h
  exact ⟨hg.trans h1, h2, by omega, h4⟩
theorem Own.alloc {α : Type} {L : Lay α} {σ : Store} {ob : Option Nat} {l : List α} (h : Own L σ ob l) (cs : List AV) : Own L (σ.alloc cs) ob l := by
  cases ob with
  | none => exact h
  | some b => exact h.frame (get_alloc h.2.2.1) (by simp [next_alloc])
theorem Own.set {α : Type} {L : Lay α} {σ : Store} {ob : Option Nat} {l : List α} {b : Nat} {x : Blk} (h : Own L σ ob l) (hb : ob ≠ some b) : Own L (σ.set b x) ob l := by
  cases ob with
  | none => exact h
  | some b' => exact h.frame (get_set (by rintro rfl; exact hb rfl)) (Nat.le_refl _)
theorem Own.lt {α : Type} {L : Lay α} {σ : Store} {b : Nat} {l : List α} (h : Own L σ (some b) l) : b < σ.next := h.2.2.1
/-- A call whose arguments are closed but for one slice of one's own. -/
theorem Own.call1 {α : Type} {L : Lay α} {σ : Store} {ob : Option Nat} {l : List α} {st : Bool} {f : Nat} {args : List AV} {r : AV} (h : Own L σ ob l) (ha : closedL args = true) (hc : cR f (.vsl (l.map L.f) none :: erL args) = some r) (hr : r.flat = true) :
    callP ipU gU st (.fn f [] []) (slOf L.sz ob l.length :: args) σ = some (r, σ) := by
  obtain ⟨v, h1, h2⟩ := h.rb
  refine callP_flat (args' := v :: args) rfl ?_ ?_ hr
  · simp only [mapO, h1, mapO_closed' ha]
  · simp only [erL, h2, AV.er]; exact hc
def LStr : Lay Bs where
  f := .str
  sz := 1
  pos := by decide
  len _ := rfl
  closed _ := rfl
  er _ := by simp only [AV.er]
  one _ := rfl
  agg _ := rfl
def LSlt : Lay Slt where
  f := sltE
  sz := 2
  pos := by decide
  len _ := rfl
  closed _ := rfl
  er := sltE_er
  one _ := rfl
  agg a := ⟨_, rfl⟩
def LV : Lay V where
  f := V.enc
  sz := 5
  pos := by decide
  len v := by rw [V.enc_cells]; rfl
  closed := V.enc_closed
  er := V.enc_er
  one v := by rw [V.enc_cells]; rfl
  agg v := ⟨_, V.enc_eq v⟩
def LMem : Lay Mem where
  f := memE
  sz := 6
  pos := by decide
  len v := by rw [memE_cells]; rfl
  closed := memE_closed
  er := memE_er
  one v := by rw [memE_cells]; rfl
  agg v := ⟨_, rfl⟩
end Go.Ab
/- What contents say. -/
namespace Go.Ab
set_option maxHeartbeats 1000000
def T10Fc := @F29.eq_1
def T10Fd := @F30.eq_1
def T10Fh := @F67.eq_1
set_option maxRecDepth 100000
abbrev kThird : Bs := [116, 104, 105, 114, 100, 95, 112, 97, 114, 116, 121, 95, 105, 110, 118, 105, 116, 101]
abbrev kSigned : Bs := [115, 105, 103, 110, 101, 100]
abbrev kToken : Bs := [116, 111, 107, 101, 110]
abbrev kMxid : Bs := [109, 120, 105, 100]
abbrev kAuthd : Bs := [106, 111, 105, 110, 95, 97, 117, 116, 104, 111, 114, 105, 115, 101, 100, 95, 118, 105, 97, 95, 117, 115, 101, 114, 115, 95, 115, 101, 114, 118, 101, 114]
abbrev kMembership : Bs := [109, 101, 109, 98, 101, 114, 115, 104, 105, 112]
theorem V.zero_sz : V.zero.sz = 1 := rfl
theorem said_sz (v : V) : (said v).sz ≤ v.sz := by
  unfold said
  split
  · exact Nat.le_refl _
  · rw [V.zero_sz]; exact v.sz_pos
theorem getV_sz (v : V) (k : Bs) : (getV v k).1.sz ≤ v.sz := by
  unfold getV
  split
  · rename_i x _ hx
    have := szM_mem (List.mem_of_getElem? hx)
    have := v.sz_eq
    simp only; omega
  · simp only; rw [V.zero_sz]; exact v.sz_pos
theorem m_len_sz (v : V) : v.m.length ≤ v.sz := by have := v.sz_eq; have := szM_len v.m; omega
theorem l_len_sz (v : V) : v.l.length ≤ v.sz := by have := v.sz_eq; have := szL_len v.l; omega
theorem s_len_sz (v : V) : v.s.length ≤ v.sz := by have := v.sz_eq; omega
theorem textAt_len (v : V) (k : Bs) : (textAt v k).1.length ≤ v.sz := by
  unfold textAt
  split
  · have := s_len_sz (getV v k).1; have := getV_sz v k; simp only; omega
  · simp
theorem r_textAt (v : V) (k : Bs) (hb : v.sz < big) : cR 46 [v.enc, .str k] = some (.tup [.str (textAt v k).1, .bool (textAt v k).2]) := r_TextAt v k (by have := m_len_sz v; omega)
theorem r_get (v : V) (k : Bs) (hb : v.sz < big) : cR 63 [v.enc, .str k] = some (.tup [(getV v k).1.enc, .bool (getV v k).2]) := r_Get v k (by have := m_len_sz v; omega)
def tableV (v : V) (k : Bs) : V × Bool := if (getV v k).2 && (getV v k).1.kind == 5 then ((getV v k).1, true) else (V.zero, false)
theorem tableV_sz (v : V) (k : Bs) : (tableV v k).1.sz ≤ v.sz := by
  unfold tableV
  split
  · exact getV_sz v k
  · simp only; rw [V.zero_sz]; exact v.sz_pos
theorem r_tableAt (v : V) (k : Bs) (hb : v.sz < big) : cR 67 [v.enc, .str k] = some (.tup [(tableV v k).1.enc, .bool (tableV v k).2]) := by
  refine cR_of (F := F67) rfl ?_
  have hg := r_get v k hb
  unfold tableV
  generalize getV v k = g at hg ⊢
  obtain ⟨x, ok⟩ := g
  simp only at hg ⊢
  cases ok
  · simp only [T10Fh, EXA, Nat.reduceEqDiff, reduceIte, reduceCtorEq, Nat.reduceAdd, Nat.reduceLeDiff, Nat.reduceSub, Nat.reduceMul, Int.reduceEq, Int.reduceBEq, Int.reduceBNe, Int.reduceLT, Int.reduceLE, Nat.reduceLT, VX, readAt_some, hg, Bool.false_and, V.zero]
  · by_cases h5 : x.kind = 5
    · have q : (x.kind != 5) = false := by simp [h5]
      have q2 : (x.kind == 5) = true := by simp [h5]
      simp only [T10Fh, EXA, Nat.reduceEqDiff, reduceIte, reduceCtorEq, Nat.reduceAdd, Nat.reduceLeDiff, Nat.reduceSub, Nat.reduceMul, Int.reduceEq, Int.reduceBEq, Int.reduceBNe, Int.reduceLT, Int.reduceLE, Nat.reduceLT, VX, readAt_some, hg, q, q2]
    · have q : (x.kind != 5) = true := by simp [h5]
      have q2 : (x.kind == 5) = false := by simp [h5]
      simp only [T10Fh, EXA, Nat.reduceEqDiff, reduceIte, reduceCtorEq, Nat.reduceAdd, Nat.reduceLeDiff, Nat.reduceSub, Nat.reduceMul, Int.reduceEq, Int.reduceBEq, Int.reduceBNe, Int.reduceLT, Int.reduceLE, Nat.reduceLT, VX, readAt_some, hg, q, q2, V.zero]
def membershipV (c : V) : Bs := (textAt (said c) kMembership).1
theorem r_membership (c : V) (hb : c.sz < big) : cR 28 [c.enc] = some (.str (membershipV c)) := by
  have h1 := r_said c hb
  have h2 := r_textAt (said c) kMembership (by have := said_sz c; omega)
  refine cR_of (F := F28) rfl ?_
  simp only [F28, EXA, Nat.reduceEqDiff, reduceIte, reduceCtorEq, Nat.reduceAdd, Nat.reduceLeDiff, Nat.reduceSub, Nat.reduceMul, Int.reduceEq, Int.reduceBEq, Int.reduceBNe, Int.reduceLT, Int.reduceLE, Nat.reduceLT, VX, readAt_some, h1, h2, membershipV]
def authV (c : V) : Bs × Bool := if (partsB (textAt (said c) kAuthd).1 64).2.2 = true then ((textAt (said c) kAuthd).1, true) else ([], false)
theorem r_auth (c : V) (hb : c.sz < big) : cR 30 [c.enc] = some (.tup [.str (authV c).1, .bool (authV c).2]) := by
  have h1 := r_said c hb
  have hz := said_sz c
  have h2 := r_textAt (said c) kAuthd (by omega)
  have h3 := r_User (textAt (said c) kAuthd).1 (by have := textAt_len (said c) kAuthd; omega)
  refine cR_of (F := F30) rfl ?_
  unfold authV
  cases hp : (partsB (textAt (said c) kAuthd).1 64).2.2
  · rw [hp] at h3
    simp only [T10Fd, EXA, Nat.reduceEqDiff, reduceIte, reduceCtorEq, Nat.reduceAdd, Nat.reduceLeDiff, Nat.reduceSub, Nat.reduceMul, Int.reduceEq, Int.reduceBEq, Int.reduceBNe, Int.reduceLT, Int.reduceLE, Nat.reduceLT, VX, readAt_some, h1, h2, h3, hp]
  · rw [hp] at h3
    simp only [T10Fd, EXA, Nat.reduceEqDiff, reduceIte, reduceCtorEq, Nat.reduceAdd, Nat.reduceLeDiff, Nat.reduceSub, Nat.reduceMul, Int.reduceEq, Int.reduceBEq, Int.reduceBNe, Int.reduceLT, Int.reduceLE, Nat.reduceLT, VX, readAt_some, h1, h2, h3, hp]
def signedV (c : V) : V × Bool := ((tableV (tableV (said c) kThird).1 kSigned).1, (tableV (tableV (said c) kThird).1 kSigned).2 && ((textAt (tableV (tableV (said c) kThird).1 kSigned).1 kToken).2 && (textAt (tableV (tableV (said c) kThird).1 kSigned).1 kMxid).2))
theorem signedV_sz (c : V) : (signedV c).1.sz ≤ c.sz := by
  have h1 := said_sz c
  have h2 := tableV_sz (said c) kThird
  have h3 := tableV_sz (tableV (said c) kThird).1 kSigned
  unfold signedV
  simp only; omega
theorem r_signed (c : V) (hb : c.sz < big) : cR 54 [c.enc] = some (.tup [(signedV c).1.enc, .bool (signedV c).2]) := by
  have h1 := r_said c hb
  have z1 := said_sz c
  have h2 := r_tableAt (said c) kThird (by omega)
  have z2 := tableV_sz (said c) kThird
  unfold signedV
  generalize (tableV (said c) kThird) = t1 at h2 z2 ⊢
  have h3 := r_tableAt t1.1 kSigned (by omega)
  have z3 := tableV_sz t1.1 kSigned
  generalize (tableV t1.1 kSigned) = t2 at h3 z3 ⊢
  have h4 := r_textAt t2.1 kToken (by omega)
  have h5 := r_textAt t2.1 kMxid (by omega)
  generalize textAt t2.1 kToken = a at h4 ⊢
  generalize textAt t2.1 kMxid = b at h5 ⊢
  obtain ⟨x, ok⟩ := t2
  obtain ⟨a1, a2⟩ := a
  obtain ⟨b1, b2⟩ := b
  simp only at h3 h4 h5 ⊢
  refine cR_of (F := F54) rfl ?_
  cases ok <;> cases a2 <;> cases b2 <;> simp only [F54, EXA, Nat.reduceEqDiff, reduceIte, reduceCtorEq, Nat.reduceAdd, Nat.reduceLeDiff, Nat.reduceSub, Nat.reduceMul, Int.reduceEq, Int.reduceBEq, Int.reduceBNe, Int.reduceLT, Int.reduceLE, Nat.reduceLT, VX, readAt_some, h1, h2, h3, h4, h5, Bool.false_and, Bool.and_false]
def thirdV (c : V) : Bs × Bs × Bool := if (signedV c).2 = true then ((textAt (signedV c).1 kToken).1, (textAt (signedV c).1 kMxid).1, true) else ([], [], false)
theorem r_third (c : V) (hb : c.sz < big) : cR 29 [c.enc] = some (.tup [.str (thirdV c).1, .str (thirdV c).2.1, .bool (thirdV c).2.2]) := by
  have h1 := r_signed c hb
  have z1 := signedV_sz c
  unfold thirdV
  generalize signedV c = t at h1 z1 ⊢
  obtain ⟨x, ok⟩ := t
  simp only at h1 z1 ⊢
  have h2 := r_textAt x kToken (by omega)
  have h3 := r_textAt x kMxid (by omega)
  refine cR_of (F := F29) rfl ?_
  cases ok
  · simp only [T10Fc, EXA, Nat.reduceEqDiff, reduceIte, reduceCtorEq, Nat.reduceAdd, Nat.reduceLeDiff, Nat.reduceSub, Nat.reduceMul, Int.reduceEq, Int.reduceBEq, Int.reduceBNe, Int.reduceLT, Int.reduceLE, Nat.reduceLT, VX, readAt_some, h1]
  · simp only [T10Fc, EXA, Nat.reduceEqDiff, reduceIte, reduceCtorEq, Nat.reduceAdd, Nat.reduceLeDiff, Nat.reduceSub, Nat.reduceMul, Int.reduceEq, Int.reduceBEq, Int.reduceBNe, Int.reduceLT, Int.reduceLE, Nat.reduceLT, VX, readAt_some, h1, h2, h3]
end Go.Ab
/- Slices that may grow; copies; rooms that a rule allows. -/
namespace Go.Ab
set_option maxHeartbeats 1000000
def T11Fd := J @F64_2.eq_1 (J @F64_19.eq_1 (J @F64_20.eq_1 (@F64.eq_1)))
set_option maxRecDepth 100000
def lim : Nat := 1073741824
theorem Lay.rowOf {α : Type} (L : Lay α) (σ : Store) (l : List α) (c : Option Nat) : rowOf σ L.sz (.vsl (l.map L.f) c) = some (L.cells l) := by
  have h : (l.map L.f).all (fun e => e.cells.length == L.sz) = true := by
    rw [List.all_eq_true]
    intro x hx
    obtain ⟨a, _, rfl⟩ := List.mem_map.1 hx
    simp [L.len a]
  have e : (l.map L.f).flatMap AV.cells = L.cells l := by simp [Lay.cells, List.flatMap_map]
  show (if (l.map L.f).all (fun e => e.cells.length == L.sz) = true then some ((l.map L.f).flatMap AV.cells) else none) = _
  rw [if_pos h, e]
/-- A slice that holds a list, and of which one knows what append does. -/
def Gr {α : Type} (L : Lay α) (σ : Store) (v : AV) (l : List α) : Prop :=
  (v = .nils ∧ l = []) ∨ (∃ b, v = .sl b 0 l.length L.sz none ∧ Own L σ (some b) l) ∨ v = .vsl (l.map L.f) (some l.length)
section
variable {α : Type} {L : Lay α} {σ : Store} {v : AV} {l : List α}
theorem Gr.nil (L : Lay α) (σ : Store) : Gr L σ .nils [] := .inl ⟨rfl, rfl⟩
theorem Gr.lit (L : Lay α) (σ : Store) (l : List α) : Gr L σ (.vsl (l.map L.f) (some l.length)) l := .inr (.inr rfl)
theorem Gr.own {b : Nat} (h : Own L σ (some b) l) : Gr L σ (.sl b 0 l.length L.sz none) l := .inr (.inl ⟨b, rfl, h⟩)
theorem Gr.lenL (h : Gr L σ v l) : lenL v = some (.int .i64 l.length) := by
  rcases h with ⟨rfl, rfl⟩ | ⟨b, rfl, h⟩ | rfl
  · rfl
  · rfl
  · rw [lenL_vsl, List.length_map]
theorem Gr.rb (h : Gr L σ v l) : ∃ v', Go.Ab.rb σ rbDepth v = some v' ∧ v'.er = .vsl (l.map L.f) none := by
  rcases h with ⟨rfl, rfl⟩ | ⟨b, rfl, h⟩ | rfl
  · exact ⟨_, rfl, by simp only [AV.er]; rfl⟩
  · exact Own.rb (ob := some b) h
  · refine ⟨_, rb_closed' (by simp only [AV.closed]; exact closedL_map fun a _ => L.closed a), ?_⟩
    simp only [AV.er, L.erMap]
theorem Gr.rbE (h : Gr L σ v l) : Go.Ab.rbE σ v = some (.vsl (l.map L.f) none) := by
  obtain ⟨v', h1, h2⟩ := h.rb
  unfold Go.Ab.rbE
  rw [h1, Option.map_some, h2]
theorem Gr.call1 {st : Bool} {f : Nat} {args : List AV} {r : AV} (h : Gr L σ v l) (ha : closedL args = true) (hc : cR f (.vsl (l.map L.f) none :: erL args) = some r) (hr : r.flat = true) :
    callP ipU gU st (.fn f [] []) (v :: args) σ = some (r, σ) := by
  obtain ⟨v', h1, h2⟩ := h.rb
  refine callP_flat (args' := v' :: args) rfl ?_ ?_ hr
  · simp only [mapO, h1, mapO_closed' ha]
  · simp only [erL, h2, AV.er]; exact hc
/-- The store behind an append. -/
def grNext {α : Type} (L : Lay α) (σ : Store) (v : AV) (l m : List α) : Store := match v with
  | .sl b .. => (σ.set b .dead).alloc (L.cells l ++ L.cells m)
  | _ => σ.alloc (L.cells l ++ L.cells m)
theorem Gr.app {m : List α} {bytes : Nat} (h : Gr L σ v l) (hb : 0 < bytes) (hm : (l.length + m.length) * bytes ≤ maxBytes) (hk : 0 < m.length) :
    appendTo σ L.sz bytes v (L.cells m) m.length = some (.sl σ.next 0 (l ++ m).length L.sz none, grNext L σ v l m) := by
  have c1 := L.cells_len m
  have c2 := L.cells_one m
  have c3 := L.pos
  rcases h with ⟨rfl, rfl⟩ | ⟨b, rfl, h⟩ | rfl
  · unfold appendTo
    simp only [lenOf]
    rw [if_pos ⟨c3, hb, by simpa using hm, c1, c2⟩, if_neg (by omega)]
    simp [grNext, Lay.cells]
  · obtain ⟨h1, h2, h3, h4⟩ := h
    unfold appendTo
    simp only [lenOf]
    rw [if_pos ⟨c3, hb, hm, c1, c2⟩, if_pos trivial]
    have : σ.owned b = some (L.cells l) := by simp [Store.owned, h1]
    rw [this]
    simp only
    rw [if_neg (by omega), if_pos (by omega)]
    simp [grNext]
  · unfold appendTo
    simp only [lenOf, List.length_map]
    rw [if_pos ⟨c3, hb, hm, c1, c2⟩, if_neg (by omega), if_pos trivial, L.rowOf]
    simp [grNext]
theorem Gr.next {m : List α} (h : Gr L σ v l) (hk : 0 < m.length) : Own L (grNext L σ v l m) (some σ.next) (l ++ m) := by
  have e : L.cells (l ++ m) = L.cells l ++ L.cells m := by simp [Lay.cells]
  have hl := L.cells_len (l ++ m)
  have hlen : 0 < (l ++ m).length := by simp; omega
  rcases h with ⟨rfl, rfl⟩ | ⟨b, rfl, h⟩ | rfl
  · exact ⟨by simp only [grNext]; rw [← e]; exact get_alloc_next, hl, by simp [grNext, next_alloc], hlen⟩
  · exact ⟨by simp only [grNext]; rw [← e]; exact get_alloc_next (σ := σ.set b .dead), hl, by simp [grNext, next_alloc, next_set], hlen⟩
  · exact ⟨by simp only [grNext]; rw [← e]; exact get_alloc_next, hl, by simp [grNext, next_alloc], hlen⟩
theorem Gr.push {a : α} {bytes : Nat} (h : Gr L σ v l) (hb : 0 < bytes) (hm : (l.length + 1) * bytes ≤ maxBytes) :
    appendTo σ L.sz bytes v (L.f a).cells 1 = some (.sl σ.next 0 (l ++ [a]).length L.sz none, grNext L σ v l [a]) := by
  have := Gr.app (m := [a]) h hb (by simpa using hm) (by simp)
  simpa [Lay.cells] using this
theorem grNext_next (L : Lay α) (σ : Store) (v : AV) (l m : List α) : (grNext L σ v l m).next = σ.next + 1 := by
  unfold grNext; split <;> rfl
/-- What is far from a slice's own block leaves it as it is. -/
theorem Gr.frame {σ' : Store} (h : Gr L σ v l) (hg : ∀ b, b < σ.next → σ'.get b = σ.get b) (hn : σ.next ≤ σ'.next) : Gr L σ' v l := by
  rcases h with h | ⟨b, rfl, h⟩ | h
  · exact .inl h
  · exact .inr (.inl ⟨b, rfl, h.frame (hg b h.lt) hn⟩)
  · exact .inr (.inr h)
theorem Gr.alloc (h : Gr L σ v l) (cs : List AV) : Gr L (σ.alloc cs) v l := h.frame (fun _ hb => get_alloc hb) (by simp [next_alloc])
/-- A new block, written once. -/
theorem Gr.newset (h : Gr L σ v l) (cs cs' : List AV) : Gr L { next := σ.next + 1, m := (σ.next, .own cs) :: (σ.next, .own cs') :: σ.m } v l :=
  h.frame (fun b hb => by
    show look ((σ.next, Blk.own cs) :: (σ.next, .own cs') :: σ.m) b = look σ.m b
    simp only [look]; rw [if_neg (by omega), if_neg (by omega)]) (by simp)
theorem grNext_get {m : List α} (h : Gr L σ v l) {b : Nat} (hb : b < σ.next) (hne : ∀ len sz c, v ≠ .sl b 0 len sz c) : (grNext L σ v l m).get b = σ.get b := by
  unfold grNext
  split
  · rename_i b' off len sz c
    have hoff : off = 0 := by
      rcases h with ⟨h, _⟩ | ⟨b2, h, _⟩ | h
      · simp at h
      · simp at h; exact h.2.1
      · simp at h
    subst hoff
    rw [get_alloc (by rw [next_set]; exact hb), get_set (by rintro rfl; exact hne len sz c rfl)]
  · exact get_alloc hb
end
/-- An index into a slice of strings, by a text. -/
theorem r_indexS (l : List Bs) (x : Bs) (hlen : l.length < big) : cR 64 [.vsl (l.map .str) none, .str x] = some (.int .i64 (firstFrom (fun s => x == s) l 0)) := by
  unfold big at hlen
  refine cR_of (F := F64) rfl ?_
  simp only [F64_2, F64_19, F64, ex_loop, EXA, Nat.reduceEqDiff, reduceIte, reduceCtorEq, Nat.reduceAdd, Nat.reduceLeDiff, Nat.reduceSub, Nat.reduceMul, Int.reduceEq, Int.reduceBEq, Int.reduceBNe, Int.reduceLT, Int.reduceLE, Nat.reduceLT, VX]
  refine ex_while (S := Nat) (fun j => [(0, .vsl (l.map .str) none), (1, .str x), (7, .int .i64 l.length), (8, .int .i64 (j : Int))]) (fun _ => .empty) (fun j => l.length - j) (fun j => firstFrom (fun s => x == s) l j = firstFrom (fun s => x == s) l 0) ?_ 0 rfl
  intro b j hj ih
  by_cases hlt : j < l.length
  · obtain ⟨y, hy⟩ := get_lt hlt
    have hidx := idx_map (f := AV.str) (sz := 1) (c := none) hy rfl
    have hcond := dlt hlt
    simp only [T11Fd, EXA, Nat.reduceEqDiff, reduceIte, reduceCtorEq, Nat.reduceAdd, Nat.reduceLeDiff, Nat.reduceSub, Nat.reduceMul, Int.reduceEq, Int.reduceBEq, Int.reduceBNe, Int.reduceLT, Int.reduceLE, Nat.reduceLT, VX, readAt_some, hcond, hidx]
    split
    · rename_i hp
      rw [← hj, firstFrom_hit hy hp]
    · rename_i hp
      refine ih (j + 1) _ _ (by omega) ?_ ?_ rfl
      · rw [← firstFrom_miss hy (by simpa using hp)]; exact hj
      · rw [wsucc hlt (by omega)]
        simp only [EXA, Nat.reduceEqDiff, reduceIte, reduceCtorEq, Nat.reduceAdd, Nat.reduceLeDiff, Nat.reduceSub, Nat.reduceMul, Int.reduceEq, Int.reduceBEq, Int.reduceBNe, Int.reduceLT, Int.reduceLE, Nat.reduceLT]
  · have hcond := dge (Nat.not_lt.1 hlt)
    simp only [T11Fd, EXA, Nat.reduceEqDiff, reduceIte, reduceCtorEq, Nat.reduceAdd, Nat.reduceLeDiff, Nat.reduceSub, Nat.reduceMul, Int.reduceEq, Int.reduceBEq, Int.reduceBNe, Int.reduceLT, Int.reduceLE, Nat.reduceLT, VX, hcond]
    rw [← hj, firstFrom_end (by omega)]
def hasS (l : List Bs) (x : Bs) : Bool := l.any fun s => x == s
theorem r_containsS (l : List Bs) (x : Bs) (hlen : l.length < big) : cR 45 [.vsl (l.map .str) none, .str x] = some (.bool (hasS l x)) := by
  refine cR_of (F := F45) rfl ?_
  simp only [F45, EXA, Nat.reduceEqDiff, reduceIte, reduceCtorEq, Nat.reduceAdd, Nat.reduceLeDiff, Nat.reduceSub, Nat.reduceMul, Int.reduceEq, Int.reduceBEq, Int.reduceBNe, Int.reduceLT, Int.reduceLE, Nat.reduceLT, VX, r_indexS l x hlen, firstFrom_ge, hasS]
end Go.Ab
/- Copies, lists. -/
namespace Go.Ab
set_option maxHeartbeats 1000000
set_option maxRecDepth 100000
/-- The store has grown; what was is as it was. -/
def Grown (σ σ' : Store) : Prop := σ.next ≤ σ'.next ∧ ∀ b, b < σ.next → σ'.get b = σ.get b
theorem Grown.refl (σ : Store) : Grown σ σ := ⟨Nat.le_refl _, fun _ _ => rfl⟩
theorem Grown.alloc (σ : Store) (cs : List AV) : Grown σ (σ.alloc cs) := ⟨by simp [next_alloc], fun _ hb => get_alloc hb⟩
theorem both_of {f : Nat} {σ : Store} (n : Nat) (h1 : scall ipU (run ipU gU n) (.fn f [] []) [.nils] .empty = some (.nils, .empty)) (h2 : scall ipU (run ipU gU n) (.fn f [] []) [.e0] .empty = some (.vsl [] (some 0), .empty)) :
    both ipU gU (.fn f [] []) σ = true := by
  refine both_some.2 ⟨n, ?_⟩
  have e1 : pcall ipU (run ipU gU n) false true (.fn f [] []) [.nils] σ = some (.nils, σ) := by
    unfold pcall
    rw [rb_closed' rfl, mapO_closed' rfl]
    simp only [AV.er, erL, Bool.false_eq_true, if_false, h1]
    rfl
  have e2 : pcall ipU (run ipU gU n) false true (.fn f [] []) [.e0] σ = some (.vsl [] (some 0), σ) := by
    unfold pcall
    rw [rb_closed' rfl, mapO_closed' rfl]
    simp only [AV.er, erL, Bool.false_eq_true, if_false, h2]
    rfl
  unfold bothWays
  rw [e1, e2]
  rfl
theorem app00 {σ : Store} {sz bytes n : Nat} {new : List AV} (hs : 0 < sz) (hb : 0 < bytes) (hm : n * bytes ≤ maxBytes) (hl : new.length = n * sz) (ho : new.all AV.one = true) (hn : 0 < n) :
    appendTo σ sz bytes (.vsl [] (some 0)) new n = some (.sl σ.next 0 n sz none, σ.alloc new) := by
  unfold appendTo
  simp only [lenOf, List.length_nil, Nat.zero_add]
  rw [if_pos ⟨hs, hb, hm, hl, ho⟩, if_neg (by omega), if_pos trivial]
  rfl
theorem lenOf_vsl (l : List AV) (c : Option Nat) : lenOf (.vsl l c) = some l.length := rfl
section
variable {α : Type} {L : Lay α}
theorem Gr.cloned (σ : Store) {l : List α} (h : 0 < l.length) : Gr L (σ.alloc (L.cells l)) (.sl σ.next 0 l.length L.sz none) l :=
  Gr.own ⟨get_alloc_next, L.cells_len l, by simp [next_alloc], h⟩
end
theorem Gr.rbD {α : Type} {L : Lay α} {σ : Store} {v : AV} {l : List α} (h : Gr L σ v l) (d : Nat) : ∃ v', Go.Ab.rb σ (d + 1) v = some v' ∧ v'.er = .vsl (l.map L.f) none := by
  rcases h with ⟨rfl, rfl⟩ | ⟨b, rfl, h⟩ | rfl
  · exact ⟨_, rfl, by simp only [AV.er]; rfl⟩
  · obtain ⟨h1, h2, h3, h4⟩ := h
    refine ⟨_, rb_sl (by simp [Store.cells, h1]) h2 L.pos (L.cells_closed l) (one_notAgg (L.cells_one l)), ?_⟩
    rw [L.chunks]; simp only [AV.er, L.erMap]
  · refine ⟨_, rb_closed' (by simp only [AV.closed]; exact closedL_map fun a _ => L.closed a), ?_⟩
    simp only [AV.er, L.erMap]
theorem Gr.plain {α : Type} {L : Lay α} {σ : Store} {v : AV} {l : List α} (h : Gr L σ v l) : v.known = true ∧ v.one = true ∧ v.cells = [v] ∧ v.notAgg = true := by
  rcases h with ⟨rfl, _⟩ | ⟨b, rfl, _⟩ | rfl <;> exact ⟨rfl, rfl, rfl, rfl⟩
/-- Cells read out of the store, handed on. -/
def RbL (σ : Store) (d : Nat) (cs cs' : List AV) : Prop := ∃ m, mapO (rb σ d) cs = some m ∧ erL m = cs'
theorem RbL.nil (σ : Store) (d : Nat) : RbL σ d [] [] := ⟨[], rfl, by simp only [erL]⟩
theorem RbL.clo {σ : Store} {d : Nat} {x : AV} {cs cs' : List AV} (hx : x.closed = true) (h : RbL σ d cs cs') : RbL σ d (x :: cs) (x.er :: cs') := by
  obtain ⟨m, h1, h2⟩ := h
  exact ⟨x :: m, by simp only [mapO, rb_closed' hx, h1], by simp only [erL, h2]⟩
theorem RbL.gr {α : Type} {L : Lay α} {σ : Store} {d : Nat} {v : AV} {l : List α} {cs cs' : List AV} (hv : Gr L σ v l) (h : RbL σ (d + 1) cs cs') : RbL σ (d + 1) (v :: cs) (.vsl (l.map L.f) none :: cs') := by
  obtain ⟨m, h1, h2⟩ := h
  obtain ⟨v', h3, h4⟩ := hv.rbD d
  exact ⟨v' :: m, by simp only [mapO, h3, h1], by simp only [erL, h2, h4]⟩
theorem RbL.agg {σ : Store} {cs cs' : List AV} (h : RbL σ 23 cs cs') : rbE σ (.agg cs) = some (.agg cs') := by
  obtain ⟨m, h1, h2⟩ := h
  unfold rbE
  by_cases hc : (AV.agg cs).closed = true
  · have : m = cs := by
      have hm := mapO_closed' (σ := σ) (d := 23) (show closedL cs = true by simpa [AV.closed] using hc)
      rw [h1] at hm
      exact Option.some.inj hm
    subst this
    rw [rb_closed' hc, Option.map_some, AV.er, h2]
  · have e : rb σ rbDepth (.agg cs) = some (.agg m) := by
      show rb σ (23 + 1) (.agg cs) = _
      rw [rb, if_neg hc, h1]
    rw [e, Option.map_some, AV.er, h2]
theorem look_get {σ : Store} {b : Nat} {x : Blk} (h : σ.get b = some x) : look σ.m b = some x := h
end Go.Ab
/- Slots and events: finding one. -/
namespace Go.Ab
set_option maxHeartbeats 1000000
def N1Fb := J @F53_2.eq_1 (J @F53_19.eq_1 (J @F53_20.eq_1 (@F53.eq_1)))
set_option maxRecDepth 100000
def sEq (x y : Slt) : Bool := x.type == y.type && x.key == y.key
theorem Slt.eta (x : Slt) : (⟨x.type, x.key⟩ : Slt) = x := rfl
theorem eqs_slt (x y : Slt) (ng : Bool) : eqsOf [.str, .str] ng (sltE x) (sltE y) = some (.bool (if ng then !(sEq x y) else sEq x y)) := by
  have h : eqCells [.str, .str] [.str x.type, .str x.key] [.str y.type, .str y.key] = some (sEq x y) := by
    simp only [eqCells, sEq]
    cases x.type == y.type <;> cases x.key == y.key <;> rfl
  simp only [eqsOf, sltE, List.length_cons, List.length_nil, and_self, if_true, h, Option.map_some]
theorem idx_slt {l : List Slt} {j : Nat} {s : Slt} {c : Option Nat} (h : l[j]? = some s) : idxOf 2 none (.vsl (l.map sltE) c) (.int .i64 (j : Int)) = some (.vptr [.str s.type, .str s.key] 0) := idx_map (f := sltE) h rfl
theorem r_indexSlt (l : List Slt) (x : Slt) (hlen : l.length < big) : cR 53 [.vsl (l.map sltE) none, sltE x] = some (.int .i64 (firstFrom (sEq x) l 0)) := by
  unfold big at hlen
  refine cR_of (F := F53) rfl ?_
  simp only [F53_2, F53_19, F53, ex_loop, EXA, Nat.reduceEqDiff, reduceIte, reduceCtorEq, Nat.reduceAdd, Nat.reduceLeDiff, Nat.reduceSub, Nat.reduceMul, Int.reduceEq, Int.reduceBEq, Int.reduceBNe, Int.reduceLT, Int.reduceLE, Nat.reduceLT, VX]
  refine ex_while (S := Nat) (fun j => [(0, .vsl (l.map sltE) none), (3, .vptr [.str x.type, .str x.key] 0), (7, .int .i64 l.length), (8, .int .i64 (j : Int))]) (fun _ => .empty) (fun j => l.length - j) (fun j => firstFrom (sEq x) l j = firstFrom (sEq x) l 0) ?_ 0 rfl
  intro b j hj ih
  by_cases hlt : j < l.length
  · obtain ⟨y, hy⟩ := get_lt hlt
    have hidx := idx_slt (c := none) hy
    have hcond := dlt hlt
    simp only [N1Fb, EXA, Nat.reduceEqDiff, reduceIte, reduceCtorEq, Nat.reduceAdd, Nat.reduceLeDiff, Nat.reduceSub, Nat.reduceMul, Int.reduceEq, Int.reduceBEq, Int.reduceBNe, Int.reduceLT, Int.reduceLE, Nat.reduceLT, VX, readAt_some, hcond, hidx, Slt.eta, eqs_slt]
    split
    · rename_i hp
      rw [← hj, firstFrom_hit hy (by simpa using hp)]
    · rename_i hp
      refine ih (j + 1) _ _ (by omega) ?_ ?_ rfl
      · rw [← firstFrom_miss hy (by simpa using hp)]; exact hj
      · rw [wsucc hlt (by omega)]
        simp only [EXA, Nat.reduceEqDiff, reduceIte, reduceCtorEq, Nat.reduceAdd, Nat.reduceLeDiff, Nat.reduceSub, Nat.reduceMul, Int.reduceEq, Int.reduceBEq, Int.reduceBNe, Int.reduceLT, Int.reduceLE, Nat.reduceLT]
  · have hcond := dge (Nat.not_lt.1 hlt)
    simp only [N1Fb, EXA, Nat.reduceEqDiff, reduceIte, reduceCtorEq, Nat.reduceAdd, Nat.reduceLeDiff, Nat.reduceSub, Nat.reduceMul, Int.reduceEq, Int.reduceBEq, Int.reduceBNe, Int.reduceLT, Int.reduceLE, Nat.reduceLT, VX, hcond]
    rw [← hj, firstFrom_end (by omega)]
def hasT (l : List Slt) (x : Slt) : Bool := l.any (sEq x)
theorem r_containsT (l : List Slt) (x : Slt) (hlen : l.length < big) : cR 37 [.vsl (l.map sltE) none, sltE x] = some (.bool (hasT l x)) := by
  refine cR_of (F := F37) rfl ?_
  simp only [F37, EXA, Nat.reduceEqDiff, reduceIte, reduceCtorEq, Nat.reduceAdd, Nat.reduceLeDiff, Nat.reduceSub, Nat.reduceMul, Int.reduceEq, Int.reduceBEq, Int.reduceBNe, Int.reduceLT, Int.reduceLE, Nat.reduceLT, VX, readAt_some, Slt.eta, r_indexSlt l x hlen, firstFrom_ge, hasT]
end Go.Ab
/- Events: copies, finding one of a state. -/
namespace Go.Ab
set_option maxHeartbeats 1000000
def N2Fb := J @F51_2.eq_1 (J @F51_19.eq_1 (J @F51_20.eq_1 (@F51.eq_1)))
set_option maxRecDepth 100000
theorem r_cloneS (l : List Bs) (hb : l.length < lim) (h0 : 0 < l.length) : cR 66 [.vsl (l.map .str) none] = some (.vsl (l.map .str) none) := by
  unfold lim at hb
  cases l with
  | nil => simp at h0
  | cons x l =>
    have hro : ∀ σ', rowOf σ' 1 (.vsl ((x :: l).map .str) none) = some (LStr.cells (x :: l)) := fun σ' => LStr.rowOf σ' (x :: l) none
    have ha : appendTo .empty 1 16 (.vsl [] (some 0)) (LStr.cells (x :: l)) (l.length + 1) = some (.sl 0 0 (l.length + 1) 1 none, Store.empty.alloc (LStr.cells (x :: l))) :=
      app00 (by omega) (by omega) (by unfold maxBytes; simp at hb; omega) (LStr.cells_len (x :: l)) (LStr.cells_one _) (by omega)
    have hrb := (Gr.cloned (L := LStr) .empty (l := x :: l) (by simp)).rbE
    refine cR_of (F := F66) rfl ?_
    simp only [List.map_cons] at hro
    simp only [Store.empty] at ha hrb
    simp only [F66, EXA, Nat.reduceEqDiff, reduceIte, reduceCtorEq, Nat.reduceAdd, Nat.reduceLeDiff, Nat.reduceSub, Nat.reduceMul, Int.reduceEq, Int.reduceBEq, Int.reduceBNe, Int.reduceLT, Int.reduceLE, Nat.reduceLT, VX, lenOf_vsl, hro, ha]
    exact hrb
theorem c_cloneS (l : List Bs) (σ : Store) (hb : l.length < lim) : callM ipU gU .splitS (.fn 66 [] []) [.vsl (l.map .str) none] σ = some (.vsl (l.map .str) none, σ) := by
  cases l with
  | nil =>
    have hb2 : both ipU gU (.fn 66 [] []) σ = true := both_of 100 (by kernel_rfl) (by kernel_rfl)
    simp only [callM, List.map_nil, noItems, if_true, hb2]
  | cons x l =>
    have hn : noItems [.vsl ((x :: l).map .str) none] = false := rfl
    have hc : closedL [.vsl ((x :: l).map AV.str) none] = true := by simp only [closedL, AV.closed, closedL_strs, Bool.and_self]
    simp only [callM, hn, Bool.false_eq_true, if_false]
    rw [callP_closed rfl hc]
    simp only [erL, AV.er, erL_strs]
    have hr : callR ipU gU (.fn 66 [] []) [.vsl ((x :: l).map AV.str) none] = some (.vsl ((x :: l).map AV.str) none) := r_cloneS (x :: l) hb (by simp)
    rw [hr]; rfl
theorem r_copy (e : Ev) (h1 : e.prev.length < lim) (h2 : e.auth.length < lim) : cR 52 [evE e] = some (evE e) := by
  have c1 := c_cloneS e.prev
  have c2 := c_cloneS e.auth
  refine cR_of (F := F52) rfl ?_
  simp only [F52, EXA, Nat.reduceEqDiff, reduceIte, reduceCtorEq, Nat.reduceAdd, Nat.reduceLeDiff, Nat.reduceSub, Nat.reduceMul, Int.reduceEq, Int.reduceBEq, Int.reduceBNe, Int.reduceLT, Int.reduceLE, Nat.reduceLT, VX, readAt_some, c1 _ h1, c2 _ h2]
theorem idx_ev {l : List Ev} {j : Nat} {e : Ev} {c : Option Nat} (h : l[j]? = some e) : idxOf 20 none (.vsl (l.map evE) c) (.int .i64 (j : Int)) = some (.vptr (evE e).cells 0) := idx_map (f := evE) h rfl
/-- slices.IndexFunc over events. -/
theorem r_indexE (l : List Ev) (f : AV) (p : Ev → Bool) (hf : f.closed = true) (hfe : f.er = f) (hlen : l.length < big) (hp : ∀ e ∈ l, callR ipU gU f [evE e] = some (.bool (p e))) :
    cR 51 [.vsl (l.map evE) none, f] = some (.int .i64 (firstFrom p l 0)) := by
  unfold big at hlen
  refine cR_of (F := F51) rfl ?_
  simp only [F51_2, F51_19, F51, ex_loop, EXA, Nat.reduceEqDiff, reduceIte, reduceCtorEq, Nat.reduceAdd, Nat.reduceLeDiff, Nat.reduceSub, Nat.reduceMul, Int.reduceEq, Int.reduceBEq, Int.reduceBNe, Int.reduceLT, Int.reduceLE, Nat.reduceLT, VX]
  refine ex_while (S := Nat) (fun j => [(0, .vsl (l.map evE) none), (1, f), (7, .int .i64 l.length), (8, .int .i64 (j : Int))]) (fun _ => .empty) (fun j => l.length - j) (fun j => firstFrom p l j = firstFrom p l 0) ?_ 0 rfl
  intro b j hj ih
  by_cases hlt : j < l.length
  · obtain ⟨v, hv⟩ := get_lt hlt
    have hidx := idx_ev (c := none) hv
    have hcall := hp v (List.mem_of_getElem? hv)
    have hcond := dlt hlt
    simp only [N2Fb, EXA, Nat.reduceEqDiff, reduceIte, reduceCtorEq, Nat.reduceAdd, Nat.reduceLeDiff, Nat.reduceSub, Nat.reduceMul, Int.reduceEq, Int.reduceBEq, Int.reduceBNe, Int.reduceLT, Int.reduceLE, Nat.reduceLT, VX, readAt_some, hcond, hidx, hf, hfe, hcall]
    split
    · rename_i hpe
      rw [← hj, firstFrom_hit hv hpe]
    · rename_i hpe
      refine ih (j + 1) _ _ (by omega) ?_ ?_ rfl
      · rw [← firstFrom_miss hv (by simpa using hpe)]; exact hj
      · rw [wsucc hlt (by omega)]
        simp only [EXA, Nat.reduceEqDiff, reduceIte, reduceCtorEq, Nat.reduceAdd, Nat.reduceLeDiff, Nat.reduceSub, Nat.reduceMul, Int.reduceEq, Int.reduceBEq, Int.reduceBNe, Int.reduceLT, Int.reduceLE, Nat.reduceLT]
  · have hcond := dge (Nat.not_lt.1 hlt)
    simp only [N2Fb, EXA, Nat.reduceEqDiff, reduceIte, reduceCtorEq, Nat.reduceAdd, Nat.reduceLeDiff, Nat.reduceSub, Nat.reduceMul, Int.reduceEq, Int.reduceBEq, Int.reduceBNe, Int.reduceLT, Int.reduceLE, Nat.reduceLT, VX, hcond]
    rw [← hj, firstFrom_end (by omega)]
def Ev.slot (e : Ev) : Slt := ⟨e.type, e.key⟩
def isAt (s : Slt) (e : Ev) : Bool := e.isState && sEq e.slot s
theorem r_of1 (s : Slt) (e : Ev) : callR ipU gU (.fn 50 [] [.vptr [.str s.type, .str s.key] 0]) [evE e] = some (.bool (isAt s e)) := by
  refine callR_of (F := F50) rfl (first := []) (caps := [.vptr [.str s.type, .str s.key] 0]) ?_
  simp only [F50, EXA, Nat.reduceEqDiff, reduceIte, reduceCtorEq, Nat.reduceAdd, Nat.reduceLeDiff, Nat.reduceSub, Nat.reduceMul, Int.reduceEq, Int.reduceBEq, Int.reduceBNe, Int.reduceLT, Int.reduceLE, Nat.reduceLT, VX, readAt_some, r_slot, Slt.eta, eqs_slt]
  unfold isAt Ev.slot
  cases e.isState <;> simp
end Go.Ab
/- The event of a slot. -/
namespace Go.Ab
set_option maxHeartbeats 1000000
def N3Fa := @F26.eq_1
set_option maxRecDepth 100000
theorem firstFrom_find {α : Type} (p : α → Bool) (l : List α) : (firstFrom p l 0 = -1 ∧ l.find? p = none) ∨ ∃ (i : Nat) (e : α), firstFrom p l 0 = (i : Int) ∧ l[i]? = some e ∧ l.find? p = some e ∧ p e = true := by
  unfold firstFrom
  rw [List.drop_zero]
  cases h : l.findIdx? p with
  | none => exact .inl ⟨rfl, by rw [List.find?_eq_none]; intro x hx; have := List.findIdx?_eq_none_iff.1 h x hx; simp [this]⟩
  | some i =>
    right
    obtain ⟨h1, h2, h3⟩ := List.findIdx?_eq_some_iff_getElem.1 h
    refine ⟨i, l[i], by simp, by simp [h1], ?_, h2⟩
    rw [List.find?_eq_some_iff_getElem]
    exact ⟨h2, i, h1, rfl, fun j hj => by simpa using h3 j hj⟩
def Ev.zero : Ev := ⟨V.mk 0 0 [] [] [], [], [], [], [], [], false, 0, 0, [], [], V.mk 0 0 [] [] []⟩
theorem evE_zero : evE Ev.zero = .agg [.int .i64 0, .int .i64 0, .str [], .vsl [] none, .vsl [] none, .str [], .str [], .str [], .str [], .str [], .bool false, .int .i64 0, .int .i64 0, .vsl [] none, .vsl [] none, .int .i64 0, .int .i64 0, .str [], .vsl [] none, .vsl [] none] := rfl
def ofE (l : List Ev) (s : Slt) : Ev × Bool := match l.find? (isAt s) with
  | some e => (e, true)
  | none => (Ev.zero, false)
theorem ofE_some {l : List Ev} {s : Slt} {e : Ev} (h : l.find? (isAt s) = some e) : ofE l s = (e, true) := by simp [ofE, h]
theorem ofE_none {l : List Ev} {s : Slt} (h : l.find? (isAt s) = none) : ofE l s = (Ev.zero, false) := by simp [ofE, h]
theorem decNeg (i : Nat) : decide ((i : Int) < 0) = false := by simp
theorem r_of (l : List Ev) (s : Slt) (hlen : l.length < big) (hs : ∀ e ∈ l, e.prev.length < lim ∧ e.auth.length < lim) : cR 26 [.vsl (l.map evE) none, sltE s] = some (.tup [evE (ofE l s).1, .bool (ofE l s).2]) := by
  have hi := r_indexE l (.fn 50 [] [.vptr [.str s.type, .str s.key] 0]) (isAt s) rfl (by simp only [AV.er, erL]) hlen (fun e _ => r_of1 s e)
  refine cR_of (F := F26) rfl ?_
  rcases firstFrom_find (isAt s) l with ⟨h1, h2⟩ | ⟨i, e, h1, h2, h3, _⟩
  · rw [h1] at hi
    have hd : decide ((-1 : Int) < 0) = true := rfl
    simp only [N3Fa, EXA, Nat.reduceEqDiff, reduceIte, reduceCtorEq, Nat.reduceAdd, Nat.reduceLeDiff, Nat.reduceSub, Nat.reduceMul, Int.reduceEq, Int.reduceBEq, Int.reduceBNe, Int.reduceLT, Int.reduceLE, Nat.reduceLT, VX, hi, hd, ofE_none h2, readAt_some, evE_zero]
  · rw [h1] at hi
    have hidx := idx_ev (c := none) h2
    obtain ⟨q1, q2⟩ := hs e (List.mem_of_getElem? h2)
    simp only [N3Fa, EXA, Nat.reduceEqDiff, reduceIte, reduceCtorEq, Nat.reduceAdd, Nat.reduceLeDiff, Nat.reduceSub, Nat.reduceMul, Int.reduceEq, Int.reduceBEq, Int.reduceBNe, Int.reduceLT, Int.reduceLE, Nat.reduceLT, VX, hi, decNeg, ofE_some h3, readAt_some, hidx, r_copy e q1 q2]
end Go.Ab
/- What an event needs. -/
namespace Go.Ab
set_option maxHeartbeats 1000000
def N4Fa := @F27.eq_1
def N4Fb := J @F5_21.eq_1 (J @F5_29.eq_1 (J @F5_37.eq_1 (J @F5_38.eq_1 (J @F5_39.eq_1 (J @F5_40.eq_1 (J @F5_41.eq_1 (J @F5_42.eq_1 (J @F5_43.eq_1 (J @F5_44.eq_1 (J @F5_45.eq_1 (@F5.eq_1)))))))))))
def N4Fc := J @F5_21.eq_1 (J @F5_29.eq_1 (J @F5_37.eq_1 (J @F5_38.eq_1 (J @F5_40.eq_1 (J @F5_41.eq_1 (J @F5_42.eq_1 (J @F5_43.eq_1 (J @F5_44.eq_1 (J @F5_45.eq_1 (@F5.eq_1))))))))))
def N4Fd := J @F5_21.eq_1 (J @F5_29.eq_1 (J @F5_37.eq_1 (J @F5_38.eq_1 (J @F5_39.eq_1 (J @F5_40.eq_1 (J @F5_42.eq_1 (J @F5_43.eq_1 (J @F5_44.eq_1 (J @F5_45.eq_1 (@F5.eq_1))))))))))
def N4Fe := J @F5_21.eq_1 (J @F5_29.eq_1 (J @F5_37.eq_1 (J @F5_38.eq_1 (J @F5_39.eq_1 (J @F5_40.eq_1 (J @F5_41.eq_1 (J @F5_42.eq_1 (J @F5_44.eq_1 (J @F5_45.eq_1 (@F5.eq_1))))))))))
def N4Ff := J @F5_21.eq_1 (J @F5_29.eq_1 (J @F5_37.eq_1 (J @F5_38.eq_1 (J @F5_39.eq_1 (J @F5_40.eq_1 (J @F5_41.eq_1 (J @F5_42.eq_1 (J @F5_43.eq_1 (J @F5_44.eq_1 (@F5.eq_1))))))))))
set_option maxRecDepth 100000
def addT (l : List Slt) (s : Slt) : List Slt := if hasT l s then l else l ++ [s]
/-- Block b holds a slice of slots. -/
def NSt (σ : Store) (b : Nat) (l : List Slt) : Prop := ∃ v, look σ.m b = some (.own [v]) ∧ Gr LSlt σ v l ∧ b < σ.next ∧ (∀ len sz c, v ≠ .sl b 0 len sz c)
theorem c_more (σ : Store) (b : Nat) (l : List Slt) (s : Slt) (h : NSt σ b l) (hl : l.length < lim) : ∃ σ', callS ipU gU (.fn 27 [] [.ptr b 0]) [sltE s] σ = some (.tup [], σ') ∧ NSt σ' b (addT l s) := by
  unfold lim at hl
  obtain ⟨v, h1, h2, h3, h4⟩ := h
  have hcall : callP ipU gU false (.fn 37 [] []) [v, sltE s] σ = some (.bool (hasT l s), σ) := h2.call1 (by simp only [closedL, sltE_closed, Bool.and_self]) (by simp only [erL, sltE_er]; exact r_containsT l s (by unfold big; omega)) rfl
  cases hh : hasT l s with
  | true =>
    rw [hh] at hcall
    refine ⟨σ, ?_, v, h1, by simpa [addT, hh] using h2, h3, h4⟩
    refine callS_of (F := F27) rfl (first := []) (caps := [.ptr b 0]) ?_
    simp only [N4Fa, EXA, Nat.reduceEqDiff, reduceIte, reduceCtorEq, Nat.reduceAdd, Nat.reduceLeDiff, Nat.reduceSub, Nat.reduceMul, Int.reduceEq, Int.reduceBEq, Int.reduceBNe, Int.reduceLT, Int.reduceLE, Nat.reduceLT, VX, readAt_some, h1, Slt.eta, hcall]
  | false =>
    rw [hh] at hcall
    have happ : appendTo σ 2 32 v [.str s.type, .str s.key] 1 = some _ := h2.push (a := s) (bytes := 32) (by omega) (by unfold maxBytes; omega)
    have hget : look (grNext LSlt σ v l [s]).m b = some (.own [v]) := by
      have := grNext_get (m := [s]) h2 h3 h4
      exact this.trans h1
    have hnx := grNext_next LSlt σ v l [s]
    have hgn := h2.next (m := [s]) (by simp)
    have hlo : lenOf (.vsl [sltE s] (some 1)) = some 1 := rfl
    have hro : ∀ σ', rowOf σ' 2 (.vsl [sltE s] (some 1)) = some [.str s.type, .str s.key] := fun _ => rfl
    refine ⟨{ next := (grNext LSlt σ v l [s]).next, m := (b, .own [.sl σ.next 0 (l ++ [s]).length 2 none]) :: (grNext LSlt σ v l [s]).m }, ?_, .sl σ.next 0 (l ++ [s]).length 2 none, by simp [look], ?_, ?_, ?_⟩
    · refine callS_of (F := F27) rfl (first := []) (caps := [.ptr b 0]) ?_
      simp only [N4Fa, EXA, Nat.reduceEqDiff, reduceIte, reduceCtorEq, Nat.reduceAdd, Nat.reduceLeDiff, Nat.reduceSub, Nat.reduceMul, Int.reduceEq, Int.reduceBEq, Int.reduceBNe, Int.reduceLT, Int.reduceLE, Nat.reduceLT, VX, readAt_some, h1, Slt.eta, hcall, hlo, hro, happ, hget]
      rfl
    · have e : addT l s = l ++ [s] := by simp [addT, hh]
      rw [e]
      exact Gr.own (L := LSlt) (hgn.frame (by show look ((b, _) :: _) σ.next = look _ σ.next; simp only [look]; rw [if_neg (by omega)]) (Nat.le_refl _))
    · show b < (grNext LSlt σ v l [s]).next; omega
    · intro len sz c hv
      simp only [AV.sl.injEq] at hv
      omega
abbrev kCreate : Bs := [109, 46, 114, 111, 111, 109, 46, 99, 114, 101, 97, 116, 101]
abbrev kPower : Bs := [109, 46, 114, 111, 111, 109, 46, 112, 111, 119, 101, 114, 95, 108, 101, 118, 101, 108, 115]
abbrev kMember : Bs := [109, 46, 114, 111, 111, 109, 46, 109, 101, 109, 98, 101, 114]
abbrev kJoins : Bs := [109, 46, 114, 111, 111, 109, 46, 106, 111, 105, 110, 95, 114, 117, 108, 101, 115]
abbrev kThirdInv : Bs := [109, 46, 114, 111, 111, 109, 46, 116, 104, 105, 114, 100, 95, 112, 97, 114, 116, 121, 95, 105, 110, 118, 105, 116, 101]
abbrev kJoin : Bs := [106, 111, 105, 110]
abbrev kInvite : Bs := [105, 110, 118, 105, 116, 101]
abbrev kKnock : Bs := [107, 110, 111, 99, 107]
def addIf (c : Bool) (l : List Slt) (s : Slt) : List Slt := if c then addT l s else l
def base3 (e : Ev) : List Slt := [⟨kCreate, []⟩, ⟨kPower, []⟩, ⟨kMember, e.sender⟩]
def needs (e : Ev) : List Slt :=
  if e.type == kCreate then [] else if !(e.type == kMember) then base3 e else
  let l1 := addT (base3 e) ⟨kMember, e.key⟩
  let to := membershipV e.content
  let l2 := addIf (to == kJoin || (to == kInvite || to == kKnock)) l1 ⟨kJoins, []⟩
  let l3 := addIf ((thirdV e.content).2.2 && to == kInvite) l2 ⟨kThirdInv, (thirdV e.content).1⟩
  addIf ((authV e.content).2 && to == kJoin) l3 ⟨kMember, (authV e.content).1⟩
theorem addT_len (l : List Slt) (s : Slt) : (addT l s).length ≤ l.length + 1 := by
  unfold addT; split <;> simp
theorem addIf_len (c : Bool) (l : List Slt) (s : Slt) : (addIf c l s).length ≤ l.length + 1 := by
  unfold addIf; split
  · exact addT_len l s
  · omega
theorem NSt.rbE {σ : Store} {b : Nat} {l : List Slt} (h : NSt σ b l) : ∃ v, look σ.m b = some (.own [v]) ∧ rbE σ v = some (.vsl (l.map sltE) none) := by
  obtain ⟨v, h1, h2, _⟩ := h
  exact ⟨v, h1, h2.rbE⟩
/-- What stands ahead of each stage. -/
def fr4 (e : Ev) (m : Bs) : Fr := [(1, .vptr (evE e).cells 0), (3, .ptr 0 0), (4, .fn 27 [] [.ptr 0 0]), (5, .str m)]
theorem nd_end {σ : Store} {l : List Slt} {r : AV} (h : NSt σ 0 l) (hr : r = .vsl (l.map sltE) none) :
    Ex ipU gU [.code F5_39] [(3, .ptr 0 0)] σ fun fr' σ1 => (resAll fr' σ1 F5.res).bind (rbE σ1) = some r := by
  obtain ⟨v, h1, h2⟩ := h.rbE
  subst hr
  simp only [N4Fb, EXA, Nat.reduceEqDiff, reduceIte, reduceCtorEq, Nat.reduceAdd, Nat.reduceLeDiff, Nat.reduceSub, Nat.reduceMul, Int.reduceEq, Int.reduceBEq, Int.reduceBNe, Int.reduceLT, Int.reduceLE, Nat.reduceLT, VX, readAt_some, h1, h2]
theorem nd_auth {e : Ev} {m : Bs} {σ : Store} {l : List Slt} {r : AV} (hb : e.content.sz < big) (h : NSt σ 0 l) (hl : l.length < 100)
    (hr : r = .vsl ((addIf ((authV e.content).2 && m == kJoin) l ⟨kMember, (authV e.content).1⟩).map sltE) none) :
    Ex ipU gU [.code F5_41] (fr4 e m) σ fun fr' σ1 => (resAll fr' σ1 F5.res).bind (rbE σ1) = some r := by
  have h30 := r_auth e.content hb
  unfold fr4
  simp only [N4Fc, EXA, Nat.reduceEqDiff, reduceIte, reduceCtorEq, Nat.reduceAdd, Nat.reduceLeDiff, Nat.reduceSub, Nat.reduceMul, Int.reduceEq, Int.reduceBEq, Int.reduceBNe, Int.reduceLT, Int.reduceLE, Nat.reduceLT, VX, readAt_some, h30]
  cases hk : (authV e.content).2 with
  | false =>
    simp only [hk, Bool.false_and, addIf, Bool.false_eq_true, if_false] at hr
    simp only [N4Fc, EXA, Nat.reduceEqDiff, reduceIte, reduceCtorEq, Nat.reduceAdd, Nat.reduceLeDiff, Nat.reduceSub, Nat.reduceMul, Int.reduceEq, Int.reduceBEq, Int.reduceBNe, Int.reduceLT, Int.reduceLE, Nat.reduceLT, VX, readAt_some]
    exact nd_end h hr
  | true =>
    cases hj : m == kJoin with
    | false =>
      simp only [hk, hj, Bool.and_false, addIf, Bool.false_eq_true, if_false] at hr
      simp only [N4Fc, EXA, Nat.reduceEqDiff, reduceIte, reduceCtorEq, Nat.reduceAdd, Nat.reduceLeDiff, Nat.reduceSub, Nat.reduceMul, Int.reduceEq, Int.reduceBEq, Int.reduceBNe, Int.reduceLT, Int.reduceLE, Nat.reduceLT, VX, readAt_some, hj]
      exact nd_end h hr
    | true =>
      simp only [hk, hj, Bool.and_self, addIf, if_true] at hr
      obtain ⟨σ1, q1, n1⟩ := c_more σ 0 l ⟨kMember, (authV e.content).1⟩ h (by unfold lim; omega)
      simp only [N4Fc, EXA, Nat.reduceEqDiff, reduceIte, reduceCtorEq, Nat.reduceAdd, Nat.reduceLeDiff, Nat.reduceSub, Nat.reduceMul, Int.reduceEq, Int.reduceBEq, Int.reduceBNe, Int.reduceLT, Int.reduceLE, Nat.reduceLT, VX, readAt_some, hj, q1]
      exact nd_end n1 hr
theorem nd_third {e : Ev} {m : Bs} {σ : Store} {l : List Slt} {r : AV} (hb : e.content.sz < big) (h : NSt σ 0 l) (hl : l.length < 99)
    (hr : r = .vsl ((addIf ((authV e.content).2 && m == kJoin) (addIf ((thirdV e.content).2.2 && m == kInvite) l ⟨kThirdInv, (thirdV e.content).1⟩) ⟨kMember, (authV e.content).1⟩).map sltE) none) :
    Ex ipU gU [.code F5_43] (fr4 e m) σ fun fr' σ1 => (resAll fr' σ1 F5.res).bind (rbE σ1) = some r := by
  have h29 := r_third e.content hb
  unfold fr4
  simp only [N4Fd, EXA, Nat.reduceEqDiff, reduceIte, reduceCtorEq, Nat.reduceAdd, Nat.reduceLeDiff, Nat.reduceSub, Nat.reduceMul, Int.reduceEq, Int.reduceBEq, Int.reduceBNe, Int.reduceLT, Int.reduceLE, Nat.reduceLT, VX, readAt_some, h29]
  have hl2 := addT_len l ⟨kThirdInv, (thirdV e.content).1⟩
  cases hk : (thirdV e.content).2.2 with
  | false =>
    simp only [hk, Bool.false_and, addIf, Bool.false_eq_true, if_false] at hr
    simp only [N4Fd, EXA, Nat.reduceEqDiff, reduceIte, reduceCtorEq, Nat.reduceAdd, Nat.reduceLeDiff, Nat.reduceSub, Nat.reduceMul, Int.reduceEq, Int.reduceBEq, Int.reduceBNe, Int.reduceLT, Int.reduceLE, Nat.reduceLT, VX, readAt_some]
    exact nd_auth hb h (by omega) hr
  | true =>
    cases hj : m == kInvite with
    | false =>
      simp only [hk, hj, Bool.and_false, addIf, Bool.false_eq_true, if_false] at hr
      simp only [N4Fd, EXA, Nat.reduceEqDiff, reduceIte, reduceCtorEq, Nat.reduceAdd, Nat.reduceLeDiff, Nat.reduceSub, Nat.reduceMul, Int.reduceEq, Int.reduceBEq, Int.reduceBNe, Int.reduceLT, Int.reduceLE, Nat.reduceLT, VX, readAt_some, hj]
      exact nd_auth hb h (by omega) hr
    | true =>
      simp only [hk, hj, Bool.and_self, addIf, if_true] at hr
      obtain ⟨σ1, q1, n1⟩ := c_more σ 0 l ⟨kThirdInv, (thirdV e.content).1⟩ h (by unfold lim; omega)
      simp only [N4Fd, EXA, Nat.reduceEqDiff, reduceIte, reduceCtorEq, Nat.reduceAdd, Nat.reduceLeDiff, Nat.reduceSub, Nat.reduceMul, Int.reduceEq, Int.reduceBEq, Int.reduceBNe, Int.reduceLT, Int.reduceLE, Nat.reduceLT, VX, readAt_some, hj, q1]
      exact nd_auth hb n1 (by omega) hr
theorem nd_join {e : Ev} {m : Bs} {σ : Store} {l : List Slt} {r : AV} (hb : e.content.sz < big) (h : NSt σ 0 l) (hl : l.length < 98)
    (hr : r = .vsl ((addIf ((authV e.content).2 && m == kJoin) (addIf ((thirdV e.content).2.2 && m == kInvite) (addIf (m == kJoin || (m == kInvite || m == kKnock)) l ⟨kJoins, []⟩) ⟨kThirdInv, (thirdV e.content).1⟩) ⟨kMember, (authV e.content).1⟩).map sltE) none) :
    Ex ipU gU [.code F5_45] (fr4 e m) σ fun fr' σ1 => (resAll fr' σ1 F5.res).bind (rbE σ1) = some r := by
  unfold fr4
  have hl2 := addT_len l ⟨kJoins, []⟩
  obtain ⟨σ1, q1, n1⟩ := c_more σ 0 l ⟨kJoins, []⟩ h (by unfold lim; omega)
  cases hj : m == kJoin with
  | true =>
    simp only [hj, Bool.true_or, addIf, if_true] at hr
    simp only [N4Fe, EXA, Nat.reduceEqDiff, reduceIte, reduceCtorEq, Nat.reduceAdd, Nat.reduceLeDiff, Nat.reduceSub, Nat.reduceMul, Int.reduceEq, Int.reduceBEq, Int.reduceBNe, Int.reduceLT, Int.reduceLE, Nat.reduceLT, VX, readAt_some, hj, q1]
    exact nd_third hb n1 (by omega) (by simp only [hj, addIf]; exact hr)
  | false =>
  cases hi : m == kInvite with
  | true =>
    simp only [hj, hi, Bool.true_or, Bool.or_true, addIf, if_true] at hr
    simp only [N4Fe, EXA, Nat.reduceEqDiff, reduceIte, reduceCtorEq, Nat.reduceAdd, Nat.reduceLeDiff, Nat.reduceSub, Nat.reduceMul, Int.reduceEq, Int.reduceBEq, Int.reduceBNe, Int.reduceLT, Int.reduceLE, Nat.reduceLT, VX, readAt_some, hj, hi, q1]
    exact nd_third hb n1 (by omega) (by simp only [hj, hi, addIf]; exact hr)
  | false =>
  cases hk : m == kKnock with
  | true =>
    simp only [hj, hi, hk, Bool.or_true, addIf, if_true] at hr
    simp only [N4Fe, EXA, Nat.reduceEqDiff, reduceIte, reduceCtorEq, Nat.reduceAdd, Nat.reduceLeDiff, Nat.reduceSub, Nat.reduceMul, Int.reduceEq, Int.reduceBEq, Int.reduceBNe, Int.reduceLT, Int.reduceLE, Nat.reduceLT, VX, readAt_some, hj, hi, hk, q1]
    exact nd_third hb n1 (by omega) (by simp only [hj, hi, addIf]; exact hr)
  | false =>
    simp only [hj, hi, hk, Bool.or_self, addIf, Bool.false_eq_true, if_false] at hr
    simp only [N4Fe, EXA, Nat.reduceEqDiff, reduceIte, reduceCtorEq, Nat.reduceAdd, Nat.reduceLeDiff, Nat.reduceSub, Nat.reduceMul, Int.reduceEq, Int.reduceBEq, Int.reduceBNe, Int.reduceLT, Int.reduceLE, Nat.reduceLT, VX, readAt_some, hj, hi, hk]
    exact nd_third hb h (by omega) (by simp only [hj, hi, addIf]; exact hr)
theorem r_needs (e : Ev) (hb : e.content.sz < big) : cR 5 [evE e] = some (.vsl ((needs e).map sltE) none) := by
  have h28 := r_membership e.content hb
  refine cR_of (F := F5) rfl ?_
  obtain ⟨r, hr⟩ : ∃ r, r = AV.vsl ((needs e).map sltE) none := ⟨_, rfl⟩
  rw [← hr]
  unfold needs at hr
  cases hc : e.type == kCreate with
  | true =>
    simp only [hc, if_true, List.map_nil] at hr
    simp only [N4Fb, EXA, Nat.reduceEqDiff, reduceIte, reduceCtorEq, Nat.reduceAdd, Nat.reduceLeDiff, Nat.reduceSub, Nat.reduceMul, Int.reduceEq, Int.reduceBEq, Int.reduceBNe, Int.reduceLT, Int.reduceLE, Nat.reduceLT, VX, readAt_some, hc, hr]
  | false =>
  cases hm : !(e.type == kMember) with
  | true =>
    simp only [hc, hm, if_true, Bool.false_eq_true, if_false] at hr
    simp only [N4Fb, EXA, Nat.reduceEqDiff, reduceIte, reduceCtorEq, Nat.reduceAdd, Nat.reduceLeDiff, Nat.reduceSub, Nat.reduceMul, Int.reduceEq, Int.reduceBEq, Int.reduceBNe, Int.reduceLT, Int.reduceLE, Nat.reduceLT, VX, readAt_some, hc, hm, hr]
    rfl
  | false =>
  simp only [hc, hm, Bool.false_eq_true, if_false] at hr
  simp only [N4Ff, EXA, Nat.reduceEqDiff, reduceIte, reduceCtorEq, Nat.reduceAdd, Nat.reduceLeDiff, Nat.reduceSub, Nat.reduceMul, Int.reduceEq, Int.reduceBEq, Int.reduceBNe, Int.reduceLT, Int.reduceLE, Nat.reduceLT, VX, readAt_some, hc, hm]
  obtain ⟨σ1, q1, n1⟩ := c_more ⟨1, [(0, .own [.vsl ((base3 e).map sltE) (some 3)]), (0, .own [.nils])]⟩ 0 (base3 e) ⟨kMember, e.key⟩ ⟨_, rfl, Gr.lit LSlt _ (base3 e), by simp, fun len sz c h => by simp at h⟩ (by simp [base3, lim])
  have l1 := addT_len (base3 e) ⟨kMember, e.key⟩
  have l0 : (base3 e).length = 3 := rfl
  generalize addT (base3 e) ⟨kMember, e.key⟩ = t1 at n1 l1 hr
  simp only [base3, List.map_cons, List.map_nil] at q1
  simp only [N4Ff, EXA, Nat.reduceEqDiff, reduceIte, reduceCtorEq, Nat.reduceAdd, Nat.reduceLeDiff, Nat.reduceSub, Nat.reduceMul, Int.reduceEq, Int.reduceBEq, Int.reduceBNe, Int.reduceLT, Int.reduceLE, Nat.reduceLT, VX, readAt_some, q1, h28]
  exact nd_join hb n1 (by omega) hr
end Go.Ab
/- What is picked of a state. -/
namespace Go.Ab
set_option maxHeartbeats 1000000
def N5Fa := J @F8_4.eq_1 (J @F8_23.eq_1 (J @F8_24.eq_1 (@F8.eq_1)))
set_option maxRecDepth 100000
theorem callR_first (id : Nat) (first args caps : List AV) : callR ipU gU (.fn id first caps) args = callR ipU gU (.fn id [] []) (first ++ args ++ caps) := by
  have e : ∀ n, scall ipU (run ipU gU n) (.fn id first caps) args .empty = scall ipU (run ipU gU n) (.fn id [] []) (first ++ args ++ caps) .empty := fun n => by
    simp only [scall, List.nil_append, List.append_nil]
  have h : callS ipU gU (.fn id first caps) args .empty = callS ipU gU (.fn id [] []) (first ++ args ++ caps) .empty := by
    apply Option.ext
    intro x
    constructor
    · intro hx
      obtain ⟨n, hn⟩ := callS_some.1 hx
      exact callS_some.2 ⟨n, by rw [← e]; exact hn⟩
    · intro hx
      obtain ⟨n, hn⟩ := callS_some.1 hx
      exact callS_some.2 ⟨n, by rw [e]; exact hn⟩
  unfold callR
  rw [h]
theorem chain3 (c1 c2 c3 : Bool) (l : List Slt) (s1 s2 s3 : Slt) : (addIf c3 (addIf c2 (addIf c1 l s1) s2) s3).length ≤ l.length + 3 := by
  have h1 := addIf_len c1 l s1
  have h2 := addIf_len c2 (addIf c1 l s1) s2
  have h3 := addIf_len c3 (addIf c2 (addIf c1 l s1) s2) s3
  omega
theorem needs_len (e : Ev) : (needs e).length ≤ 7 := by
  unfold needs
  split
  · simp
  · split
    · simp [base3]
    · have l0 : (base3 e).length = 3 := rfl
      have a1 := addT_len (base3 e) ⟨kMember, e.key⟩
      exact Nat.le_trans (chain3 _ _ _ _ _ _ _) (by omega)
/-- The numbers of the events in the slots. -/
def pickF (l : List Ev) (ns : List Slt) : List Bs := ns.filterMap fun s => (l.find? (isAt s)).map (·.id)
theorem pickF_cons (l : List Ev) (s : Slt) (ns : List Slt) : pickF l (s :: ns) = match l.find? (isAt s) with
    | some e => e.id :: pickF l ns
    | none => pickF l ns := by
  unfold pickF
  rw [List.filterMap_cons]
  cases l.find? (isAt s) <;> rfl
theorem r_pick (l : List Ev) (e : Ev) (hb : e.content.sz < big) (hlen0 : l.length < big) (hs : ∀ x ∈ l, x.prev.length < lim ∧ x.auth.length < lim) :
    cR 8 [.vsl (l.map evE) none, evE e] = some (.vsl ((pickF l (needs e)).map .str) none) := by
  have h5 := r_needs e hb
  have hn7 := needs_len e
  refine cR_of (F := F8) rfl ?_
  generalize needs e = ns at h5 hn7 ⊢
  simp only [F8_4, F8_23, F8, ex_loop, EXA, Nat.reduceEqDiff, reduceIte, reduceCtorEq, Nat.reduceAdd, Nat.reduceLeDiff, Nat.reduceSub, Nat.reduceMul, Int.reduceEq, Int.reduceBEq, Int.reduceBNe, Int.reduceLT, Int.reduceLE, Nat.reduceLT, VX, readAt_some, h5]
  refine ex_whileI (S := Nat × List Bs × AV) (fun p => [(5, .fn 26 [.vsl (l.map evE) none] []), (6, p.2.2), (14, .vsl (ns.map sltE) none), (15, .int .i64 ns.length), (16, .int .i64 (p.1 : Int))]) (fun p => ns.length - p.1)
    (fun p σ => Gr LStr σ p.2.2 p.2.1 ∧ p.2.1.length ≤ p.1 ∧ p.2.1 ++ pickF l (ns.drop p.1) = pickF l ns) ?_ (0, [], .nils) _ ⟨Gr.nil LStr _, by simp, rfl⟩
  rintro b ⟨j, acc, v⟩ σ ⟨hg, hlen, hj⟩ ih
  simp only at hg hlen hj ih ⊢
  by_cases hlt : j < ns.length
  · obtain ⟨x, hx⟩ := get_lt hlt
    have hidx := idx_slt (c := none) hx
    have hcond := dlt hlt
    have hr := r_of l x hlen0 hs
    have hr2 : callR ipU gU (.fn 26 [.vsl (l.map evE) none] []) [sltE x] = some (.tup [evE (ofE l x).1, .bool (ofE l x).2]) := by rw [callR_first]; exact hr
    rw [drop_cons hx, pickF_cons] at hj
    have hw := wsucc hlt (by omega)
    have hn := hg.newset
    have hn2 := fun a b c d => (hn a b).newset c d
    cases hf : l.find? (isAt x) with
    | none =>
      rw [ofE_none hf] at hr2
      simp only [hf] at hj
      simp only [N5Fa, EXA, Nat.reduceEqDiff, reduceIte, reduceCtorEq, Nat.reduceAdd, Nat.reduceLeDiff, Nat.reduceSub, Nat.reduceMul, Int.reduceEq, Int.reduceBEq, Int.reduceBNe, Int.reduceLT, Int.reduceLE, Nat.reduceLT, VX, readAt_some, hcond, hidx, Slt.eta, hr2, hw]
      exact ih (j + 1, acc, v) _ _ (by simp; omega) ⟨hn2 _ _ _ _, by simp; omega, hj⟩ (by simp only [EXA, Nat.reduceEqDiff, reduceIte, reduceCtorEq, Nat.reduceAdd, Nat.reduceLeDiff, Nat.reduceSub, Nat.reduceMul, Int.reduceEq, Int.reduceBEq, Int.reduceBNe, Int.reduceLT, Int.reduceLE, Nat.reduceLT])
    | some y =>
      rw [ofE_some hf] at hr2
      simp only [hf] at hj
      have happ : ∀ a b c d, appendTo _ 1 16 v [.str y.id] 1 = some _ := fun a b c d => (hn2 a b c d).push (a := y.id) (bytes := 16) (by omega) (by unfold maxBytes; omega)
      have hlo : lenOf (.vsl [.str y.id] (some 1)) = some 1 := rfl
      have hro : ∀ σ', rowOf σ' 1 (.vsl [.str y.id] (some 1)) = some [.str y.id] := fun _ => rfl
      simp only [N5Fa, EXA, Nat.reduceEqDiff, reduceIte, reduceCtorEq, Nat.reduceAdd, Nat.reduceLeDiff, Nat.reduceSub, Nat.reduceMul, Int.reduceEq, Int.reduceBEq, Int.reduceBNe, Int.reduceLT, Int.reduceLE, Nat.reduceLT, VX, readAt_some, hcond, hidx, Slt.eta, hr2, happ, hlo, hro, hw]
      exact ih (j + 1, acc ++ [y.id], _) _ _ (by simp; omega) ⟨Gr.own ((hn2 _ _ _ _).next (by simp)), by simp; omega, by simpa using hj⟩ (by simp only [EXA, Nat.reduceEqDiff, reduceIte, reduceCtorEq, Nat.reduceAdd, Nat.reduceLeDiff, Nat.reduceSub, Nat.reduceMul, Int.reduceEq, Int.reduceBEq, Int.reduceBNe, Int.reduceLT, Int.reduceLE, Nat.reduceLT]; rfl)
  · have hcond := dge (Nat.not_lt.1 hlt)
    rw [List.drop_eq_nil_of_le (by omega)] at hj
    have hj2 : acc = pickF l ns := by simpa [pickF] using hj
    have hrb := hg.rbE
    simp only [N5Fa, EXA, Nat.reduceEqDiff, reduceIte, reduceCtorEq, Nat.reduceAdd, Nat.reduceLeDiff, Nat.reduceSub, Nat.reduceMul, Int.reduceEq, Int.reduceBEq, Int.reduceBNe, Int.reduceLT, Int.reduceLE, Nat.reduceLT, VX, hcond, hrb, hj2]
    rfl
end Go.Ab
/- What fits; finding an event by its number. -/
namespace Go.Ab
set_option maxHeartbeats 1000000
set_option maxRecDepth 100000
end Go.Ab
/- How great a value is, as the laws reckon it. -/
namespace Go.Ab
set_option maxHeartbeats 1000000
def N7Fb := J @F47_12.eq_1 (J @F47_18.eq_1 (J @F47_19.eq_1 (J @F47_28.eq_1 (J @F47_34.eq_1 (J @F47_35.eq_1 (J @F47_39.eq_1 (J @F47_42.eq_1 (J @F47_43.eq_1 (@F47.eq_1)))))))))
def N7Fc := J @F47_12.eq_1 (J @F47_18.eq_1 (J @F47_28.eq_1 (J @F47_34.eq_1 (J @F47_35.eq_1 (J @F47_39.eq_1 (J @F47_42.eq_1 (@F47.eq_1)))))))
def N7Fe := J @F47_12.eq_1 (J @F47_18.eq_1 (J @F47_19.eq_1 (J @F47_28.eq_1 (J @F47_34.eq_1 (J @F47_35.eq_1 (J @F47_39.eq_1 (J @F47_42.eq_1 (@F47.eq_1))))))))
set_option maxRecDepth 100000
abbrev W (n : Int) : Int := IntKind.wrap .i64 n
mutual
def wt : V → Int → Int → Int
  | .mk _ _ s l m, d, t => if decide (d > 70) = true then W (t + 1) else wtM m d t (wtL l d t (W (1 + (s.length : Int))))
def wtL : List V → Int → Int → Int → Int
  | [], _, _, a => a
  | v :: r, d, t, a => if decide (a ≤ t) = true then wtL r d t (W (a + wt v (W (d + 1)) t)) else a
def wtM : List (Bs × V) → Int → Int → Int → Int
  | [], _, _, a => a
  | (k, v) :: r, d, t, a => if decide (a ≤ t) = true then wtM r d t (W (a + W ((k.length : Int) + wt v (W (d + 1)) t))) else a
end
theorem wtM_cons (x : Mem) (r : List Mem) (d t a : Int) : wtM (x :: r) d t a = if decide (a ≤ t) = true then wtM r d t (W (a + W ((x.1.length : Int) + wt x.2 (W (d + 1)) t))) else a := by
  cases x; rw [wtM]
theorem wt_eq (v : V) (d t : Int) : wt v d t = if decide (d > 70) = true then W (t + 1) else wtM v.m d t (wtL v.l d t (W (1 + (v.s.length : Int)))) := by
  cases v; rw [wt]; rfl
theorem wt_tail (v : V) (d t a : Int) (σ : Store) (hb : v.sz < big) (ih : ∀ x ∈ v.m, ∀ d t : Int, cR 47 [x.2.enc, .int .i64 d, .int .i64 t] = some (.int .i64 (wt x.2 d t))) {r : AV} (hr : r = .int .i64 (wtM v.m d t a)) :
    Ex ipU gU [.code F47_43] [(1, .int .i64 d), (2, .int .i64 t), (3, .vptr [.int .i64 v.kind, .int .i64 v.n, .str v.s, .vsl (v.l.map V.enc) none, .vsl (v.m.map memE) none] 0), (7, .int .i64 a)] σ fun fr' σ1 => (resAll fr' σ1 F47.res).bind (rbE σ1) = some r := by
  have hm := m_len_sz v
  unfold big at hb
  simp only [F47_12, F47_18, F47_19, F47_28, F47_34, F47_39, F47_42, F47_43, F47, ex_loop, EXA, Nat.reduceEqDiff, reduceIte, reduceCtorEq, Nat.reduceAdd, Nat.reduceLeDiff, Nat.reduceSub, Nat.reduceMul, Int.reduceEq, Int.reduceBEq, Int.reduceBNe, Int.reduceLT, Int.reduceLE, Nat.reduceLT, VX, readAt_some]
  refine ex_whileI (S := Nat × Int) (fun p => [(1, .int .i64 d), (2, .int .i64 t), (3, .vptr [.int .i64 v.kind, .int .i64 v.n, .str v.s, .vsl (v.l.map V.enc) none, .vsl (v.m.map memE) none] 0), (7, .int .i64 p.2), (9, .int .i64 (p.1 : Int))]) (fun p => v.m.length - p.1)
    (fun p _ => wtM (v.m.drop p.1) d t p.2 = wtM v.m d t a) ?_ (0, a) _ rfl
  rintro b ⟨j, c⟩ σ hj ih2
  simp only at hj ih2 ⊢
  by_cases hlt : j < v.m.length
  · obtain ⟨x, hx⟩ := get_lt hlt
    have hidx := idx_map (f := memE) (sz := 6) (c := none) hx (by simp [memE_cells])
    have hcond := dlt hlt
    have hcall := ih x (List.mem_of_getElem? hx)
    rw [drop_cons hx, wtM_cons] at hj
    cases ha : decide (c ≤ t) with
    | true =>
      simp only [ha, if_true] at hj
      simp only [N7Fb, EXA, Nat.reduceEqDiff, reduceIte, reduceCtorEq, Nat.reduceAdd, Nat.reduceLeDiff, Nat.reduceSub, Nat.reduceMul, Int.reduceEq, Int.reduceBEq, Int.reduceBNe, Int.reduceLT, Int.reduceLE, Nat.reduceLT, VX, readAt_some, hcond, hidx, hcall, ha]
      exact ih2 (j + 1, W (c + W ((x.1.length : Int) + wt x.2 (W (d + 1)) t))) _ _ (by simp; omega) hj (by rw [wsucc hlt (by omega)]; simp only [EXA, Nat.reduceEqDiff, reduceIte, reduceCtorEq, Nat.reduceAdd, Nat.reduceLeDiff, Nat.reduceSub, Nat.reduceMul, Int.reduceEq, Int.reduceBEq, Int.reduceBNe, Int.reduceLT, Int.reduceLE, Nat.reduceLT, VX])
    | false =>
      simp only [ha, Bool.false_eq_true, if_false] at hj
      rw [← hj] at hr
      simp only [N7Fb, EXA, Nat.reduceEqDiff, reduceIte, reduceCtorEq, Nat.reduceAdd, Nat.reduceLeDiff, Nat.reduceSub, Nat.reduceMul, Int.reduceEq, Int.reduceBEq, Int.reduceBNe, Int.reduceLT, Int.reduceLE, Nat.reduceLT, VX, readAt_some, hcond, ha, hr]
  · have hcond := dge (Nat.not_lt.1 hlt)
    rw [List.drop_eq_nil_of_le (by omega), wtM] at hj
    rw [← hj] at hr
    simp only [N7Fb, EXA, Nat.reduceEqDiff, reduceIte, reduceCtorEq, Nat.reduceAdd, Nat.reduceLeDiff, Nat.reduceSub, Nat.reduceMul, Int.reduceEq, Int.reduceBEq, Int.reduceBNe, Int.reduceLT, Int.reduceLE, Nat.reduceLT, VX, readAt_some, hcond, hr]
theorem r_weightN : ∀ (n : Nat) (v : V), v.sz < n → v.sz < big → ∀ d t : Int, cR 47 [v.enc, .int .i64 d, .int .i64 t] = some (.int .i64 (wt v d t)) := by
  intro n
  induction n with
  | zero => intro v h; omega
  | succ n ih =>
    intro v h hb d t
    have hsz := v.sz_eq
    have hl := szL_len v.l
    have ihL : ∀ x ∈ v.l, ∀ d t : Int, cR 47 [x.enc, .int .i64 d, .int .i64 t] = some (.int .i64 (wt x d t)) := fun x hx => by
      have := szL_mem hx
      exact ih x (by omega) (by omega)
    have ihM : ∀ x ∈ v.m, ∀ d t : Int, cR 47 [x.2.enc, .int .i64 d, .int .i64 t] = some (.int .i64 (wt x.2 d t)) := fun x hx => by
      have := szM_mem hx
      exact ih x.2 (by omega) (by omega)
    refine cR_of (F := F47) rfl ?_
    obtain ⟨r, hr⟩ : ∃ r, r = AV.int .i64 (wt v d t) := ⟨_, rfl⟩
    rw [← hr]
    rw [wt_eq] at hr
    cases hd : decide (d > 70) with
    | true =>
      simp only [hd, if_true] at hr
      simp only [N7Fc, EXA, Nat.reduceEqDiff, reduceIte, reduceCtorEq, Nat.reduceAdd, Nat.reduceLeDiff, Nat.reduceSub, Nat.reduceMul, Int.reduceEq, Int.reduceBEq, Int.reduceBNe, Int.reduceLT, Int.reduceLE, Nat.reduceLT, VX, readAt_some, hd, hr]
    | false =>
    simp only [hd, Bool.false_eq_true, if_false] at hr
    unfold big at hb
    simp only [N7Fc, ex_loop, EXA, Nat.reduceEqDiff, reduceIte, reduceCtorEq, Nat.reduceAdd, Nat.reduceLeDiff, Nat.reduceSub, Nat.reduceMul, Int.reduceEq, Int.reduceBEq, Int.reduceBNe, Int.reduceLT, Int.reduceLE, Nat.reduceLT, VX, readAt_some, hd]
    refine ex_whileI (S := Nat × Int) (fun p => [(1, .int .i64 d), (2, .int .i64 t), (3, .vptr [.int .i64 v.kind, .int .i64 v.n, .str v.s, .vsl (v.l.map V.enc) none, .vsl (v.m.map memE) none] 0), (7, .int .i64 p.2), (8, .int .i64 (p.1 : Int))]) (fun p => v.l.length - p.1)
      (fun p _ => wtL (v.l.drop p.1) d t p.2 = wtL v.l d t (W (1 + (v.s.length : Int)))) ?_ (0, _) _ rfl
    rintro b ⟨j, c⟩ σ hj ih2
    simp only at hj ih2 ⊢
    by_cases hlt : j < v.l.length
    · obtain ⟨x, hx⟩ := get_lt hlt
      have hidx := idx_map (f := V.enc) (sz := 5) (c := none) hx (by simp [V.enc_cells])
      have hcond := dlt hlt
      have hcall := ihL x (List.mem_of_getElem? hx)
      rw [drop_cons hx, wtL] at hj
      cases ha : decide (c ≤ t) with
      | true =>
        simp only [ha, if_true] at hj
        simp only [N7Fe, EXA, Nat.reduceEqDiff, reduceIte, reduceCtorEq, Nat.reduceAdd, Nat.reduceLeDiff, Nat.reduceSub, Nat.reduceMul, Int.reduceEq, Int.reduceBEq, Int.reduceBNe, Int.reduceLT, Int.reduceLE, Nat.reduceLT, VX, readAt_some, hcond, hidx, hcall, ha]
        exact ih2 (j + 1, W (c + wt x (W (d + 1)) t)) _ _ (by simp; omega) hj (by rw [wsucc hlt (by omega)]; simp only [EXA, Nat.reduceEqDiff, reduceIte, reduceCtorEq, Nat.reduceAdd, Nat.reduceLeDiff, Nat.reduceSub, Nat.reduceMul, Int.reduceEq, Int.reduceBEq, Int.reduceBNe, Int.reduceLT, Int.reduceLE, Nat.reduceLT, VX])
      | false =>
        simp only [ha, Bool.false_eq_true, if_false] at hj
        rw [← hj] at hr
        simp only [N7Fe, EXA, Nat.reduceEqDiff, reduceIte, reduceCtorEq, Nat.reduceAdd, Nat.reduceLeDiff, Nat.reduceSub, Nat.reduceMul, Int.reduceEq, Int.reduceBEq, Int.reduceBNe, Int.reduceLT, Int.reduceLE, Nat.reduceLT, VX, readAt_some, hcond, ha]
        exact wt_tail v d t c _ hb ihM hr
    · have hcond := dge (Nat.not_lt.1 hlt)
      rw [List.drop_eq_nil_of_le (by omega), wtL] at hj
      rw [← hj] at hr
      simp only [N7Fe, EXA, Nat.reduceEqDiff, reduceIte, reduceCtorEq, Nat.reduceAdd, Nat.reduceLeDiff, Nat.reduceSub, Nat.reduceMul, Int.reduceEq, Int.reduceBEq, Int.reduceBNe, Int.reduceLT, Int.reduceLE, Nat.reduceLT, VX, readAt_some, hcond]
      exact wt_tail v d t c _ hb ihM hr
def lightV (v : V) (t : Int) : Bool := decide (wt v 0 t ≤ t)
theorem r_lightV (v : V) (t : Int) (hb : v.sz < big) : cR 24 [v.enc, .int .i64 t] = some (.bool (lightV v t)) := by
  have h := r_weightN (v.sz + 1) v (Nat.lt_succ_self _) hb
  refine cR_of (F := F24) rfl ?_
  simp only [F24, EXA, Nat.reduceEqDiff, reduceIte, reduceCtorEq, Nat.reduceAdd, Nat.reduceLeDiff, Nat.reduceSub, Nat.reduceMul, Int.reduceEq, Int.reduceBEq, Int.reduceBNe, Int.reduceLT, Int.reduceLE, Nat.reduceLT, VX, readAt_some, h, lightV]
end Go.Ab
