/- What functions of the program, and of the library, answer. Conditions: none. -/
import Derived.Test.YtgckcnggblomgaaDoorLaw8
import Derived.Test.YtgckcnggblomgaaDoorLaw7
import Derived.Test.YtgckcnggblomgaaDoorLaw6
set_option linter.unusedVariables false
set_option linter.unusedSimpArgs false
set_option linter.defProp false
/- The document's: an invite of a third kind, who speaks for somebody. -/
namespace Go.Ab
set_option linter.unusedSimpArgs false
set_option linter.defProp false
set_option maxHeartbeats 1000000
def S14Fb := And.intro @F33_0.eq_1 (And.intro @F33_1.eq_1 (And.intro @F33_2.eq_1 (And.intro @F33_3.eq_1 (And.intro @F33_4.eq_1 (And.intro @F33_5.eq_1 (And.intro @F33_6.eq_1 (And.intro @F33_7.eq_1 (And.intro @F33_8.eq_1 (And.intro @F33_9.eq_1 (And.intro @F33_10.eq_1 (And.intro @F33_11.eq_1 (And.intro @F33_12.eq_1 (And.intro @F33_13.eq_1 (And.intro @F33_14.eq_1 (And.intro @F33_15.eq_1 (@F33.eq_1))))))))))))))))
def S14Fc := And.intro @F57_0.eq_1 (And.intro @F57_1.eq_1 (And.intro @F57_2.eq_1 (And.intro @F57_3.eq_1 (And.intro @F57_4.eq_1 (And.intro @F57_5.eq_1 (And.intro @F57_6.eq_1 (And.intro @F57_7.eq_1 (And.intro @F57_8.eq_1 (And.intro @F57_9.eq_1 (And.intro @F57_10.eq_1 (And.intro @F57_11.eq_1 (And.intro @F57_12.eq_1 (And.intro @F57_13.eq_1 (And.intro @F57_14.eq_1 (And.intro @F57_15.eq_1 (And.intro @F57_16.eq_1 (And.intro @F57_17.eq_1 (And.intro @F57_18.eq_1 (And.intro @F57_19.eq_1 (@F57.eq_1))))))))))))))))))))
set_option maxRecDepth 100000
theorem getR_fine {v : V} (k : Bs) (hf : v.fine = true) : getR v k = getV v k := by
  unfold getR
  by_cases h5 : v.kind = 5
  · rw [if_pos h5, getV_rises k h5 (fine_rises h5 hf)]
    cases lookM v.m k <;> rfl
  · rw [if_neg h5, getV_other k h5]
theorem lookM_mem {k : Bs} {x : V} : ∀ {m : List Mem}, lookM m k = some x → ∃ e ∈ m, e.2 = x
  | [], h => by simp [lookM] at h
  | (a, y) :: m, h => by
    rw [lookM] at h
    split at h
    · exact ⟨(a, y), by simp, Option.some.inj h⟩
    · obtain ⟨e, he, hx⟩ := lookM_mem h
      exact ⟨e, by simp [he], hx⟩
theorem V.zero_fine : V.zero.fine = true := by rw [V.fine_eq]; decide
theorem fine_m {v : V} (h5 : v.kind = 5) (h : v.fine = true) : fineM none v.m = true := by
  rw [V.fine_eq, h5] at h
  simp only [Int.reduceEq, if_false, if_true] at h
  simp only [Bool.and_eq_true] at h
  exact h.2
theorem getR_fineV {v : V} (k : Bs) (hf : v.fine = true) : (getR v k).1.fine = true := by
  unfold getR
  by_cases h5 : v.kind = 5
  · rw [if_pos h5]
    cases hl : lookM v.m k with
    | none => exact V.zero_fine
    | some x =>
      obtain ⟨e, he, hx⟩ := lookM_mem hl
      rw [← hx]
      exact (fineM_mem (fine_m h5 hf) e he).1
  · rw [if_neg h5]; exact V.zero_fine
theorem getR_sz (v : V) (k : Bs) : (getR v k).1.sz ≤ v.sz := by
  unfold getR
  have hz := V.zero_sz
  have hp := v.sz_pos
  split
  · cases hl : lookM v.m k with
    | none => simp only; omega
    | some x =>
      obtain ⟨e, he, hx⟩ := lookM_mem hl
      have := szM_mem he
      have := v.sz_eq
      rw [hx] at *
      simp only; omega
  · simp only; omega
theorem textR_fine {v : V} (k : Bs) (h : v.fine = true) : textR v k = textAt v k := by
  unfold textR textAt
  rw [getR_fine k h]
def signedR (c : V) : V × Bool := if c.good = true then ((getR (getR c kThird).1 kSigned).1, (getR (getR c kThird).1 kSigned).2 && (getR (getR c kThird).1 kSigned).1.kind == 5) else (V.zero, false)
theorem r_refSigned (c : V) (hb : c.sz < big) : cR 57 [c.enc] = some (.tup [(signedR c).1.enc, .bool (signedR c).2]) := by
  have h1 := r_refGood c hb
  have h2 := r_refGet c kThird hb
  have z2 := getR_sz c kThird
  unfold signedR
  generalize getR c kThird = t at h2 z2 ⊢
  have h3 := r_refGet t.1 kSigned (by omega)
  generalize getR t.1 kSigned = s at h3 ⊢
  obtain ⟨x, ok⟩ := s
  simp only at h3 ⊢
  simp only [kThird, kSigned] at h2 h3
  refine cR_of (F := F57) rfl ?_
  cases hg : c.good with
  | false =>
    rw [hg] at h1
    simp only [S14Fc, EXA, Nat.reduceEqDiff, reduceIte, reduceCtorEq, Nat.reduceAdd, Nat.reduceLeDiff, Nat.reduceSub, Nat.reduceMul, Int.reduceEq, Int.reduceBEq, Int.reduceBNe, Int.reduceLT, Int.reduceLE, Nat.reduceLT, EXF, VX, readAt_some, h1, Bool.false_eq_true, if_false, V.zero_enc]
  | true =>
    rw [hg] at h1
    cases ok with
    | false => simp only [S14Fc, EXA, Nat.reduceEqDiff, reduceIte, reduceCtorEq, Nat.reduceAdd, Nat.reduceLeDiff, Nat.reduceSub, Nat.reduceMul, Int.reduceEq, Int.reduceBEq, Int.reduceBNe, Int.reduceLT, Int.reduceLE, Nat.reduceLT, EXF, VX, readAt_some, h1, h2, h3, if_true, Bool.false_and]
    | true => simp only [S14Fc, EXA, Nat.reduceEqDiff, reduceIte, reduceCtorEq, Nat.reduceAdd, Nat.reduceLeDiff, Nat.reduceSub, Nat.reduceMul, Int.reduceEq, Int.reduceBEq, Int.reduceBNe, Int.reduceLT, Int.reduceLE, Nat.reduceLT, EXF, VX, readAt_some, h1, h2, h3, if_true, Bool.true_and]
def thirdR (c : V) : Bs × Bs × Bool := if (signedR c).2 = true ∧ (textR (signedR c).1 kToken).2 = true ∧ (textR (signedR c).1 kMxid).2 = true then ((textR (signedR c).1 kToken).1, (textR (signedR c).1 kMxid).1, true) else ([], [], false)
theorem signedR_sz (c : V) : (signedR c).1.sz ≤ c.sz := by
  unfold signedR
  have h1 := getR_sz c kThird
  have h2 := getR_sz (getR c kThird).1 kSigned
  have hz := V.zero_sz
  have hp := c.sz_pos
  split <;> simp only <;> omega
theorem r_refThird (c : V) (hb : c.sz < big) : cR 32 [c.enc] = some (.tup [.str (thirdR c).1, .str (thirdR c).2.1, .bool (thirdR c).2.2]) := by
  have h1 := r_refSigned c hb
  have z1 := signedR_sz c
  unfold thirdR
  generalize signedR c = t at h1 z1 ⊢
  obtain ⟨x, ok⟩ := t
  simp only at h1 z1 ⊢
  have h2 := r_refTextAt x kToken (by omega)
  have h3 := r_refTextAt x kMxid (by omega)
  generalize textR x kToken = a at h2 ⊢
  generalize textR x kMxid = b at h3 ⊢
  obtain ⟨a1, a2⟩ := a
  obtain ⟨b1, b2⟩ := b
  simp only at h2 h3 ⊢
  simp only [kToken, kMxid] at h2 h3
  refine cR_of (F := F32) rfl ?_
  cases ok <;> cases a2 <;> cases b2 <;> simp only [F32_0, F32_1, F32_2, F32_3, F32_4, F32_5, F32_6, F32_7, F32_8, F32_9, F32_10, F32_11, F32_12, F32_13, F32_14, F32_15, F32_16, F32_17, F32_18, F32_19, F32_20, F32_21, F32, EXA, Nat.reduceEqDiff, reduceIte, reduceCtorEq, Nat.reduceAdd, Nat.reduceLeDiff, Nat.reduceSub, Nat.reduceMul, Int.reduceEq, Int.reduceBEq, Int.reduceBNe, Int.reduceLT, Int.reduceLE, Nat.reduceLT, VX, readAt_some, h1, h2, h3, Bool.false_eq_true, and_true, and_false, false_and, if_true, if_false]
theorem getV_zero (k : Bs) : getV V.zero k = (V.zero, false) := getV_other k (by simp [V.zero, V.kind])
theorem thirdR_eq (c : V) : thirdR c = thirdV c := by
  have h0 : thirdV V.zero = ([], [], false) := by
    have hs : said V.zero = V.zero := by unfold said; simp
    unfold thirdV signedV tableV
    rw [hs, getV_zero]
    simp [getV_zero]
  have hsd : ∀ v : V, said v = V.zero → thirdV v = ([], [], false) := by
    intro v hv
    have hs : said V.zero = V.zero := by unfold said; simp
    rw [← h0]
    unfold thirdV signedV
    rw [hs, hv]
  by_cases hg : c.good = true
  · have hf : c.fine = true := by unfold V.good at hg; simp at hg; exact hg.1
    have f1 := getR_fineV kThird hf
    have f2 := getR_fineV kSigned f1
    have e1 := getR_fine kThird hf
    have e2 := getR_fine kSigned f1
    unfold thirdR signedR
    rw [if_pos hg]
    simp only [textR_fine _ f2]
    by_cases h5 : c.kind = 5
    · have hs : said c = c := by unfold said; exact if_pos (by simp [hg, h5])
      unfold thirdV signedV
      rw [hs]
      rw [e1] at e2 f2 f1 ⊢
      rw [e2] at f2 ⊢
      unfold tableV
      generalize hq : getV c kThird = t at *
      obtain ⟨x, a⟩ := t
      simp only at *
      by_cases hx5 : x.kind = 5
      · have hb : (x.kind == 5) = true := by simp [hx5]
        cases a with
        | false =>
          exfalso
          unfold getR at e1
          rw [if_pos h5] at e1
          cases hl : lookM c.m kThird with
          | none => rw [hl] at e1; simp only [Prod.mk.injEq] at e1; rw [← e1.1] at hx5; simp [V.zero, V.kind] at hx5
          | some y => rw [hl] at e1; simp at e1
        | true =>
          simp only [hb, Bool.and_self, if_true]
          generalize getV x kSigned = s
          obtain ⟨y, b⟩ := s
          simp only
          cases b with
          | false => simp [getV_zero]
          | true =>
            cases hy : y.kind == 5 with
            | false => simp
            | true => simp [and_assoc]
      · have hb : (x.kind == 5) = false := by simp [hx5]
        simp only [hb, Bool.and_false, Bool.false_eq_true, if_false, getV_zero, getV_other kSigned hx5]
        simp
    · have hs : said c = V.zero := by unfold said; exact if_neg (by simp [h5])
      rw [hsd c hs, e2, e1, getV_other kThird h5]
      simp [getV_zero]
  · have hs : said c = V.zero := by unfold said; exact if_neg (by simp [hg])
    rw [hsd c hs]
    unfold thirdR signedR
    rw [if_neg hg]
    simp
theorem r_refAuth (c : V) (hb : c.sz < big) : cR 33 [c.enc] = some (.tup [.str (authV c).1, .bool (authV c).2]) := by
  have h1 := r_refText c kAuthd hb
  have z1 := said_sz c
  have z2 := textAt_len (said c) kAuthd
  have hno : (textAt (said c) kAuthd).2 = false → (textAt (said c) kAuthd).1 = [] := by
    intro h
    unfold textAt at h ⊢
    split at h
    · simp at h
    · rename_i hh; rw [if_neg hh]
  unfold authV
  generalize textAt (said c) kAuthd = t at h1 z2 hno ⊢
  obtain ⟨s, ok⟩ := t
  simp only at h1 z2 hno ⊢
  have h2 := r_refIsUser s (by omega)
  simp only [kAuthd] at h1
  refine cR_of (F := F33) rfl ?_
  cases ok with
  | false =>
    have : (partsB s 64).2.2 = false := by rw [hno rfl]; rfl
    simp only [S14Fb, EXA, Nat.reduceEqDiff, reduceIte, reduceCtorEq, Nat.reduceAdd, Nat.reduceLeDiff, Nat.reduceSub, Nat.reduceMul, Int.reduceEq, Int.reduceBEq, Int.reduceBNe, Int.reduceLT, Int.reduceLE, Nat.reduceLT, VX, readAt_some, h1, this, Bool.false_eq_true, if_false]
  | true =>
    cases hp : (partsB s 64).2.2 with
    | false =>
      rw [hp] at h2
      simp only [S14Fb, EXA, Nat.reduceEqDiff, reduceIte, reduceCtorEq, Nat.reduceAdd, Nat.reduceLeDiff, Nat.reduceSub, Nat.reduceMul, Int.reduceEq, Int.reduceBEq, Int.reduceBNe, Int.reduceLT, Int.reduceLE, Nat.reduceLT, VX, readAt_some, h1, h2, Bool.false_eq_true, if_false]
    | true =>
      rw [hp] at h2
      simp only [S14Fb, EXA, Nat.reduceEqDiff, reduceIte, reduceCtorEq, Nat.reduceAdd, Nat.reduceLeDiff, Nat.reduceSub, Nat.reduceMul, Int.reduceEq, Int.reduceBEq, Int.reduceBNe, Int.reduceLT, Int.reduceLE, Nat.reduceLT, VX, readAt_some, h1, h2, if_true]
end Go.Ab
/- RulesAllows: true. -/
namespace Go.Ab
set_option linter.unusedSimpArgs false
set_option linter.defProp false
set_option maxHeartbeats 1000000
set_option maxRecDepth 100000
/-- A slice that may be read as a list. -/
def Rd {α : Type} (L : Lay α) (σ : Store) (v : AV) (l : List α) : Prop :=
  (v = .nils ∧ l = []) ∨ (∃ b, v = .sl b 0 l.length L.sz none ∧ σ.cells b = some (L.cells l) ∧ b < σ.next) ∨ v = .vsl (l.map L.f) (some l.length)
section
variable {α : Type} {L : Lay α} {σ : Store} {v : AV} {l : List α}
theorem Gr.rd (h : Gr L σ v l) : Rd L σ v l := by
  rcases h with h | ⟨b, rfl, h⟩ | h
  · exact .inl h
  · exact .inr (.inl ⟨b, rfl, by have := h.1; simp [Store.cells, this], h.lt⟩)
  · exact .inr (.inr h)
theorem freeze_cells (σ : Store) (b : Nat) : σ.freeze.cells b = σ.cells b := by
  have e : σ.freeze.get b = (σ.get b).map fun x => match x with | .own cs => .frz cs | x => x := by
    unfold Store.freeze Store.get
    simp only
    induction σ.m with
    | nil => rfl
    | cons p l ih =>
      obtain ⟨i, x⟩ := p
      simp only [List.map_cons, look]
      by_cases h : i = b
      · rw [if_pos h, if_pos h]; rfl
      · rw [if_neg h, if_neg h]; exact ih
  unfold Store.cells
  rw [e]
  cases σ.get b with
  | none => rfl
  | some x => cases x <;> rfl
theorem Rd.freeze (h : Rd L σ v l) : Rd L σ.freeze v l := by
  rcases h with h | ⟨b, rfl, h, h2⟩ | h
  · exact .inl h
  · exact .inr (.inl ⟨b, rfl, by rw [freeze_cells]; exact h, h2⟩)
  · exact .inr (.inr h)
theorem Rd.newset (h : Rd L σ v l) (cs cs' : List AV) : Rd L { next := σ.next + 1, m := (σ.next, .own cs) :: (σ.next, .own cs') :: σ.m } v l := by
  rcases h with h | ⟨b, rfl, h, h2⟩ | h
  · exact .inl h
  · refine .inr (.inl ⟨b, rfl, ?_, by simp; omega⟩)
    have : Store.get { next := σ.next + 1, m := (σ.next, .own cs) :: (σ.next, .own cs') :: σ.m } b = σ.get b := by
      show look ((σ.next, Blk.own cs) :: (σ.next, .own cs') :: σ.m) b = look σ.m b
      simp only [look]; rw [if_neg (by omega), if_neg (by omega)]
    unfold Store.cells at h ⊢
    rw [this]; exact h
  · exact .inr (.inr h)
theorem Rd.rb (h : Rd L σ v l) : ∃ v', Go.Ab.rb σ rbDepth v = some v' ∧ v'.er = .vsl (l.map L.f) none := by
  rcases h with ⟨rfl, rfl⟩ | ⟨b, rfl, h, _⟩ | rfl
  · exact ⟨_, rfl, by simp only [AV.er]; rfl⟩
  · refine ⟨_, rb_sl (d := 23) h (L.cells_len l) L.pos (L.cells_closed l) (one_notAgg (L.cells_one l)), ?_⟩
    rw [L.chunks]; simp only [AV.er, L.erMap]
  · refine ⟨_, rb_closed' (by simp only [AV.closed]; exact closedL_map fun a _ => L.closed a), ?_⟩
    simp only [AV.er, L.erMap]
/-- A call of one slice of one's own, whose answer bears memory. -/
theorem Rd.callF {f : Nat} {r : AV} (h : Rd L σ v l) (hv : v.closed = false) (hc : cR f [.vsl (l.map L.f) none] = some r) (hr : r.flat = false) :
    callP ipU gU false (.fn f [] []) [v] σ = some (r, σ.freeze) := by
  obtain ⟨v', h1, h2⟩ := h.rb
  unfold callP
  rw [rb_closed' rfl]
  simp only [mapO, h1, Option.bind_some, erL, h2, AV.er]
  have : callR ipU gU (.fn f [] []) [.vsl (l.map L.f) none] = some r := hc
  simp only [this, Option.bind_some, hr, closedL, hv, Bool.and_false, Bool.false_and, Bool.or_self, Bool.false_eq_true, if_false]
/-- A call of a closed value and a slice of one's own. -/
theorem Rd.call2 {st : Bool} {f : Nat} {x r : AV} (h : Rd L σ v l) (hx : x.closed = true) (hc : cR f [x.er, .vsl (l.map L.f) none] = some r) (hr : r.flat = true) :
    callP ipU gU st (.fn f [] []) [x, v] σ = some (r, σ) := by
  obtain ⟨v', h1, h2⟩ := h.rb
  refine callP_flat (args' := [x, v']) rfl ?_ ?_ hr
  · simp only [mapO, h1, rb_closed' hx]
  · simp only [erL, h2, AV.er]; exact hc
/-- No block is both's. -/
def Dis (v w : AV) : Prop := ∀ b o len sz c o' len' sz' c', v = .sl b o len sz c → w ≠ .sl b o' len' sz' c'
theorem Gr.other {β : Type} {M : Lay β} {w : AV} {k : List β} {m : List α} (hw : Gr M σ w k) (hv : Gr L σ v l) (hd : Dis v w) : Gr M (grNext L σ v l m) w k := by
  rcases hw with h | ⟨b, rfl, h⟩ | h
  · exact .inl h
  · refine .inr (.inl ⟨b, rfl, h.frame ?_ (by rw [grNext_next]; omega)⟩)
    exact grNext_get hv h.lt (fun len sz c he => hd _ _ _ _ _ _ _ _ _ he rfl)
  · exact .inr (.inr h)
theorem Gr.dis_next {β : Type} {M : Lay β} {w : AV} {k : List β} (hw : Gr M σ w k) (o len sz : Nat) (c : Option Nat) : Dis (.sl σ.next o len sz c) w := by
  intro b o1 len1 sz1 c1 o' len' sz' c' h1 h2
  simp only [AV.sl.injEq] at h1
  rcases hw with ⟨rfl, _⟩ | ⟨b2, rfl, h⟩ | rfl
  · simp at h2
  · simp only [AV.sl.injEq] at h2
    have := h.lt
    omega
  · simp at h2
theorem Dis.symm {v w : AV} (h : Dis v w) : Dis w v := fun _ _ _ _ _ _ _ _ _ h1 h2 => h _ _ _ _ _ _ _ _ _ h2 h1
theorem Gr.closed_or (h : Gr L σ v l) : v.closed = true ∨ v.closed = false := by cases v.closed <;> simp
end
/-- A text of such a slice, by its number. -/
theorem Gr.idxS {σ : Store} {v : AV} {l : List Bs} (h : Gr LStr σ v l) {j : Nat} {s : Bs} (hj : l[j]? = some s) : ∃ p, idxOf 1 none v (.int .i64 (j : Int)) = some p ∧ readPtr σ p none = some (.str s) := by
  have hlt := lt_of_get hj
  have hc : ∀ m : List Bs, LStr.cells m = m.map AV.str := by
    intro m; simp only [Lay.cells, LStr, AV.cells]; induction m with
    | nil => rfl
    | cons a m ih => simp [ih]
  rcases h with ⟨rfl, rfl⟩ | ⟨b, rfl, h⟩ | rfl
  · simp at hj
  · refine ⟨.ptr b j, ?_, ?_⟩
    · simp [idxOf, LStr, hlt]
    · have := h.1
      simp only [readPtr, Store.cells, this, readAt, hc, List.getElem?_map, hj, Option.map_some]
  · refine ⟨.vptr [.str s] 0, idx_map (f := AV.str) hj rfl, rfl⟩
/-- A call of one slice, whose answer bears memory: the store behind it may be read as before. -/
theorem c_List {σ : Store} {v : AV} {l : List V} (h : Gr LV σ v l) (hb : l.length < lim) : ∃ σ', callP ipU gU false (.fn 21 [] []) [v] σ = some ((V.mk 4 0 [] l []).enc, σ') ∧ (σ' = σ ∨ σ' = σ.freeze) := by
  have hr := r_List l hb
  rcases h.closed_or with hc | hc
  · obtain ⟨v', h1, h2⟩ := h.rd.rb
    rw [rb_closed' hc] at h1
    simp only [Option.some.injEq] at h1
    subst h1
    refine ⟨σ, ?_, .inl rfl⟩
    rw [callP_closed rfl (by simp [closedL, hc])]
    simp only [erL, h2, AV.er]
    have : callR ipU gU (.fn 21 [] []) [.vsl (l.map LV.f) none] = _ := hr
    simp only [this, Option.map_some]
  · by_cases hfl : ((V.mk 4 0 [] l []).enc).flat = true
    · refine ⟨σ, ?_, .inl rfl⟩
      obtain ⟨v', h1, h2⟩ := h.rd.rb
      refine callP_flat (args' := [v']) rfl ?_ ?_ hfl
      · simp only [mapO, h1]
      · simp only [erL, h2, AV.er]; exact hr
    · exact ⟨σ.freeze, h.rd.callF hc hr (by simpa using hfl), .inr rfl⟩
end Go.Ab
/- The document's: the slots that an event needs. -/
namespace Go.Ab
set_option linter.unusedSimpArgs false
set_option linter.defProp false
set_option maxHeartbeats 1000000
def S15Fa := And.intro @F6_0.eq_1 (And.intro @F6_1.eq_1 (And.intro @F6_2.eq_1 (And.intro @F6_3.eq_1 (And.intro @F6_4.eq_1 (And.intro @F6_5.eq_1 (And.intro @F6_6.eq_1 (And.intro @F6_7.eq_1 (And.intro @F6_8.eq_1 (And.intro @F6_9.eq_1 (And.intro @F6_10.eq_1 (And.intro @F6_11.eq_1 (And.intro @F6_12.eq_1 (And.intro @F6_13.eq_1 (And.intro @F6_14.eq_1 (And.intro @F6_15.eq_1 (And.intro @F6_16.eq_1 (And.intro @F6_17.eq_1 (And.intro @F6_18.eq_1 (And.intro @F6_19.eq_1 (And.intro @F6_20.eq_1 (And.intro @F6_21.eq_1 (And.intro @F6_22.eq_1 (And.intro @F6_23.eq_1 (And.intro @F6_24.eq_1 (And.intro @F6_25.eq_1 (And.intro @F6_26.eq_1 (And.intro @F6_27.eq_1 (And.intro @F6_28.eq_1 (And.intro @F6_29.eq_1 (And.intro @F6_30.eq_1 (And.intro @F6_31.eq_1 (And.intro @F6_32.eq_1 (And.intro @F6_33.eq_1 (And.intro @F6_34.eq_1 (And.intro @F6_35.eq_1 (And.intro @F6_36.eq_1 (And.intro @F6_37.eq_1 (And.intro @F6_38.eq_1 (And.intro @F6_39.eq_1 (And.intro @F6_40.eq_1 (And.intro @F6_41.eq_1 (And.intro @F6_42.eq_1 (And.intro @F6_43.eq_1 (And.intro @F6_44.eq_1 (And.intro @F6_45.eq_1 (And.intro @F6_46.eq_1 (And.intro @F6_47.eq_1 (And.intro @F6_48.eq_1 (And.intro @F6_49.eq_1 (And.intro @F6_50.eq_1 (And.intro @F6_51.eq_1 (And.intro @F6_52.eq_1 (And.intro @F6_53.eq_1 (And.intro @F6_54.eq_1 (And.intro @F6_55.eq_1 (And.intro @F6_56.eq_1 (And.intro @F6_57.eq_1 (And.intro @F6_58.eq_1 (And.intro @F6_59.eq_1 (And.intro @F6_60.eq_1 (And.intro @F6_61.eq_1 (And.intro @F6_62.eq_1 (And.intro @F6_63.eq_1 (And.intro @F6_64.eq_1 (And.intro @F6_65.eq_1 (And.intro @F6_66.eq_1 (And.intro @F6_67.eq_1 (And.intro @F6_68.eq_1 (And.intro @F6_69.eq_1 (And.intro @F6_70.eq_1 (And.intro @F6_71.eq_1 (And.intro @F6_72.eq_1 (And.intro @F6_73.eq_1 (And.intro @F6_74.eq_1 (And.intro @F6_75.eq_1 (And.intro @F6_76.eq_1 (And.intro @F6_77.eq_1 (@F6.eq_1))))))))))))))))))))))))))))))))))))))))))))))))))))))))))))))))))))))))))))))
set_option maxRecDepth 100000
/-- A part of such a slice that is a struct, by its number. -/
theorem Gr.idxA {α : Type} {L : Lay α} {σ : Store} {v : AV} {l : List α} (h : Gr L σ v l) (hs : L.sz ≠ 1) {j : Nat} {a : α} (hj : l[j]? = some a) : ∃ p, idxOf L.sz none v (.int .i64 (j : Int)) = some p ∧ readPtr σ p (some L.sz) = some (L.f a) := by
  have hlt := lt_of_get hj
  have hag := L.agg a
  rw [if_neg hs] at hag
  obtain ⟨cs, hcs⟩ := hag
  have hl := L.len a
  rw [hcs] at hl
  simp only [AV.cells] at hl
  rcases h with ⟨rfl, rfl⟩ | ⟨b, rfl, h⟩ | rfl
  · simp at hj
  · refine ⟨.ptr b (j * L.sz), ?_, ?_⟩
    · have h2 : ((j : Int) < (l.length : Int)) := by omega
      simp [Go.Ab.idxOf, h2]
    · have h1 := h.1
      have e : ∀ (l : List α) (j : Nat), l[j]? = some a → (L.cells l).drop (j * L.sz) = cs ++ L.cells (l.drop (j + 1)) := by
        intro l
        induction l with
        | nil => intro j hj; simp at hj
        | cons x l ih =>
          intro j hj
          have hx := L.len x
          have e1 : L.cells (x :: l) = (L.f x).cells ++ L.cells l := by simp [Lay.cells]
          cases j with
          | zero =>
            simp only [List.getElem?_cons_zero, Option.some.injEq] at hj
            subst hj
            rw [e1, hcs, Nat.zero_mul]; rfl
          | succ j =>
            simp only [List.getElem?_cons_succ] at hj
            rw [e1, List.drop_append, hx]
            have e2 : (j + 1) * L.sz - L.sz = j * L.sz := by rw [Nat.add_mul]; omega
            have e3 : (L.f x).cells.drop ((j + 1) * L.sz) = [] := List.drop_eq_nil_of_le (by rw [hx, Nat.add_mul]; omega)
            rw [e2, e3, ih j hj]
            simp
      have h3 := e l j hj
      have h4 := L.cells_len l
      have h5 : j * L.sz + L.sz ≤ (L.cells l).length := by
        rw [h4]
        calc j * L.sz + L.sz = (j + 1) * L.sz := by rw [Nat.add_mul]; omega
          _ ≤ l.length * L.sz := Nat.mul_le_mul_right _ hlt
      simp only [readPtr, Store.cells, h1, readAt]
      rw [if_pos h5, h3, List.take_append_of_le_length (by omega), List.take_of_length_le (by omega), hcs]
  · refine ⟨.vptr (L.f a).cells 0, idx_map (f := L.f) hj (L.len a), ?_⟩
    simp only [readPtr, hcs, AV.cells, readAt]
    rw [if_pos (by omega), List.drop_zero, List.take_of_length_le (by omega)]
def dedT (l : List Slt) : List Slt := l.foldl addT []
theorem dedT_len (l : List Slt) : ∀ acc : List Slt, (l.foldl addT acc).length ≤ acc.length + l.length := by
  induction l with
  | nil => intro acc; simp
  | cons a l ih => intro acc; simp only [List.foldl_cons, List.length_cons]; have := ih (addT acc a); have := addT_len acc a; omega
theorem rn_end {σ : Store} {v : AV} {l : List Slt} {r : AV} (h : Gr LSlt σ v l) (hl : l.length < 100) (hr : r = .vsl ((dedT l).map sltE) none) :
    Ex ipU gU [.code F6_69] [(3, v)] σ fun fr' σ1 => (resAll fr' σ1 F6.res).bind (rbE σ1) = some r := by
  simp only [F6_0, F6_1, F6_2, F6_3, F6_4, F6_5, F6_6, F6_7, F6_8, F6_9, F6_10, F6_11, F6_12, F6_13, F6_14, F6_15, F6_16, F6_17, F6_18, F6_19, F6_20, F6_21, F6_22, F6_23, F6_24, F6_25, F6_26, F6_27, F6_28, F6_29, F6_30, F6_31, F6_32, F6_33, F6_34, F6_35, F6_36, F6_37, F6_38, F6_39, F6_40, F6_41, F6_42, F6_43, F6_44, F6_45, F6_46, F6_47, F6_48, F6_49, F6_50, F6_51, F6_52, F6_53, F6_54, F6_55, F6_56, F6_57, F6_58, F6_60, F6_61, F6_62, F6_63, F6_64, F6_65, F6_66, F6_67, F6_68, F6_69, F6_70, F6_71, F6_72, F6_73, F6_74, F6_75, F6_76, F6_77, F6, ex_loop, EXA, Nat.reduceEqDiff, reduceIte, reduceCtorEq, Nat.reduceAdd, Nat.reduceLeDiff, Nat.reduceSub, Nat.reduceMul, Int.reduceEq, Int.reduceBEq, Int.reduceBNe, Int.reduceLT, Int.reduceLE, Nat.reduceLT]
  refine ex_whileI (S := Nat × List Slt × AV) (fun p => [(3, v), (10, p.2.2), (11, .int .i64 (p.1 : Int))]) (fun p => l.length - p.1)
    (fun p σ => Gr LSlt σ v l ∧ Gr LSlt σ p.2.2 p.2.1 ∧ Dis v p.2.2 ∧ p.2.1.length ≤ p.1 ∧ (l.drop p.1).foldl addT p.2.1 = dedT l) ?_ (0, [], .nils) _ ⟨h, Gr.nil LSlt _, fun _ _ _ _ _ _ _ _ _ _ h => by simp at h, by simp, rfl⟩
  rintro b ⟨j, acc, w⟩ σ ⟨hv, hg, hd, hlen, hj⟩ ih
  simp only at hv hg hd hlen hj ih ⊢
  have hvl := hv.lenL
  by_cases hlt : j < l.length
  · obtain ⟨x, hx⟩ := get_lt hlt
    obtain ⟨p, p1, p2⟩ := hv.idxA (by simp [LSlt]) hx
    have p1' : idxOf 2 none v (.int .i64 (j : Int)) = some p := p1
    have p2' : readPtr σ p (some 2) = some (sltE x) := p2
    have hcond := dlt hlt
    have hw := wsucc hlt (by omega)
    rw [drop_cons hx, List.foldl_cons] at hj
    have hcall : callP ipU gU false (.fn 34 [] []) [w, sltE x] σ = some (.bool (hasT acc x), σ) := hg.call1 (by simp only [closedL, sltE_closed, Bool.and_self]) (by simp only [erL, sltE_er]; exact r_slotIn acc x (by unfold big; omega)) rfl
    cases hh : hasT acc x with
    | true =>
      rw [hh] at hcall
      have ha : addT acc x = acc := by unfold addT; rw [if_pos hh]
      rw [ha] at hj
      simp only [S15Fa, EXA, Nat.reduceEqDiff, reduceIte, reduceCtorEq, Nat.reduceAdd, Nat.reduceLeDiff, Nat.reduceSub, Nat.reduceMul, Int.reduceEq, Int.reduceBEq, Int.reduceBNe, Int.reduceLT, Int.reduceLE, Nat.reduceLT, VX, hvl, hcond, p1', p2', hcall, hw]
      exact ih (j + 1, acc, w) _ _ (by simp; omega) ⟨hv, hg, hd, by simp; omega, hj⟩ (by simp only [EXA, Nat.reduceEqDiff, reduceIte, reduceCtorEq, Nat.reduceAdd, Nat.reduceLeDiff, Nat.reduceSub, Nat.reduceMul, Int.reduceEq, Int.reduceBEq, Int.reduceBNe, Int.reduceLT, Int.reduceLE, Nat.reduceLT])
    | false =>
      rw [hh] at hcall
      have ha : addT acc x = acc ++ [x] := by unfold addT; rw [if_neg (by simp [hh])]
      rw [ha] at hj
      have happ : appendTo σ 2 32 w (sltE x).cells 1 = some _ := hg.push (a := x) (bytes := 32) (by omega) (by unfold maxBytes; omega)
      have hlo : lenOf (.vsl [sltE x] (some 1)) = some 1 := rfl
      have hro : ∀ σ', rowOf σ' 2 (.vsl [sltE x] (some 1)) = some (sltE x).cells := fun _ => rfl
      have hb2 : (fillA [.str [], .str []] [(0, 2, sltE x)]) = some [.str x.type, .str x.key] := rfl
      simp only [sltE_cells] at happ hro
      simp only [S15Fa, EXA, Nat.reduceEqDiff, reduceIte, reduceCtorEq, Nat.reduceAdd, Nat.reduceLeDiff, Nat.reduceSub, Nat.reduceMul, Int.reduceEq, Int.reduceBEq, Int.reduceBNe, Int.reduceLT, Int.reduceLE, Nat.reduceLT, VX, hvl, hcond, p1', p2', hcall, hb2, happ, hlo, hro, hw]
      exact ih (j + 1, acc ++ [x], _) _ _ (by simp; omega) ⟨hv.other hg hd.symm, Gr.own (hg.next (by simp)), (hv.dis_next _ _ _ _).symm, by simp; omega, hj⟩ (by simp only [EXA, Nat.reduceEqDiff, reduceIte, reduceCtorEq, Nat.reduceAdd, Nat.reduceLeDiff, Nat.reduceSub, Nat.reduceMul, Int.reduceEq, Int.reduceBEq, Int.reduceBNe, Int.reduceLT, Int.reduceLE, Nat.reduceLT]; rfl)
  · have hcond := dge (Nat.not_lt.1 hlt)
    rw [List.drop_eq_nil_of_le (by omega), List.foldl_nil] at hj
    have hrb := hg.rbE
    simp only [S15Fa, EXA, Nat.reduceEqDiff, reduceIte, reduceCtorEq, Nat.reduceAdd, Nat.reduceLeDiff, Nat.reduceSub, Nat.reduceMul, Int.reduceEq, Int.reduceBEq, Int.reduceBNe, Int.reduceLT, Int.reduceLE, Nat.reduceLT, VX, hvl, hcond, hrb, hr, hj]
    rfl
end Go.Ab
/- The document's: the slots that an event needs, as the program's. -/
namespace Go.Ab
set_option linter.unusedSimpArgs false
set_option linter.defProp false
set_option maxHeartbeats 1000000
def S16Fb := And.intro @F6_0.eq_1 (And.intro @F6_1.eq_1 (And.intro @F6_2.eq_1 (And.intro @F6_3.eq_1 (And.intro @F6_4.eq_1 (And.intro @F6_5.eq_1 (And.intro @F6_6.eq_1 (And.intro @F6_7.eq_1 (And.intro @F6_8.eq_1 (And.intro @F6_9.eq_1 (And.intro @F6_10.eq_1 (And.intro @F6_11.eq_1 (And.intro @F6_12.eq_1 (And.intro @F6_13.eq_1 (And.intro @F6_14.eq_1 (And.intro @F6_15.eq_1 (And.intro @F6_16.eq_1 (And.intro @F6_17.eq_1 (And.intro @F6_18.eq_1 (And.intro @F6_19.eq_1 (And.intro @F6_20.eq_1 (And.intro @F6_21.eq_1 (And.intro @F6_22.eq_1 (And.intro @F6_23.eq_1 (And.intro @F6_24.eq_1 (And.intro @F6_25.eq_1 (And.intro @F6_26.eq_1 (And.intro @F6_27.eq_1 (And.intro @F6_28.eq_1 (And.intro @F6_29.eq_1 (And.intro @F6_30.eq_1 (And.intro @F6_32.eq_1 (And.intro @F6_33.eq_1 (And.intro @F6_34.eq_1 (And.intro @F6_35.eq_1 (And.intro @F6_36.eq_1 (And.intro @F6_37.eq_1 (And.intro @F6_38.eq_1 (And.intro @F6_39.eq_1 (And.intro @F6_40.eq_1 (And.intro @F6_41.eq_1 (And.intro @F6_42.eq_1 (And.intro @F6_43.eq_1 (And.intro @F6_44.eq_1 (And.intro @F6_45.eq_1 (And.intro @F6_46.eq_1 (And.intro @F6_47.eq_1 (And.intro @F6_48.eq_1 (And.intro @F6_49.eq_1 (And.intro @F6_50.eq_1 (And.intro @F6_51.eq_1 (And.intro @F6_52.eq_1 (And.intro @F6_53.eq_1 (And.intro @F6_54.eq_1 (And.intro @F6_55.eq_1 (And.intro @F6_56.eq_1 (And.intro @F6_57.eq_1 (And.intro @F6_58.eq_1 (And.intro @F6_59.eq_1 (And.intro @F6_60.eq_1 (And.intro @F6_61.eq_1 (And.intro @F6_62.eq_1 (And.intro @F6_63.eq_1 (And.intro @F6_64.eq_1 (And.intro @F6_65.eq_1 (And.intro @F6_66.eq_1 (And.intro @F6_67.eq_1 (And.intro @F6_68.eq_1 (And.intro @F6_71.eq_1 (And.intro @F6_72.eq_1 (And.intro @F6_73.eq_1 (And.intro @F6_74.eq_1 (And.intro @F6_75.eq_1 (And.intro @F6_76.eq_1 (And.intro @F6_77.eq_1 (@F6.eq_1)))))))))))))))))))))))))))))))))))))))))))))))))))))))))))))))))))))))))))
def S16Fc := And.intro @F6_0.eq_1 (And.intro @F6_1.eq_1 (And.intro @F6_2.eq_1 (And.intro @F6_3.eq_1 (And.intro @F6_4.eq_1 (And.intro @F6_5.eq_1 (And.intro @F6_6.eq_1 (And.intro @F6_7.eq_1 (And.intro @F6_8.eq_1 (And.intro @F6_9.eq_1 (And.intro @F6_10.eq_1 (And.intro @F6_11.eq_1 (And.intro @F6_12.eq_1 (And.intro @F6_13.eq_1 (And.intro @F6_14.eq_1 (And.intro @F6_15.eq_1 (And.intro @F6_16.eq_1 (And.intro @F6_17.eq_1 (And.intro @F6_18.eq_1 (And.intro @F6_19.eq_1 (And.intro @F6_20.eq_1 (And.intro @F6_21.eq_1 (And.intro @F6_22.eq_1 (And.intro @F6_23.eq_1 (And.intro @F6_24.eq_1 (And.intro @F6_25.eq_1 (And.intro @F6_26.eq_1 (And.intro @F6_27.eq_1 (And.intro @F6_28.eq_1 (And.intro @F6_29.eq_1 (And.intro @F6_30.eq_1 (And.intro @F6_31.eq_1 (And.intro @F6_32.eq_1 (And.intro @F6_34.eq_1 (And.intro @F6_35.eq_1 (And.intro @F6_36.eq_1 (And.intro @F6_37.eq_1 (And.intro @F6_38.eq_1 (And.intro @F6_39.eq_1 (And.intro @F6_40.eq_1 (And.intro @F6_41.eq_1 (And.intro @F6_42.eq_1 (And.intro @F6_43.eq_1 (And.intro @F6_44.eq_1 (And.intro @F6_45.eq_1 (And.intro @F6_46.eq_1 (And.intro @F6_47.eq_1 (And.intro @F6_48.eq_1 (And.intro @F6_49.eq_1 (And.intro @F6_50.eq_1 (And.intro @F6_51.eq_1 (And.intro @F6_52.eq_1 (And.intro @F6_53.eq_1 (And.intro @F6_54.eq_1 (And.intro @F6_55.eq_1 (And.intro @F6_56.eq_1 (And.intro @F6_57.eq_1 (And.intro @F6_58.eq_1 (And.intro @F6_59.eq_1 (And.intro @F6_60.eq_1 (And.intro @F6_61.eq_1 (And.intro @F6_62.eq_1 (And.intro @F6_63.eq_1 (And.intro @F6_64.eq_1 (And.intro @F6_65.eq_1 (And.intro @F6_66.eq_1 (And.intro @F6_67.eq_1 (And.intro @F6_68.eq_1 (And.intro @F6_69.eq_1 (And.intro @F6_71.eq_1 (And.intro @F6_72.eq_1 (And.intro @F6_73.eq_1 (And.intro @F6_74.eq_1 (And.intro @F6_75.eq_1 (And.intro @F6_76.eq_1 (And.intro @F6_77.eq_1 (@F6.eq_1))))))))))))))))))))))))))))))))))))))))))))))))))))))))))))))))))))))))))))
def S16Fe := And.intro @F6_0.eq_1 (And.intro @F6_1.eq_1 (And.intro @F6_2.eq_1 (And.intro @F6_3.eq_1 (And.intro @F6_4.eq_1 (And.intro @F6_5.eq_1 (And.intro @F6_6.eq_1 (And.intro @F6_7.eq_1 (And.intro @F6_8.eq_1 (And.intro @F6_9.eq_1 (And.intro @F6_10.eq_1 (And.intro @F6_11.eq_1 (And.intro @F6_12.eq_1 (And.intro @F6_13.eq_1 (And.intro @F6_14.eq_1 (And.intro @F6_15.eq_1 (And.intro @F6_16.eq_1 (And.intro @F6_17.eq_1 (And.intro @F6_18.eq_1 (And.intro @F6_19.eq_1 (And.intro @F6_20.eq_1 (And.intro @F6_21.eq_1 (And.intro @F6_22.eq_1 (And.intro @F6_23.eq_1 (And.intro @F6_24.eq_1 (And.intro @F6_25.eq_1 (And.intro @F6_26.eq_1 (And.intro @F6_27.eq_1 (And.intro @F6_28.eq_1 (And.intro @F6_29.eq_1 (And.intro @F6_30.eq_1 (And.intro @F6_31.eq_1 (And.intro @F6_32.eq_1 (And.intro @F6_33.eq_1 (And.intro @F6_34.eq_1 (And.intro @F6_35.eq_1 (And.intro @F6_36.eq_1 (And.intro @F6_37.eq_1 (And.intro @F6_38.eq_1 (And.intro @F6_39.eq_1 (And.intro @F6_40.eq_1 (And.intro @F6_41.eq_1 (And.intro @F6_42.eq_1 (And.intro @F6_43.eq_1 (And.intro @F6_44.eq_1 (And.intro @F6_45.eq_1 (And.intro @F6_46.eq_1 (And.intro @F6_47.eq_1 (And.intro @F6_48.eq_1 (And.intro @F6_49.eq_1 (And.intro @F6_50.eq_1 (And.intro @F6_51.eq_1 (And.intro @F6_52.eq_1 (And.intro @F6_53.eq_1 (And.intro @F6_54.eq_1 (And.intro @F6_55.eq_1 (And.intro @F6_56.eq_1 (And.intro @F6_57.eq_1 (And.intro @F6_58.eq_1 (And.intro @F6_59.eq_1 (And.intro @F6_60.eq_1 (And.intro @F6_61.eq_1 (And.intro @F6_62.eq_1 (And.intro @F6_63.eq_1 (And.intro @F6_64.eq_1 (And.intro @F6_65.eq_1 (And.intro @F6_66.eq_1 (And.intro @F6_67.eq_1 (And.intro @F6_68.eq_1 (And.intro @F6_70.eq_1 (And.intro @F6_71.eq_1 (And.intro @F6_72.eq_1 (And.intro @F6_73.eq_1 (And.intro @F6_74.eq_1 (And.intro @F6_75.eq_1 (And.intro @F6_76.eq_1 (And.intro @F6_77.eq_1 (@F6.eq_1)))))))))))))))))))))))))))))))))))))))))))))))))))))))))))))))))))))))))))))
set_option maxRecDepth 100000
def putIf (c : Bool) (l : List Slt) (s : Slt) : List Slt := if c then l ++ [s] else l
theorem putIf_len (c : Bool) (l : List Slt) (s : Slt) : (putIf c l s).length ≤ l.length + 1 := by
  unfold putIf; split <;> simp
def frR (e : Ev) (v : AV) (m : Bs) : Fr := [(1, .vptr (evE e).cells 0), (3, v), (4, .str m)]
theorem Gr.pushT {σ : Store} {v : AV} {l : List Slt} (h : Gr LSlt σ v l) (hl : l.length < 1000) (t k : Bs) : appendTo σ 2 32 v [.str t, .str k] 1 = some (.sl σ.next 0 (l ++ [(⟨t, k⟩ : Slt)]).length 2 none, grNext LSlt σ v l [(⟨t, k⟩ : Slt)]) :=
  h.push (a := (⟨t, k⟩ : Slt)) (bytes := 32) (by omega) (by unfold maxBytes; omega)
theorem Gr.nextT {σ : Store} {v : AV} {l : List Slt} (h : Gr LSlt σ v l) (t k : Bs) : Gr LSlt (grNext LSlt σ v l [(⟨t, k⟩ : Slt)]) (.sl σ.next 0 (l ++ [(⟨t, k⟩ : Slt)]).length 2 none) (l ++ [(⟨t, k⟩ : Slt)]) :=
  Gr.own (h.next (m := [⟨t, k⟩]) (by simp))
theorem lo1T (t k : Bs) : lenOf (.vsl [sltE ⟨t, k⟩] (some 1)) = some 1 := rfl
theorem ro1T (t k : Bs) (σ : Store) : rowOf σ 2 (.vsl [sltE ⟨t, k⟩] (some 1)) = some [.str t, .str k] := rfl
theorem rn_auth {e : Ev} {m : Bs} {σ : Store} {v : AV} {l : List Slt} {r : AV} (hb : e.content.sz < big) (h : Gr LSlt σ v l) (hl : l.length < 90)
    (hr : r = .vsl ((dedT (putIf ((authV e.content).2 && m == kJoin) l ⟨kMember, (authV e.content).1⟩)).map sltE) none) :
    Ex ipU gU [.code F6_31, .code F6_70] (frR e v m) σ fun fr' σ1 => (resAll fr' σ1 F6.res).bind (rbE σ1) = some r := by
  have h33 := r_refAuth e.content hb
  unfold frR
  simp only [S16Fe, EXA, Nat.reduceEqDiff, reduceIte, reduceCtorEq, Nat.reduceAdd, Nat.reduceLeDiff, Nat.reduceSub, Nat.reduceMul, Int.reduceEq, Int.reduceBEq, Int.reduceBNe, Int.reduceLT, Int.reduceLE, Nat.reduceLT, VX, readAt_some, h33]
  cases hk : (authV e.content).2 with
  | false =>
    simp only [hk, Bool.false_and, putIf, Bool.false_eq_true, if_false] at hr
    simp only [S16Fe, EXA, Nat.reduceEqDiff, reduceIte, reduceCtorEq, Nat.reduceAdd, Nat.reduceLeDiff, Nat.reduceSub, Nat.reduceMul, Int.reduceEq, Int.reduceBEq, Int.reduceBNe, Int.reduceLT, Int.reduceLE, Nat.reduceLT, VX, readAt_some]
    exact rn_end h (by omega) hr
  | true =>
    cases hj : m == kJoin with
    | false =>
      simp only [hk, hj, Bool.and_false, putIf, Bool.false_eq_true, if_false] at hr
      simp only [S16Fe, EXA, Nat.reduceEqDiff, reduceIte, reduceCtorEq, Nat.reduceAdd, Nat.reduceLeDiff, Nat.reduceSub, Nat.reduceMul, Int.reduceEq, Int.reduceBEq, Int.reduceBNe, Int.reduceLT, Int.reduceLE, Nat.reduceLT, VX, readAt_some, hj]
      exact rn_end h (by omega) hr
    | true =>
      simp only [hk, hj, Bool.and_self, putIf, if_true] at hr
      have happ := h.pushT (by omega) kMember (authV e.content).1
      have hn := h.nextT kMember (authV e.content).1
      simp only [S16Fe, EXA, Nat.reduceEqDiff, reduceIte, reduceCtorEq, Nat.reduceAdd, Nat.reduceLeDiff, Nat.reduceSub, Nat.reduceMul, Int.reduceEq, Int.reduceBEq, Int.reduceBNe, Int.reduceLT, Int.reduceLE, Nat.reduceLT, VX, readAt_some, hj, lo1T, ro1T, happ]
      exact rn_end hn (by simp; omega) hr
theorem rn_third {e : Ev} {m : Bs} {σ : Store} {v : AV} {l : List Slt} {r : AV} (hb : e.content.sz < big) (h : Gr LSlt σ v l) (hl : l.length < 80)
    (hr : r = .vsl ((dedT (putIf ((authV e.content).2 && m == kJoin) (putIf ((thirdV e.content).2.2 && m == kInvite) l ⟨kThirdInv, (thirdV e.content).1⟩) ⟨kMember, (authV e.content).1⟩)).map sltE) none) :
    Ex ipU gU [.code F6_33, .code F6_70] (frR e v m) σ fun fr' σ1 => (resAll fr' σ1 F6.res).bind (rbE σ1) = some r := by
  have h32 := r_refThird e.content hb
  rw [thirdR_eq] at h32
  unfold frR
  simp only [S16Fb, EXA, Nat.reduceEqDiff, reduceIte, reduceCtorEq, Nat.reduceAdd, Nat.reduceLeDiff, Nat.reduceSub, Nat.reduceMul, Int.reduceEq, Int.reduceBEq, Int.reduceBNe, Int.reduceLT, Int.reduceLE, Nat.reduceLT, VX, readAt_some, h32]
  cases hk : (thirdV e.content).2.2 with
  | false =>
    simp only [hk, Bool.false_and, putIf, Bool.false_eq_true, if_false] at hr
    simp only [S16Fb, EXA, Nat.reduceEqDiff, reduceIte, reduceCtorEq, Nat.reduceAdd, Nat.reduceLeDiff, Nat.reduceSub, Nat.reduceMul, Int.reduceEq, Int.reduceBEq, Int.reduceBNe, Int.reduceLT, Int.reduceLE, Nat.reduceLT, VX, readAt_some]
    exact rn_auth hb h (by omega) (by simp only [putIf]; exact hr)
  | true =>
    cases hj : m == kInvite with
    | false =>
      simp only [hk, hj, Bool.and_false, putIf, Bool.false_eq_true, if_false] at hr
      simp only [S16Fb, EXA, Nat.reduceEqDiff, reduceIte, reduceCtorEq, Nat.reduceAdd, Nat.reduceLeDiff, Nat.reduceSub, Nat.reduceMul, Int.reduceEq, Int.reduceBEq, Int.reduceBNe, Int.reduceLT, Int.reduceLE, Nat.reduceLT, VX, readAt_some, hj]
      exact rn_auth hb h (by omega) (by simp only [putIf]; exact hr)
    | true =>
      simp only [hk, hj, Bool.and_self, putIf, if_true] at hr
      have happ := h.pushT (by omega) kThirdInv (thirdV e.content).1
      have hn := h.nextT kThirdInv (thirdV e.content).1
      simp only [S16Fb, EXA, Nat.reduceEqDiff, reduceIte, reduceCtorEq, Nat.reduceAdd, Nat.reduceLeDiff, Nat.reduceSub, Nat.reduceMul, Int.reduceEq, Int.reduceBEq, Int.reduceBNe, Int.reduceLT, Int.reduceLE, Nat.reduceLT, VX, readAt_some, hj, lo1T, ro1T, happ]
      exact rn_auth hb hn (by simp; omega) (by simp only [putIf]; exact hr)
theorem rn_joins {e : Ev} {m : Bs} {σ : Store} {v : AV} {l : List Slt} {r : AV} (hb : e.content.sz < big) (h : Gr LSlt σ v l) (hl : l.length < 70)
    (hr : r = .vsl ((dedT (putIf ((authV e.content).2 && m == kJoin) (putIf ((thirdV e.content).2.2 && m == kInvite) (putIf (m == kJoin || (m == kInvite || m == kKnock)) l ⟨kJoins, []⟩) ⟨kThirdInv, (thirdV e.content).1⟩) ⟨kMember, (authV e.content).1⟩)).map sltE) none) :
    Ex ipU gU [.code F6_35, .code F6_70] (frR e v m) σ fun fr' σ1 => (resAll fr' σ1 F6.res).bind (rbE σ1) = some r := by
  have happ := h.pushT (by omega) kJoins []
  have hn := h.nextT kJoins []
  unfold frR
  cases hj : m == kJoin with
  | true =>
    simp only [hj, Bool.true_or, putIf, if_true] at hr
    simp only [S16Fc, EXA, Nat.reduceEqDiff, reduceIte, reduceCtorEq, Nat.reduceAdd, Nat.reduceLeDiff, Nat.reduceSub, Nat.reduceMul, Int.reduceEq, Int.reduceBEq, Int.reduceBNe, Int.reduceLT, Int.reduceLE, Nat.reduceLT, VX, readAt_some, hj, lo1T, ro1T, happ]
    exact rn_third hb hn (by simp; omega) (by simp only [hj, putIf]; exact hr)
  | false =>
  cases hi : m == kInvite with
  | true =>
    simp only [hj, hi, Bool.true_or, Bool.or_true, putIf, if_true] at hr
    simp only [S16Fc, EXA, Nat.reduceEqDiff, reduceIte, reduceCtorEq, Nat.reduceAdd, Nat.reduceLeDiff, Nat.reduceSub, Nat.reduceMul, Int.reduceEq, Int.reduceBEq, Int.reduceBNe, Int.reduceLT, Int.reduceLE, Nat.reduceLT, VX, readAt_some, hj, hi, lo1T, ro1T, happ]
    exact rn_third hb hn (by simp; omega) (by simp only [hj, hi, putIf]; exact hr)
  | false =>
  cases hk : m == kKnock with
  | true =>
    simp only [hj, hi, hk, Bool.or_true, putIf, if_true] at hr
    simp only [S16Fc, EXA, Nat.reduceEqDiff, reduceIte, reduceCtorEq, Nat.reduceAdd, Nat.reduceLeDiff, Nat.reduceSub, Nat.reduceMul, Int.reduceEq, Int.reduceBEq, Int.reduceBNe, Int.reduceLT, Int.reduceLE, Nat.reduceLT, VX, readAt_some, hj, hi, hk, lo1T, ro1T, happ]
    exact rn_third hb hn (by simp; omega) (by simp only [hj, hi, putIf]; exact hr)
  | false =>
    simp only [hj, hi, hk, Bool.or_self, putIf, Bool.false_eq_true, if_false] at hr
    simp only [S16Fc, EXA, Nat.reduceEqDiff, reduceIte, reduceCtorEq, Nat.reduceAdd, Nat.reduceLeDiff, Nat.reduceSub, Nat.reduceMul, Int.reduceEq, Int.reduceBEq, Int.reduceBNe, Int.reduceLT, Int.reduceLE, Nat.reduceLT, VX, readAt_some, hj, hi, hk]
    exact rn_third hb h (by omega) (by simp only [hj, hi, putIf]; exact hr)
def needsR (e : Ev) : List Slt :=
  if e.type == kCreate then [] else if !(e.type == kMember) then dedT (base3 e) else
  let to := membershipV e.content
  dedT (putIf ((authV e.content).2 && to == kJoin) (putIf ((thirdV e.content).2.2 && to == kInvite) (putIf (to == kJoin || (to == kInvite || to == kKnock)) (base3 e ++ [⟨kMember, e.key⟩]) ⟨kJoins, []⟩) ⟨kThirdInv, (thirdV e.content).1⟩) ⟨kMember, (authV e.content).1⟩)
theorem r_refNeedsR (e : Ev) (hb : e.content.sz < big) : cR 6 [evE e] = some (.vsl ((needsR e).map sltE) none) := by
  have h31 := r_refMembership e.content hb
  refine cR_of (F := F6) rfl ?_
  obtain ⟨r, hr⟩ : ∃ r, r = AV.vsl ((needsR e).map sltE) none := ⟨_, rfl⟩
  rw [← hr]
  unfold needsR at hr
  cases hc : e.type == kCreate with
  | true =>
    simp only [hc, if_true, List.map_nil] at hr
    simp only [F6_0, F6_1, F6_2, F6_3, F6_4, F6_5, F6_6, F6_7, F6_8, F6_9, F6_10, F6_11, F6_12, F6_13, F6_14, F6_15, F6_16, F6_17, F6_18, F6_19, F6_20, F6_21, F6_22, F6_23, F6_24, F6_25, F6_26, F6_27, F6_28, F6_29, F6_30, F6_31, F6_32, F6_33, F6_34, F6_35, F6_36, F6_37, F6_38, F6_39, F6_40, F6_41, F6_42, F6_43, F6_44, F6_45, F6_46, F6_47, F6_48, F6_49, F6_50, F6_51, F6_52, F6_53, F6_54, F6_55, F6_56, F6_57, F6_58, F6_59, F6_60, F6_61, F6_62, F6_63, F6_64, F6_65, F6_66, F6_67, F6_68, F6_69, F6_70, F6_71, F6_72, F6_73, F6_74, F6_75, F6_76, F6_77, F6, EXA, Nat.reduceEqDiff, reduceIte, reduceCtorEq, Nat.reduceAdd, Nat.reduceLeDiff, Nat.reduceSub, Nat.reduceMul, Int.reduceEq, Int.reduceBEq, Int.reduceBNe, Int.reduceLT, Int.reduceLE, Nat.reduceLT, VX, readAt_some, hc, hr]
  | false =>
  have hg : ∀ σ, Gr LSlt σ (.vsl ((base3 e).map sltE) (some 3)) (base3 e) := fun σ => Gr.lit LSlt σ (base3 e)
  cases hm : e.type == kMember with
  | false =>
    simp only [hc, hm, Bool.not_false, if_true, Bool.false_eq_true, if_false] at hr
    simp only [S16Fe, EXA, Nat.reduceEqDiff, reduceIte, reduceCtorEq, Nat.reduceAdd, Nat.reduceLeDiff, Nat.reduceSub, Nat.reduceMul, Int.reduceEq, Int.reduceBEq, Int.reduceBNe, Int.reduceLT, Int.reduceLE, Nat.reduceLT, VX, readAt_some, hc, hm]
    exact rn_end (hg _) (by simp [base3]) hr
  | true =>
  simp only [hc, hm, Bool.not_true, Bool.false_eq_true, if_false] at hr
  have happ := (hg ⟨0, []⟩).pushT (by simp [base3]) kMember e.key
  have hn := (hg ⟨0, []⟩).nextT kMember e.key
  have hx : AV.vsl [sltE ⟨kCreate, []⟩, sltE ⟨kPower, []⟩, sltE ⟨kMember, e.sender⟩] (some 3) = .vsl ((base3 e).map sltE) (some 3) := rfl
  simp only [← hx] at happ hn
  simp only [F6_0, F6_1, F6_2, F6_3, F6_4, F6_5, F6_6, F6_7, F6_8, F6_9, F6_10, F6_11, F6_12, F6_13, F6_14, F6_15, F6_16, F6_17, F6_18, F6_19, F6_20, F6_21, F6_22, F6_23, F6_24, F6_25, F6_26, F6_27, F6_28, F6_29, F6_30, F6_31, F6_32, F6_33, F6_34, F6_36, F6_37, F6_38, F6_39, F6_40, F6_41, F6_42, F6_43, F6_44, F6_45, F6_46, F6_47, F6_48, F6_49, F6_50, F6_51, F6_52, F6_53, F6_54, F6_55, F6_56, F6_57, F6_58, F6_59, F6_60, F6_61, F6_62, F6_63, F6_64, F6_65, F6_66, F6_67, F6_68, F6_69, F6_71, F6_72, F6_73, F6_74, F6_75, F6_76, F6_77, F6, EXA, Nat.reduceEqDiff, reduceIte, reduceCtorEq, Nat.reduceAdd, Nat.reduceLeDiff, Nat.reduceSub, Nat.reduceMul, Int.reduceEq, Int.reduceBEq, Int.reduceBNe, Int.reduceLT, Int.reduceLE, Nat.reduceLT, VX, readAt_some, hc, hm, h31, lo1T, ro1T, Store.empty, happ]
  exact rn_joins hb hn (by simp [base3]) hr
theorem addT_new {l : List Slt} {s : Slt} (h : s ∉ l) : addT l s = l ++ [s] := by
  unfold addT; rw [if_neg]; intro hh; exact h (hasT_iff.1 hh)
theorem ded_base (e : Ev) : dedT (base3 e) = base3 e := by
  unfold dedT base3
  simp only [List.foldl_cons, List.foldl_nil]
  have h1 : addT [] (⟨kCreate, []⟩ : Slt) = [⟨kCreate, []⟩] := rfl
  have h2 : addT [(⟨kCreate, []⟩ : Slt)] ⟨kPower, []⟩ = [⟨kCreate, []⟩, ⟨kPower, []⟩] := by decide
  rw [h1, h2, addT_new (by simp)]
  rfl
theorem ded_app (l m : List Slt) : dedT (l ++ m) = m.foldl addT (dedT l) := by unfold dedT; rw [List.foldl_append]
theorem ded_putIf (c : Bool) (l : List Slt) (s : Slt) : dedT (putIf c l s) = addIf c (dedT l) s := by
  unfold putIf addIf
  cases c with
  | false => rfl
  | true => simp only [if_true]; rw [ded_app]; rfl
theorem needsR_eq (e : Ev) : needsR e = needs e := by
  unfold needsR needs
  simp only [ded_putIf, ded_base, ded_app, List.foldl_cons, List.foldl_nil]
theorem r_refNeeds (e : Ev) (hb : e.content.sz < big) : cR 6 [evE e] = some (.vsl ((needs e).map sltE) none) := by
  rw [← needsR_eq]; exact r_refNeedsR e hb
end Go.Ab
/- The document's: what is picked of a state. -/
namespace Go.Ab
set_option linter.unusedSimpArgs false
set_option linter.defProp false
set_option maxHeartbeats 1000000
def S17Fa := And.intro @F13_0.eq_1 (And.intro @F13_1.eq_1 (And.intro @F13_2.eq_1 (And.intro @F13_3.eq_1 (And.intro @F13_4.eq_1 (And.intro @F13_5.eq_1 (And.intro @F13_6.eq_1 (And.intro @F13_7.eq_1 (And.intro @F13_8.eq_1 (And.intro @F13_9.eq_1 (And.intro @F13_10.eq_1 (And.intro @F13_11.eq_1 (And.intro @F13_12.eq_1 (And.intro @F13_13.eq_1 (And.intro @F13_14.eq_1 (And.intro @F13_15.eq_1 (And.intro @F13_16.eq_1 (And.intro @F13_17.eq_1 (And.intro @F13_18.eq_1 (And.intro @F13_19.eq_1 (And.intro @F13_20.eq_1 (And.intro @F13_21.eq_1 (And.intro @F13_22.eq_1 (And.intro @F13_23.eq_1 (And.intro @F13_24.eq_1 (And.intro @F13_25.eq_1 (And.intro @F13_26.eq_1 (And.intro @F13_27.eq_1 (And.intro @F13_28.eq_1 (And.intro @F13_29.eq_1 (And.intro @F13_30.eq_1 (And.intro @F13_31.eq_1 (And.intro @F13_32.eq_1 (And.intro @F13_33.eq_1 (And.intro @F13_34.eq_1 (And.intro @F13_35.eq_1 (And.intro @F13_36.eq_1 (And.intro @F13_37.eq_1 (And.intro @F13_38.eq_1 (And.intro @F13_39.eq_1 (@F13.eq_1))))))))))))))))))))))))))))))))))))))))
def S17Fc := And.intro @F9_0.eq_1 (And.intro @F9_1.eq_1 (And.intro @F9_2.eq_1 (And.intro @F9_3.eq_1 (And.intro @F9_4.eq_1 (And.intro @F9_5.eq_1 (And.intro @F9_6.eq_1 (And.intro @F9_7.eq_1 (And.intro @F9_8.eq_1 (And.intro @F9_9.eq_1 (And.intro @F9_10.eq_1 (And.intro @F9_11.eq_1 (And.intro @F9_12.eq_1 (And.intro @F9_13.eq_1 (And.intro @F9_14.eq_1 (And.intro @F9_15.eq_1 (And.intro @F9_16.eq_1 (And.intro @F9_17.eq_1 (And.intro @F9_18.eq_1 (And.intro @F9_19.eq_1 (And.intro @F9_20.eq_1 (And.intro @F9_21.eq_1 (And.intro @F9_22.eq_1 (And.intro @F9_23.eq_1 (And.intro @F9_24.eq_1 (And.intro @F9_25.eq_1 (And.intro @F9_26.eq_1 (And.intro @F9_27.eq_1 (And.intro @F9_28.eq_1 (And.intro @F9_29.eq_1 (And.intro @F9_30.eq_1 (And.intro @F9_31.eq_1 (And.intro @F9_32.eq_1 (And.intro @F9_33.eq_1 (And.intro @F9_34.eq_1 (And.intro @F9_35.eq_1 (@F9.eq_1))))))))))))))))))))))))))))))))))))
set_option maxRecDepth 100000
theorem r_refPick (l : List Ev) (e : Ev) (hb : e.content.sz < big) (hlen0 : l.length < big) :
    cR 9 [.vsl (l.map evE) none, evE e] = some (.vsl ((pickF l (needs e)).map .str) none) := by
  have h6 := r_refNeeds e hb
  have hn7 := needs_len e
  refine cR_of (F := F9) rfl ?_
  generalize needs e = ns at h6 hn7 ⊢
  simp only [F9_0, F9_1, F9_2, F9_3, F9_4, F9_5, F9_6, F9_7, F9_8, F9_9, F9_10, F9_11, F9_12, F9_13, F9_14, F9_15, F9_16, F9_17, F9_18, F9_19, F9_20, F9_22, F9_23, F9_24, F9_25, F9_26, F9_27, F9_28, F9_29, F9_30, F9_31, F9_32, F9_33, F9_34, F9_35, F9, ex_loop, EXA, Nat.reduceEqDiff, reduceIte, reduceCtorEq, Nat.reduceAdd, Nat.reduceLeDiff, Nat.reduceSub, Nat.reduceMul, Int.reduceEq, Int.reduceBEq, Int.reduceBNe, Int.reduceLT, Int.reduceLE, Nat.reduceLT, VX, readAt_some, h6]
  refine ex_whileI (S := Nat × List Bs × AV) (fun p => [(0, .vsl (l.map evE) none), (5, p.2.2), (6, .vsl (ns.map sltE) none), (7, .int .i64 (p.1 : Int))]) (fun p => ns.length - p.1)
    (fun p σ => Gr LStr σ p.2.2 p.2.1 ∧ p.2.1.length ≤ p.1 ∧ p.2.1 ++ pickF l (ns.drop p.1) = pickF l ns) ?_ (0, [], .nils) _ ⟨Gr.nil LStr _, by simp, rfl⟩
  rintro b ⟨j, acc, v⟩ σ ⟨hg, hlen, hj⟩ ih
  simp only at hg hlen hj ih ⊢
  by_cases hlt : j < ns.length
  · obtain ⟨x, hx⟩ := get_lt hlt
    have hidx := idx_slt (c := none) hx
    have hcond := dlt hlt
    have hr := r_In l x.type x.key hlen0
    rw [show (⟨x.type, x.key⟩ : Slt) = x from rfl] at hr
    rw [drop_cons hx, pickF_cons] at hj
    have hw := wsucc hlt (by omega)
    have hn := hg.newset
    cases hf : l.find? (isAt x) with
    | none =>
      rw [ofE_none hf] at hr
      simp only [hf] at hj
      simp only [S17Fc, EXA, Nat.reduceEqDiff, reduceIte, reduceCtorEq, Nat.reduceAdd, Nat.reduceLeDiff, Nat.reduceSub, Nat.reduceMul, Int.reduceEq, Int.reduceBEq, Int.reduceBNe, Int.reduceLT, Int.reduceLE, Nat.reduceLT, VX, readAt_some, hcond, hidx, hr, hw]
      exact ih (j + 1, acc, v) _ _ (by simp; omega) ⟨hn _ _, by simp; omega, hj⟩ (by simp only [EXA, Nat.reduceEqDiff, reduceIte, reduceCtorEq, Nat.reduceAdd, Nat.reduceLeDiff, Nat.reduceSub, Nat.reduceMul, Int.reduceEq, Int.reduceBEq, Int.reduceBNe, Int.reduceLT, Int.reduceLE, Nat.reduceLT])
    | some y =>
      rw [ofE_some hf] at hr
      simp only [hf] at hj
      have happ : ∀ a b, appendTo _ 1 16 v [.str y.id] 1 = some _ := fun a b => (hn a b).push (a := y.id) (bytes := 16) (by omega) (by unfold maxBytes; omega)
      have hlo : lenOf (.vsl [.str y.id] (some 1)) = some 1 := rfl
      have hro : ∀ σ', rowOf σ' 1 (.vsl [.str y.id] (some 1)) = some [.str y.id] := fun _ => rfl
      simp only [S17Fc, EXA, Nat.reduceEqDiff, reduceIte, reduceCtorEq, Nat.reduceAdd, Nat.reduceLeDiff, Nat.reduceSub, Nat.reduceMul, Int.reduceEq, Int.reduceBEq, Int.reduceBNe, Int.reduceLT, Int.reduceLE, Nat.reduceLT, VX, readAt_some, hcond, hidx, hr, happ, hlo, hro, hw]
      exact ih (j + 1, acc ++ [y.id], _) _ _ (by simp; omega) ⟨Gr.own ((hn _ _).next (by simp)), by simp; omega, by simpa using hj⟩ (by simp only [EXA, Nat.reduceEqDiff, reduceIte, reduceCtorEq, Nat.reduceAdd, Nat.reduceLeDiff, Nat.reduceSub, Nat.reduceMul, Int.reduceEq, Int.reduceBEq, Int.reduceBNe, Int.reduceLT, Int.reduceLE, Nat.reduceLT]; rfl)
  · have hcond := dge (Nat.not_lt.1 hlt)
    rw [List.drop_eq_nil_of_le (by omega)] at hj
    have hj2 : acc = pickF l ns := by simpa [pickF] using hj
    have hrb := hg.rbE
    simp only [S17Fc, EXA, Nat.reduceEqDiff, reduceIte, reduceCtorEq, Nat.reduceAdd, Nat.reduceLeDiff, Nat.reduceSub, Nat.reduceMul, Int.reduceEq, Int.reduceBEq, Int.reduceBNe, Int.reduceLT, Int.reduceLE, Nat.reduceLT, VX, hcond, hrb, hj2]
    rfl
theorem r_refFits (e : Ev) (l : List Ev) (hb : e.content.sz < big) (hlen : l.length < lim) : cR 13 [evE e, .vsl (l.map evE) none] = some (.bool (fits e l)) := by
  have h6 := r_refNeeds e hb
  have hn7 := needs_len e
  unfold lim at hlen
  unfold fits
  refine cR_of (F := F13) rfl ?_
  generalize needs e = ns at h6 hn7 ⊢
  obtain ⟨r, hr⟩ : ∃ r, r = AV.bool (fitsF ns [] l) := ⟨_, rfl⟩
  rw [← hr]
  simp only [F13_0, F13_1, F13_2, F13_3, F13_4, F13_5, F13_6, F13_7, F13_8, F13_9, F13_10, F13_11, F13_12, F13_13, F13_14, F13_15, F13_16, F13_17, F13_18, F13_19, F13_20, F13_21, F13_22, F13_23, F13_24, F13_26, F13_27, F13_28, F13_29, F13_30, F13_31, F13_32, F13_33, F13_34, F13_35, F13_36, F13_37, F13_38, F13_39, F13, ex_loop, EXA, Nat.reduceEqDiff, reduceIte, reduceCtorEq, Nat.reduceAdd, Nat.reduceLeDiff, Nat.reduceSub, Nat.reduceMul, Int.reduceEq, Int.reduceBEq, Int.reduceBNe, Int.reduceLT, Int.reduceLE, Nat.reduceLT, VX, readAt_some, h6]
  refine ex_whileI (S := Nat × List Slt × AV) (fun p => [(1, .vsl (l.map evE) none), (5, .vsl (ns.map sltE) none), (6, p.2.2), (7, .int .i64 (p.1 : Int))]) (fun p => l.length - p.1)
    (fun p σ => Gr LSlt σ p.2.2 p.2.1 ∧ p.2.1.length ≤ p.1 ∧ fitsF ns p.2.1 (l.drop p.1) = fitsF ns [] l) ?_ (0, [], .nils) _ ⟨Gr.nil LSlt _, by simp, rfl⟩
  rintro b ⟨j, acc, v⟩ σ ⟨hg, hlen2, hj⟩ ih
  simp only at hg hlen2 hj ih ⊢
  by_cases hlt : j < l.length
  · obtain ⟨x, hx⟩ := get_lt hlt
    have hidx := idx_ev (c := none) hx
    have hcond := dlt hlt
    have hw := wsucc hlt (by omega)
    rw [drop_cons hx, fitsF] at hj
    have hn := hg.newset
    have hcall : ∀ a b, callP ipU gU false (.fn 34 [] []) [v, sltE x.slot] _ = some (.bool (hasT acc x.slot), _) := fun a b => (hn a b).call1 (by simp only [closedL, sltE_closed, Bool.and_self]) (by simp only [erL, sltE_er]; exact r_slotIn acc x.slot (by unfold big; omega)) rfl
    have c34 := r_slotIn ns x.slot (by unfold big; omega)
    unfold Ev.slot at hcall c34 hj
    cases h1 : x.isState with
    | false =>
      simp only [h1, Bool.false_and, Bool.false_eq_true, if_false] at hj
      rw [← hj] at hr
      simp only [S17Fa, EXA, Nat.reduceEqDiff, reduceIte, reduceCtorEq, Nat.reduceAdd, Nat.reduceLeDiff, Nat.reduceSub, Nat.reduceMul, Int.reduceEq, Int.reduceBEq, Int.reduceBNe, Int.reduceLT, Int.reduceLE, Nat.reduceLT, VX, readAt_some, hcond, hidx, h1, hr]
    | true =>
    cases h2 : hasT acc ⟨x.type, x.key⟩ with
    | true =>
      rw [h2] at hcall
      simp only [h1, h2, Bool.not_true, Bool.false_and, Bool.and_false, Bool.false_eq_true, if_false] at hj
      rw [← hj] at hr
      simp only [S17Fa, EXA, Nat.reduceEqDiff, reduceIte, reduceCtorEq, Nat.reduceAdd, Nat.reduceLeDiff, Nat.reduceSub, Nat.reduceMul, Int.reduceEq, Int.reduceBEq, Int.reduceBNe, Int.reduceLT, Int.reduceLE, Nat.reduceLT, VX, readAt_some, hcond, hidx, h1, hcall, hr]
    | false =>
    rw [h2] at hcall
    cases h3 : hasT ns ⟨x.type, x.key⟩ with
    | false =>
      rw [h3] at c34
      simp only [h1, h2, h3, Bool.and_false, Bool.false_eq_true, if_false] at hj
      rw [← hj] at hr
      simp only [S17Fa, EXA, Nat.reduceEqDiff, reduceIte, reduceCtorEq, Nat.reduceAdd, Nat.reduceLeDiff, Nat.reduceSub, Nat.reduceMul, Int.reduceEq, Int.reduceBEq, Int.reduceBNe, Int.reduceLT, Int.reduceLE, Nat.reduceLT, VX, readAt_some, hcond, hidx, h1, hcall, c34, hr]
    | true =>
      rw [h3] at c34
      simp only [h1, h2, h3, Bool.not_false, Bool.and_self, if_true] at hj
      have happ : ∀ a b, appendTo _ 2 32 v [.str x.type, .str x.key] 1 = some _ := fun a b => (hn a b).push (a := (⟨x.type, x.key⟩ : Slt)) (bytes := 32) (by omega) (by unfold maxBytes; omega)
      have hlo : lenOf (.vsl [sltE ⟨x.type, x.key⟩] (some 1)) = some 1 := rfl
      have hro : ∀ σ', rowOf σ' 2 (.vsl [sltE ⟨x.type, x.key⟩] (some 1)) = some [.str x.type, .str x.key] := fun _ => rfl
      simp only [S17Fa, EXA, Nat.reduceEqDiff, reduceIte, reduceCtorEq, Nat.reduceAdd, Nat.reduceLeDiff, Nat.reduceSub, Nat.reduceMul, Int.reduceEq, Int.reduceBEq, Int.reduceBNe, Int.reduceLT, Int.reduceLE, Nat.reduceLT, VX, readAt_some, hcond, hidx, h1, hcall, c34, happ, hlo, hro, hw]
      exact ih (j + 1, acc ++ [⟨x.type, x.key⟩], _) _ _ (by simp; omega) ⟨Gr.own ((hn _ _).next (by simp)), by simp; omega, hj⟩ (by simp only [EXA, Nat.reduceEqDiff, reduceIte, reduceCtorEq, Nat.reduceAdd, Nat.reduceLeDiff, Nat.reduceSub, Nat.reduceMul, Int.reduceEq, Int.reduceBEq, Int.reduceBNe, Int.reduceLT, Int.reduceLE, Nat.reduceLT]; rfl)
  · have hcond := dge (Nat.not_lt.1 hlt)
    rw [List.drop_eq_nil_of_le (by omega), fitsF] at hj
    rw [← hj] at hr
    simp only [S17Fa, EXA, Nat.reduceEqDiff, reduceIte, reduceCtorEq, Nat.reduceAdd, Nat.reduceLeDiff, Nat.reduceSub, Nat.reduceMul, Int.reduceEq, Int.reduceBEq, Int.reduceBNe, Int.reduceLT, Int.reduceLE, Nat.reduceLT, VX, hcond, hr]
end Go.Ab
/- PickSays: true of any state and any event. -/
namespace Go.Ab
set_option linter.unusedSimpArgs false
set_option linter.defProp false
set_option maxHeartbeats 1000000
def S18Fb := And.intro @F0_0.eq_1 (And.intro @F0_1.eq_1 (And.intro @F0_2.eq_1 (And.intro @F0_3.eq_1 (And.intro @F0_4.eq_1 (And.intro @F0_5.eq_1 (And.intro @F0_6.eq_1 (And.intro @F0_7.eq_1 (And.intro @F0_8.eq_1 (And.intro @F0_9.eq_1 (And.intro @F0_10.eq_1 (And.intro @F0_11.eq_1 (And.intro @F0_12.eq_1 (And.intro @F0_13.eq_1 (And.intro @F0_14.eq_1 (And.intro @F0_16.eq_1 (And.intro @F0_17.eq_1 (And.intro @F0_18.eq_1 (And.intro @F0_19.eq_1 (And.intro @F0_20.eq_1 (And.intro @F0_21.eq_1 (And.intro @F0_22.eq_1 (And.intro @F0_23.eq_1 (And.intro @F0_24.eq_1 (And.intro @F0_25.eq_1 (And.intro @F0_26.eq_1 (And.intro @F0_27.eq_1 (@F0.eq_1)))))))))))))))))))))))))))
set_option maxRecDepth 100000
theorem evE_eta0 (e : Ev) : evE ⟨e.v, e.id, e.room, e.type, e.sender, e.key, e.isState, e.ts, e.depth, e.prev, e.auth, e.content⟩ = evE e := rfl
theorem ofE_mem {l : List Ev} {s : Slt} {P : Ev → Prop} (hl : ∀ x ∈ l, P x) (hz : P Ev.zero) : P (ofE l s).1 := by
  cases hf : l.find? (isAt s) with
  | none => rw [ofE_none hf]; exact hz
  | some y => rw [ofE_some hf]; exact hl y (List.mem_of_find?_eq_some hf)
theorem half_i64 {n : Nat} (h : n < big) : IntKind.wrap .i64 ((n : Int).tdiv 2) = ((n / 2 : Nat) : Int) := by
  unfold big at h
  have : ((n : Int).tdiv 2) = ((n / 2 : Nat) : Int) := by
    rw [Int.tdiv_eq_ediv_of_nonneg (by omega)]; omega
  rw [this]
  simp [IntKind.wrap, IntKind.bits, IntKind.signed]
  omega
theorem slice_half (l : List Ev) : slice3 20 (.vsl (l.map evE) none) (some none) (some (some ((l.length / 2 : Nat) : Int))) (some none) = some (.vsl ((l.take (l.length / 2)).map evE) none) := by
  have hb : bounds (l.map evE).length none (some ((l.length / 2 : Nat) : Int)) = some (0, l.length / 2) := by
    simp [bounds]; omega
  simp only [slice3, sliceOf, hb]
  simp [List.map_take]
theorem r_PickSays (l : List Ev) (e : Ev) (s : Slt) (hb : e.content.sz < big) (hbl : ∀ x ∈ l, x.content.sz < big) (hbv : ∀ x ∈ l, x.v.sz < big) (hll : l.length < lim) (hs1 : s.type.length < lim) (hs2 : s.key.length < lim)
    (hls : ∀ x ∈ l, x.prev.length < lim ∧ x.auth.length < lim) :
    cR 0 [.vsl (l.map evE) none, evE e, sltE s] = some (.bool true) := by
  have hll' : l.length < big := by unfold lim at hll; unfold big; omega
  have h2 := r_light l 30 hbl hll'
  have h3 := r_light [e] 1 (fun x hx => by simp only [List.mem_singleton] at hx; subst hx; exact hb) (by simp [big])
  simp only [List.map_cons, List.map_nil] at h3
  have hw : IntKind.wrap .i64 ((s.type.length : Int) + (s.key.length : Int)) = ((s.type.length + s.key.length : Nat) : Int) := wadd (by unfold lim at hs1 hs2; omega)
  have c3 := r_Of l s hll' hls
  have c4 := r_In l s.type s.key hll'
  rw [show (⟨s.type, s.key⟩ : Slt) = s from rfl] at c4
  have c5 := r_needs e hb
  have c6 := r_refNeeds e hb
  have hn7 := needs_len e
  have c7 := r_slots (needs e) (needs e) (by unfold big; omega)
  simp only [decide_true] at c7
  have c8 := r_pick l e hb hll' hls
  have c9 := r_refPick l e hb hll'
  have hpl : (pickF l (needs e)).length < big := by
    have : (pickF l (needs e)).length ≤ (needs e).length := List.length_filterMap_le _ _
    unfold big; omega
  have c10 := r_Texts (pickF l (needs e)) (pickF l (needs e)) hpl
  simp only [BEq.rfl] at c10
  have z1 : (ofE l s).1.v.sz < big := ofE_mem (P := fun x => x.v.sz < big) hbv (by decide)
  have z2 : (ofE l s).1.content.sz < big := ofE_mem (P := fun x => x.content.sz < big) hbl (by decide)
  have z3 : (ofE l s).1.prev.length < big := ofE_mem (P := fun x => x.prev.length < big) (fun x hx => by have := (hls x hx).1; unfold lim at this; unfold big; omega) (by decide)
  have z4 : (ofE l s).1.auth.length < big := ofE_mem (P := fun x => x.auth.length < big) (fun x hx => by have := (hls x hx).2; unfold lim at this; unfold big; omega) (by decide)
  have c11 := r_sameEvent (ofE l s).1 z1 z2 z3 z4
  clear z1 z2 z3 z4
  have c12 := r_fits e l hb hll
  have c13 := r_refFits e l hb hll
  have c14 := r_fits e (l.take (l.length / 2)) hb (by rw [List.length_take]; omega)
  have c15 := r_refFits e (l.take (l.length / 2)) hb (by rw [List.length_take]; omega)
  have hsl := slice_half l
  have hh := half_i64 hll'
  refine cR_of (F := F0) rfl ?_
  obtain ⟨r, hr⟩ : ∃ r, r = AV.bool true := ⟨_, rfl⟩
  rw [← hr]
  generalize ofE l s = x at c3 c4 c11
  obtain ⟨x, b⟩ := x
  simp only at c3 c4 c11
  generalize needs e = ns at c5 c6 c7 c8 c9 c10
  generalize pickF l ns = ps at c8 c9 c10
  generalize fits e l = f1 at c12 c13
  generalize fits e (l.take (l.length / 2)) = f2 at c14 c15
  generalize l.take (l.length / 2) = l2 at hsl c14 c15
  cases hl2 : (!(decide ((l.length : Int) > 30)) && l.all lightE) with
  | false =>
    rw [hl2] at h2
    simp only [S18Fb, EXA, Nat.reduceEqDiff, reduceIte, reduceCtorEq, Nat.reduceAdd, Nat.reduceLeDiff, Nat.reduceSub, Nat.reduceMul, Int.reduceEq, Int.reduceBEq, Int.reduceBNe, Int.reduceLT, Int.reduceLE, Nat.reduceLT, VX, readAt_some, evE_eta0, r_awake19, h2, hr]
  | true =>
  rw [hl2] at h2
  cases hl3 : (!(decide ((([e].length : Nat) : Int) > 1)) && [e].all lightE) with
  | false =>
    rw [hl3] at h3
    simp only [S18Fb, EXA, Nat.reduceEqDiff, reduceIte, reduceCtorEq, Nat.reduceAdd, Nat.reduceLeDiff, Nat.reduceSub, Nat.reduceMul, Int.reduceEq, Int.reduceBEq, Int.reduceBNe, Int.reduceLT, Int.reduceLE, Nat.reduceLT, VX, readAt_some, evE_eta0, r_awake19, h2, h3, hr]
  | true =>
  rw [hl3] at h3
  cases hg : decide (((s.type.length + s.key.length : Nat) : Int) > 600) with
  | true =>
    simp only [S18Fb, EXA, Nat.reduceEqDiff, reduceIte, reduceCtorEq, Nat.reduceAdd, Nat.reduceLeDiff, Nat.reduceSub, Nat.reduceMul, Int.reduceEq, Int.reduceBEq, Int.reduceBNe, Int.reduceLT, Int.reduceLE, Nat.reduceLT, VX, readAt_some, evE_eta0, r_awake19, h2, h3, hw, hg, hr]
  | false =>
    simp only [S18Fb, EXA, Nat.reduceEqDiff, reduceIte, reduceCtorEq, Nat.reduceAdd, Nat.reduceLeDiff, Nat.reduceSub, Nat.reduceMul, Int.reduceEq, Int.reduceBEq, Int.reduceBNe, Int.reduceLT, Int.reduceLE, Nat.reduceLT, VX, readAt_some, evE_eta0, r_awake19, h2, h3, hw, hg, Slt.eta, c3, c4]
    simp only [F0_0, F0_1, F0_2, F0_3, F0_4, F0_5, F0_6, F0_7, F0_8, F0_9, F0_10, F0_11, F0_12, F0_13, F0_14, F0_15, F0_16, F0_17, F0_18, F0_19, F0_20, F0_21, F0_22, F0_23, F0_24, F0_25, F0_26, F0_27, F0, EXA, Nat.reduceEqDiff, reduceIte, reduceCtorEq, Nat.reduceAdd, Nat.reduceLeDiff, Nat.reduceSub, Nat.reduceMul, Int.reduceEq, Int.reduceBEq, Int.reduceBNe, Int.reduceLT, Int.reduceLE, Nat.reduceLT, VX, readAt_some, evE_eta0, c5, c6, c7, c8, c9, c10, c11, c12, c13, c14, c15, hh, hsl, boolB, hr]
end Go.Ab
