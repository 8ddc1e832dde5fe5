/- What functions of the program, and of the library, answer. Conditions: none. -/
import Derived.Test.YtgckcnggblomgaaGreatDoorLaw7
import Derived.Test.YtgckcnggblomgaaGreatDoorLaw6
import Derived.Test.YtgckcnggblomgaaGreatDoorLaw5
set_option linter.unusedVariables false
set_option linter.unusedSimpArgs false
set_option linter.defProp false
/- The document's Map: by keys, of one key the last one. -/
namespace Go.Ab
set_option maxHeartbeats 1000000
def U4Fa := J @F128_6.eq_1 (J @F128_11.eq_1 (J @F128_14.eq_1 (J @F128_15.eq_1 (J @F128_25.eq_1 (J @F128_30.eq_1 (J @F128_36.eq_1 (J @F128_37.eq_1 (J @F128_45.eq_1 (J @F128_46.eq_1 (J @F128_57.eq_1 (J @F128_58.eq_1 (J @F128_65.eq_1 (@F128.eq_1)))))))))))))
set_option maxRecDepth 100000
def posM (acc : List Mem) (k : Bs) : Nat := (acc.takeWhile fun x => bytesLess x.1 k).length
def hitM (acc : List Mem) (k : Bs) : Bool := match acc[posM acc k]? with
  | some y => y.1 == k
  | none => false
def insM (acc : List Mem) (m : Mem) : List Mem := if hitM acc m.1 then acc.set (posM acc m.1) m else acc.take (posM acc m.1) ++ m :: acc.drop (posM acc m.1)
def refMapL (l : List Mem) : List Mem := l.foldl insM []
theorem posM_le (acc : List Mem) (k : Bs) : posM acc k ≤ acc.length := (List.takeWhile_sublist _).length_le
theorem insM_len (acc : List Mem) (m : Mem) : (insM acc m).length ≤ acc.length + 1 := by
  have := posM_le acc m.1
  unfold insM
  split
  · simp
  · simp; omega
theorem takeWhile_step {α : Type} {p : α → Bool} {l : List α} {j : Nat} {x : α} (hx : l[j]? = some x) (h : ∀ y ∈ l.take j, p y = true) : (p x = true → ∀ y ∈ l.take (j + 1), p y = true) ∧ (p x = false → (l.takeWhile p).length = j) := by
  constructor
  · intro hp y hy
    rw [List.take_add_one, hx] at hy
    simp only [Option.toList_some, List.mem_append, List.mem_singleton] at hy
    rcases hy with hy | rfl
    · exact h y hy
    · exact hp
  · intro hp
    have hl : j ≤ l.length := by have := (List.getElem?_eq_some_iff.1 hx).1; omega
    have e : l = l.take j ++ x :: l.drop (j + 1) := by rw [← drop_cons hx, List.take_append_drop]
    rw [e, List.takeWhile_append_of_pos h, List.takeWhile_cons, hp]
    simp; omega
theorem takeWhile_all {α : Type} {p : α → Bool} {l : List α} (h : ∀ y ∈ l, p y = true) : (l.takeWhile p).length = l.length := by
  induction l with
  | nil => rfl
  | cons a l ih => rw [List.takeWhile_cons, h a (by simp)]; simp only [if_true, List.length_cons, ih (fun y hy => h y (by simp [hy]))]
/-- A growing list of members: none yet, or a block of its own. -/
def GM (σ : Store) (v : AV) (l : List Mem) : Prop := (v = .nils ∧ l = []) ∨ ∃ b, v = .sl b 0 l.length 6 none ∧ look σ.m b = some (.own (LMem.cells l)) ∧ b < σ.next ∧ 0 < b
theorem GM.lenL {σ : Store} {v : AV} {l : List Mem} (h : GM σ v l) : lenL v = some (.int .i64 l.length) := by
  rcases h with ⟨rfl, rfl⟩ | ⟨b, rfl, _⟩ <;> rfl
theorem GM.idx {σ : Store} {v : AV} {l : List Mem} (h : GM σ v l) {j : Nat} {x : Mem} (hj : l[j]? = some x) :
    ∃ b, v = .sl b 0 l.length 6 none ∧ idxOf 6 none v (.int .i64 (j : Int)) = some (.ptr b (j * 6)) ∧ readPtr σ (.ptr b (j * 6)) (some 6) = some (memE x) ∧ readPtr σ (.ptr b (j * 6)) none = some (.str x.1) := by
  have hlt := lt_of_get hj
  rcases h with ⟨rfl, rfl⟩ | ⟨b, rfl, h, hb, _⟩
  · simp at hj
  · have e : l = l.take j ++ x :: l.drop (j + 1) := by rw [← drop_cons hj, List.take_append_drop]
    have hl : (l.take j).length = j := by simp; omega
    have hr : readAt (LMem.cells l) (j * 6) (some 6) = some (memE x) := by
      have : readAt (LMem.cells (l.take j ++ x :: l.drop (j + 1)) ++ []) ((l.take j).length * 6) (some 6) = some (memE x) := read_row LMem (by simp [LMem]) (l.take j) (l.drop (j + 1)) x []
      rw [hl, ← e, List.append_nil] at this
      exact this
    have hk : readAt (LMem.cells l) (j * 6) none = some (.str x.1) := by
      have h1 : (LMem.cells (l.take j)).length = j * 6 := by rw [LMem.cells_len, hl]; rfl
      rw [readAt_none, e, Lay.cells_append, Lay.cells_cons, List.getElem?_append_right (by omega), h1, Nat.sub_self]
      show ((memE x).cells ++ _)[0]? = _
      rw [memE_cells]; rfl
    have hc : σ.cells b = some (LMem.cells l) := by simp [Store.cells, Store.get, h]
    exact ⟨b, rfl, idx_sl (σ := σ) hlt, by simp only [readPtr, hc, hr], by simp only [readPtr, hc, hk]⟩
abbrev mapF (l : List Mem) (v : AV) (i : Nat) : Fr := [(0, .vsl (l.map memE) none), (2, .ptr 0 0), (3, v), (4, .int .i64 (i : Int))]
/-- The first loop: where a key belongs. -/
theorem map_pos {l acc : List Mem} {v : AV} {i : Nat} {m : Mem} {σ : Store} {k : List Item} {Q : Fr → Store → Prop} (hb : l.length < lim) (hacc : acc.length ≤ i) (hm : l[i]? = some m) (hg : GM σ v acc)
    (hk : ∀ rest : Fr, Ex ipU gU k ((0, .vsl (l.map memE) none) :: (2, .ptr 0 0) :: (3, v) :: (4, .int .i64 (i : Int)) :: (5, .int .i64 (posM acc m.1 : Nat)) :: rest) σ Q) :
    Ex ipU gU (.code F128_15 :: .inLoop [0, 2, 3, 4, 5] F128_15 :: .inBlock 2 :: k) [(0, .vsl (l.map memE) none), (2, .ptr 0 0), (3, v), (4, .int .i64 (i : Int)), (5, .int .i64 0)] σ Q := by
  have hil := lt_of_get hm
  unfold lim at hb
  refine ex_while (S := Nat) (fun j => [(0, .vsl (l.map memE) none), (2, .ptr 0 0), (3, v), (4, .int .i64 (i : Int)), (5, .int .i64 (j : Int))]) (fun _ => σ) (fun j => acc.length - j) (fun j => j ≤ acc.length ∧ ∀ y ∈ acc.take j, bytesLess y.1 m.1 = true) ?_ 0 ⟨by omega, by simp⟩
  rintro b j ⟨hjl, hj⟩ ih
  have hlen := hg.lenL
  have hidxm := idx_mem (c := none) hm
  by_cases hlt : j < acc.length
  · obtain ⟨x, hx⟩ := get_lt hlt
    have hcond := dlt hlt
    have hw := wsucc hlt (by omega)
    obtain ⟨b', hv, h1, h2, h3⟩ := hg.idx hx
    obtain ⟨s1, s2⟩ := takeWhile_step (p := fun y : Mem => bytesLess y.1 m.1) hx hj
    cases hbl : bytesLess x.1 m.1 with
    | true =>
      simp only [U4Fa, EXA, Nat.reduceEqDiff, reduceIte, reduceCtorEq, Nat.reduceAdd, Nat.reduceLeDiff, Nat.reduceSub, Nat.reduceMul, Int.reduceEq, Int.reduceBEq, Int.reduceBNe, Int.reduceLT, Int.reduceLE, Nat.reduceLT, VX, readAt_some, hlen, hcond, h1, h3, Nat.add_zero, hidxm, hbl, hw]
      exact ih (j + 1) _ _ (by omega) ⟨hlt, s1 hbl⟩ (by simp only [EXA, Nat.reduceEqDiff, reduceIte, reduceCtorEq, Nat.reduceAdd, Nat.reduceLeDiff, Nat.reduceSub, Nat.reduceMul, Int.reduceEq, Int.reduceBEq, Int.reduceBNe, Int.reduceLT, Int.reduceLE, Nat.reduceLT]) rfl
    | false =>
      have := s2 hbl
      have hp : posM acc m.1 = j := this
      rw [hp] at hk
      simp only [U4Fa, EXA, Nat.reduceEqDiff, reduceIte, reduceCtorEq, Nat.reduceAdd, Nat.reduceLeDiff, Nat.reduceSub, Nat.reduceMul, Int.reduceEq, Int.reduceBEq, Int.reduceBNe, Int.reduceLT, Int.reduceLE, Nat.reduceLT, VX, readAt_some, hlen, hcond, h1, h3, Nat.add_zero, hidxm, hbl]
      exact hk _
  · have hcond := dge (Nat.not_lt.1 hlt)
    have hp : posM acc m.1 = j := by
      have : j = acc.length := by omega
      rw [this] at hj ⊢
      rw [List.take_of_length_le (Nat.le_refl _)] at hj
      exact takeWhile_all hj
    rw [hp] at hk
    simp only [U4Fa, EXA, Nat.reduceEqDiff, reduceIte, reduceCtorEq, Nat.reduceAdd, Nat.reduceLeDiff, Nat.reduceSub, Nat.reduceMul, Int.reduceEq, Int.reduceBEq, Int.reduceBNe, Int.reduceLT, Int.reduceLE, Nat.reduceLT, VX, hlen, hcond]
    exact hk _
/-- What a block holds while its members are shifted. -/
def shC (acc : List Mem) (j : Nat) (junk : List AV) : List AV := LMem.cells (acc.take j) ++ junk ++ LMem.cells (acc.drop j)
theorem shC_len {acc : List Mem} {j : Nat} {junk : List AV} (hj : junk.length = 6) : (shC acc j junk).length = (acc.length + 1) * 6 := by
  unfold shC
  rw [List.length_append, List.length_append, LMem.cells_len, LMem.cells_len, hj, List.length_take, List.length_drop]
  show min j acc.length * 6 + 6 + (acc.length - j) * 6 = _
  omega
theorem take_cells (acc : List Mem) {j : Nat} (h : j ≤ acc.length) : (LMem.cells (acc.take j)).length = j * 6 := by
  rw [LMem.cells_len, List.length_take, Nat.min_eq_left h]; rfl
theorem shC_splice {acc : List Mem} {j : Nat} {junk : List AV} (hj : junk.length = 6) (h : j ≤ acc.length) (m : Mem) : splice (shC acc j junk) (j * 6) (memE m).cells = LMem.cells (acc.take j ++ m :: acc.drop j) := by
  have h1 := take_cells acc h
  have hm : (memE m).cells.length = 6 := LMem.len m
  unfold splice shC
  rw [hm, Lay.cells_append, Lay.cells_cons, List.append_assoc, ← h1]
  have h0 : (LMem.cells (acc.take j) ++ junk ++ LMem.cells (acc.drop j)).take (LMem.cells (acc.take j)).length = LMem.cells (acc.take j) := by rw [List.append_assoc, List.take_left]
  rw [h0]
  have h2 : (LMem.cells (acc.take j)).length + 6 = (LMem.cells (acc.take j) ++ junk).length := by rw [List.length_append, hj]
  rw [h2, List.drop_left]
  rfl
theorem shC_read {acc : List Mem} {j : Nat} {junk : List AV} {x : Mem} (h : j + 1 ≤ acc.length) (hx : acc[j]? = some x) : readAt (shC acc (j + 1) junk) (j * 6) (some 6) = some (memE x) := by
  unfold shC
  have e : acc.take (j + 1) = acc.take j ++ x :: [] := by rw [List.take_add_one, hx]; rfl
  have := read_row LMem (by simp [LMem]) (acc.take j) [] x (junk ++ LMem.cells (acc.drop (j + 1)))
  rw [e, List.append_assoc]
  have hl : (acc.take j).length = j := by simp; omega
  rw [hl] at this
  exact this
theorem shC_step {acc : List Mem} {j : Nat} {junk : List AV} {x : Mem} (hj : junk.length = 6) (h : j + 1 ≤ acc.length) (hx : acc[j]? = some x) : splice (shC acc (j + 1) junk) ((j + 1) * 6) (memE x).cells = shC acc j (memE x).cells := by
  rw [shC_splice hj h]
  unfold shC
  have e : acc.take (j + 1) = acc.take j ++ [x] := by rw [List.take_add_one, hx]; rfl
  have e2 : acc.drop j = x :: acc.drop (j + 1) := drop_cons hx
  rw [e, e2, List.append_assoc, Lay.cells_append, List.singleton_append, Lay.cells_cons, List.append_assoc]
  rfl
abbrev shF (l acc : List Mem) (b i p : Nat) (j : Nat) : Fr := [(0, .vsl (l.map memE) none), (2, .ptr 0 0), (3, .sl b 0 (acc.length + 1) 6 none), (4, .int .i64 (i : Int)), (5, .int .i64 (p : Int)), (6, .int .i64 (j : Int))]
/-- The second loop: members are shifted. -/
theorem map_shift {l acc : List Mem} {b i p : Nat} {σ : Store} {k : List Item} {Q : Fr → Store → Prop} (hb : acc.length < lim) (hp : p ≤ acc.length) {junk : List AV} (hj : junk.length = 6) (hrow : look σ.m b = some (.own (shC acc acc.length junk))) (hbn : b < σ.next) (hb0 : 0 < b)
    (hk : ∀ (junk : List AV) (σ' : Store) (rest : Fr), junk.length = 6 → look σ'.m b = some (.own (shC acc p junk)) → σ'.next = σ.next → (∀ b', b' ≠ b → look σ'.m b' = look σ.m b') →
      Ex ipU gU k ((0, .vsl (l.map memE) none) :: (2, .ptr 0 0) :: (3, .sl b 0 (acc.length + 1) 6 none) :: (4, .int .i64 (i : Int)) :: (5, .int .i64 (p : Int)) :: rest) σ' Q) :
    Ex ipU gU (.code F128_37 :: .inLoop [0, 2, 3, 4, 5, 6] F128_37 :: .inBlock 4 :: k) (shF l acc b i p acc.length) σ Q := by
  unfold lim at hb
  refine ex_whileI (S := Nat × List AV) (fun s => shF l acc b i p s.1) (fun s => s.1) (fun s σ' => p ≤ s.1 ∧ s.1 ≤ acc.length ∧ s.2.length = 6 ∧ look σ'.m b = some (.own (shC acc s.1 s.2)) ∧ σ'.next = σ.next ∧ ∀ b', b' ≠ b → look σ'.m b' = look σ.m b') ?_ (acc.length, junk) σ ⟨hp, Nat.le_refl _, hj, hrow, rfl, fun _ _ => rfl⟩
  rintro bd ⟨j, junk⟩ σ' ⟨hpj, hja, hj6, hrow, hnx, hold⟩ ih
  simp only at hpj hja hj6 hrow ih ⊢
  by_cases hlt : p < j
  · obtain ⟨j, rfl⟩ : ∃ j', j = j' + 1 := ⟨j - 1, by omega⟩
    have hcond : decide (((j + 1 : Nat) : Int) > (p : Int)) = true := by simp; omega
    obtain ⟨x, hx⟩ := get_lt (l := acc) (j := j) (by omega)
    have hw := wpred (j := j + 1) (by omega) (by omega)
    simp only [Nat.add_sub_cancel] at hw
    have h1 := idx_sl (b := b) (n := acc.length + 1) (σ := σ') (j := j) (by omega)
    have h2 := idx_sl (b := b) (n := acc.length + 1) (σ := σ') (j := j + 1) (by omega)
    have h3 := shC_read (junk := junk) hja hx
    have h4 := shC_step hj6 hja hx
    have hle : (j + 1) * 6 + 6 ≤ (shC acc (j + 1) junk).length := by rw [shC_len hj6]; omega
    have hone : (memE x).cells.all AV.one = true := LMem.one x
    have hlx : (memE x).cells.length = 6 := LMem.len x
    simp only [memE_cells] at h4 hone hlx
    simp only [splice, List.length_cons, List.length_nil, Nat.zero_add, Nat.reduceAdd] at h4
    simp only [U4Fa, EXA, Nat.reduceEqDiff, reduceIte, reduceCtorEq, Nat.reduceAdd, Nat.reduceLeDiff, Nat.reduceSub, Nat.reduceMul, Int.reduceEq, Int.reduceBEq, Int.reduceBNe, Int.reduceLT, Int.reduceLE, Nat.reduceLT, VX, readAt_some, hcond, hw, h1, h2, h3, h4, hrow, hle, hone]
    refine ih (j, (memE x).cells) _ _ (by simp) ⟨by omega, by omega, LMem.len x, ?_, hnx, ?_⟩ (by simp only [EXA, Nat.reduceEqDiff, reduceIte, reduceCtorEq, Nat.reduceAdd, Nat.reduceLeDiff, Nat.reduceSub, Nat.reduceMul, Int.reduceEq, Int.reduceBEq, Int.reduceBNe, Int.reduceLT, Int.reduceLE, Nat.reduceLT])
    · simp only [look, if_true, memE_cells, h4]
    · intro b' hb'
      have : (b = b') = False := by simp; exact fun hh => hb' hh.symm
      simp only [look, this, if_false]
      exact hold b' hb'
  · have hcond : decide ((j : Int) > (p : Int)) = false := by simp; omega
    have : j = p := by omega
    subst this
    simp only [U4Fa, EXA, Nat.reduceEqDiff, reduceIte, reduceCtorEq, Nat.reduceAdd, Nat.reduceLeDiff, Nat.reduceSub, Nat.reduceMul, Int.reduceEq, Int.reduceBEq, Int.reduceBNe, Int.reduceLT, Int.reduceLE, Nat.reduceLT, hcond]
    exact hk junk σ' _ hj6 hrow hnx hold
end Go.Ab
/- The document's Map, whole. -/
namespace Go.Ab
set_option maxHeartbeats 1000000
def U5Fa := J @F128_6.eq_1 (J @F128_11.eq_1 (J @F128_14.eq_1 (J @F128_25.eq_1 (J @F128_30.eq_1 (J @F128_36.eq_1 (J @F128_45.eq_1 (J @F128_57.eq_1 (J @F128_58.eq_1 (J @F128_65.eq_1 (@F128.eq_1))))))))))
def U5Fc := J @F128_6.eq_1 (J @F128_11.eq_1 (J @F128_14.eq_1 (J @F128_15.eq_1 (J @F128_25.eq_1 (J @F128_30.eq_1 (J @F128_36.eq_1 (J @F128_45.eq_1 (J @F128_46.eq_1 (J @F128_57.eq_1 (J @F128_58.eq_1 (J @F128_65.eq_1 (@F128.eq_1))))))))))))
set_option maxRecDepth 100000
theorem set_cells {acc : List Mem} {j : Nat} (h : j < acc.length) (m : Mem) : splice (LMem.cells acc) (j * 6) (memE m).cells = LMem.cells (acc.set j m) := by
  obtain ⟨x, hx⟩ := get_lt h
  have e : acc = acc.take j ++ x :: acc.drop (j + 1) := by rw [← drop_cons hx, List.take_append_drop]
  have e2 : acc.set j m = acc.take j ++ m :: acc.drop (j + 1) := List.set_eq_take_append_cons_drop.trans (by rw [if_pos h])
  have hl : (acc.take j).length = j := by simp; omega
  have := splice_row LMem (acc.take j) (acc.drop (j + 1)) x m []
  rw [hl, ← e, ← e2, List.append_nil, List.append_nil] at this
  exact this
abbrev v0C : List AV := [.int .i64 0, .int .i64 0, .str [], .nils, .nils]
theorem GM.frame {σ σ' : Store} {v : AV} {l : List Mem} (h : GM σ v l) (hn : σ.next ≤ σ'.next) (hg : ∀ b, v = .sl b 0 l.length 6 none → look σ'.m b = look σ.m b) : GM σ' v l := by
  rcases h with h | ⟨b, rfl, h1, h2, h3⟩
  · exact .inl h
  · exact .inr ⟨b, rfl, by rw [hg b rfl]; exact h1, by omega, h3⟩
/-- A nought behind a list. -/
theorem GM.app {σ : Store} {v : AV} {l : List Mem} (h : GM σ v l) (hl : l.length < lim) (hn : 0 < σ.next) : ∃ σ', appendTo σ 6 96 v zMem 1 = some (.sl σ.next 0 (l.length + 1) 6 none, σ') ∧
    look σ'.m σ.next = some (.own (shC l l.length zMem)) ∧ σ'.next = σ.next + 1 ∧ look σ'.m 0 = look σ.m 0 := by
  unfold lim at hl
  have hc : shC l l.length zMem = LMem.cells l ++ zMem := by
    unfold shC
    rw [List.take_of_length_le (Nat.le_refl _), List.drop_of_length_le (Nat.le_refl _)]
    simp [Lay.cells]
  rcases h with ⟨rfl, rfl⟩ | ⟨b, rfl, h1, h2, h3⟩
  · obtain ⟨σ', a1, a2, a3, a4⟩ := append_own (σ := σ) (sz := 6) (bytes := 96) (n := 0) (k := 1) (ob := none) (cells := []) (new := zMem) ⟨rfl, rfl⟩ (by omega) (by omega) (by unfold maxBytes; omega) rfl rfl (by omega)
    refine ⟨σ', a1, ?_, a3, a4 0 hn (by simp)⟩
    rw [hc]
    exact a2.1
  · cases l with
    | nil =>
      refine ⟨(σ.set b .dead).alloc ([] ++ zMem), ?_, ?_, rfl, ?_⟩
      · have ho : σ.owned b = some [] := by
          have : σ.get b = some (.own (LMem.cells [])) := h1
          simp [Store.owned, this, Lay.cells]
        unfold appendTo
        simp only [lenOf, ho, List.length_nil]
        simp [maxBytes, AV.one]
      · rw [hc]; exact get_alloc_next (σ := σ.set b .dead)
      · have := get_alloc (σ := σ.set b .dead) (cs := [] ++ zMem) (b := 0) (by rw [next_set]; omega)
        exact this.trans (get_set (by omega))
    | cons x l =>
      obtain ⟨σ', a1, a2, a3, a4⟩ := append_own (σ := σ) (sz := 6) (bytes := 96) (n := (x :: l).length) (k := 1) (ob := some b) (cells := LMem.cells (x :: l)) (new := zMem) ⟨h1, LMem.cells_len _, h2, by simp⟩ (by omega) (by omega) (by unfold maxBytes; omega) rfl rfl (by omega)
      refine ⟨σ', a1, ?_, a3, a4 0 hn (by simp; omega)⟩
      rw [hc]
      exact a2.1
/-- A member that is put between others. -/
theorem map_ins {l acc : List Mem} {v : AV} {i p : Nat} {m : Mem} {σ : Store} {k : List Item} {Q : Fr → Store → Prop} (hb : l.length < lim) (hai : acc.length ≤ i) (hm : l[i]? = some m) (hg : GM σ v acc) (hp : p ≤ acc.length) (h0 : look σ.m 0 = some (.own v0C)) (hn : 0 < σ.next)
    (hk : ∀ (v' : AV) (σ' : Store) (fr : Fr), GM σ' v' (acc.take p ++ m :: acc.drop p) → look σ'.m 0 = some (.own v0C) → 0 < σ'.next → (look fr 0).getD .undef = .vsl (l.map memE) none → (look fr 2).getD .undef = .ptr 0 0 → (look fr 3).getD .undef = v' →
      (look fr 4).getD .undef = .int .i64 (i : Int) → Ex ipU gU k fr σ' Q) :
    Ex ipU gU (.code F128_46 :: k) [(0, .vsl (l.map memE) none), (2, .ptr 0 0), (3, v), (4, .int .i64 (i : Int)), (5, .int .i64 (p : Int))] σ Q := by
  have hil := lt_of_get hm
  have hal : acc.length < lim := by omega
  have hal' := hal
  unfold lim at hal'
  obtain ⟨σ1, happ, hrow, hnx, hz⟩ := hg.app hal hn
  have hlo : lenOf (.vsl [.agg zMem] (some 1)) = some 1 := rfl
  have hro : ∀ σ', rowOf σ' 6 (.vsl [.agg zMem] (some 1)) = some zMem := fun _ => rfl
  have hl : lenL (.sl σ.next 0 (acc.length + 1) 6 none) = some (.int .i64 ((acc.length + 1 : Nat) : Int)) := rfl
  have hw := wpred (j := acc.length + 1) (by omega) (by omega)
  simp only [Nat.add_sub_cancel] at hw
  simp only [U5Fc, ex_loop, EXA, Nat.reduceEqDiff, reduceIte, reduceCtorEq, Nat.reduceAdd, Nat.reduceLeDiff, Nat.reduceSub, Nat.reduceMul, Int.reduceEq, Int.reduceBEq, Int.reduceBNe, Int.reduceLT, Int.reduceLE, Nat.reduceLT, hlo, hro, happ, hl, hw]
  refine map_shift hal hp (junk := zMem) rfl hrow (by omega) hn ?_
  intro junk σ' rest hj6 hrow' hnx' hold
  have h1 := idx_sl (b := σ.next) (n := acc.length + 1) (σ := σ') (j := p) (by omega)
  have hidxm := idx_mem (c := none) hm
  have hspl := shC_splice hj6 hp m
  have hle : p * 6 + 6 ≤ (shC acc p junk).length := by rw [shC_len hj6]; omega
  have hone : (memE m).cells.all AV.one = true := LMem.one m
  simp only [memE_cells] at hspl hone
  simp only [splice, List.length_cons, List.length_nil, Nat.zero_add, Nat.reduceAdd] at hspl
  simp only [U5Fc, EXA, Nat.reduceEqDiff, reduceIte, reduceCtorEq, Nat.reduceAdd, Nat.reduceLeDiff, Nat.reduceSub, Nat.reduceMul, Int.reduceEq, Int.reduceBEq, Int.reduceBNe, Int.reduceLT, Int.reduceLE, Nat.reduceLT, VX, readAt_some, hidxm, h1, hrow', hle, hone, hspl]
  refine hk (.sl σ.next 0 (acc.length + 1) 6 none) _ _ (.inr ⟨σ.next, ?_, ?_, ?_, hn⟩) ?_ ?_ (by simp only [EXA, Nat.reduceEqDiff, reduceIte, reduceCtorEq, Nat.reduceAdd, Nat.reduceLeDiff, Nat.reduceSub, Nat.reduceMul, Int.reduceEq, Int.reduceBEq, Int.reduceBNe, Int.reduceLT, Int.reduceLE, Nat.reduceLT]) (by simp only [EXA, Nat.reduceEqDiff, reduceIte, reduceCtorEq, Nat.reduceAdd, Nat.reduceLeDiff, Nat.reduceSub, Nat.reduceMul, Int.reduceEq, Int.reduceBEq, Int.reduceBNe, Int.reduceLT, Int.reduceLE, Nat.reduceLT]) (by simp only [EXA, Nat.reduceEqDiff, reduceIte, reduceCtorEq, Nat.reduceAdd, Nat.reduceLeDiff, Nat.reduceSub, Nat.reduceMul, Int.reduceEq, Int.reduceBEq, Int.reduceBNe, Int.reduceLT, Int.reduceLE, Nat.reduceLT]) (by simp only [EXA, Nat.reduceEqDiff, reduceIte, reduceCtorEq, Nat.reduceAdd, Nat.reduceLeDiff, Nat.reduceSub, Nat.reduceMul, Int.reduceEq, Int.reduceBEq, Int.reduceBNe, Int.reduceLT, Int.reduceLE, Nat.reduceLT])
  · congr 1
    simp; omega
  · simp only [look, if_true]
  · show σ.next < σ'.next; omega
  · have : (σ.next = 0) = False := by simp; omega
    simp only [look, this, if_false]
    rw [hold 0 (by omega), hz, h0]
  · show 0 < σ'.next; omega
theorem r_refMap (l : List Mem) (hb : l.length < lim) : cR 128 [.vsl (l.map memE) none] = some (V.mk 5 0 [] [] (refMapL l)).enc := by
  have hb' := hb
  unfold lim at hb'
  refine cR_of (F := F128) rfl ?_
  obtain ⟨r, hr⟩ : ∃ r, r = (V.mk 5 0 [] [] (refMapL l)).enc := ⟨_, rfl⟩
  rw [← hr]
  simp only [F128_6, F128_11, F128_14, F128_25, F128_30, F128_36, F128_45, F128_57, F128_65, F128, ex_loop, EXA, Nat.reduceEqDiff, reduceIte, reduceCtorEq, Nat.reduceAdd, Nat.reduceLeDiff, Nat.reduceSub, Nat.reduceMul, Int.reduceEq, Int.reduceBEq, Int.reduceBNe, Int.reduceLT, Int.reduceLE, Nat.reduceLT, VX]
  refine ex_whileI (S := Nat × List Mem × AV) (fun s => mapF l s.2.2 s.1) (fun s => l.length - s.1)
    (fun s σ => GM σ s.2.2 s.2.1 ∧ s.2.1.length ≤ s.1 ∧ s.1 ≤ l.length ∧ (l.drop s.1).foldl insM s.2.1 = refMapL l ∧ look σ.m 0 = some (.own v0C) ∧ 0 < σ.next) ?_ (0, [], .nils) _ ⟨.inl ⟨rfl, rfl⟩, by simp, by simp, rfl, by simp [look], by simp⟩
  rintro bd ⟨i, acc, v⟩ σ ⟨hg, hai, hil, hf, h0, hn⟩ ih
  simp only at hg hai hil hf ih ⊢
  by_cases hlt : i < l.length
  · obtain ⟨m, hm⟩ := get_lt hlt
    have hcond := dlt hlt
    rw [drop_cons hm, List.foldl_cons] at hf
    have hw := wsucc hlt (by omega)
    have hlen := hg.lenL
    have hidxm := idx_mem (c := none) hm
    have hil2 := insM_len acc m
    simp only [U5Fa, ex_loop, EXA, Nat.reduceEqDiff, reduceIte, reduceCtorEq, Nat.reduceAdd, Nat.reduceLeDiff, Nat.reduceSub, Nat.reduceMul, Int.reduceEq, Int.reduceBEq, Int.reduceBNe, Int.reduceLT, Int.reduceLE, Nat.reduceLT, VX, hcond]
    refine map_pos (l := l) (acc := acc) (v := v) (i := i) (m := m) (σ := σ) hb hai hm hg ?_
    intro rest
    have hple := posM_le acc m.1
    -- what is done behind it
    have next : ∀ (acc' : List Mem) (v' : AV) (σ' : Store) (fr : Fr), insM acc m = acc' → GM σ' v' acc' → look σ'.m 0 = some (.own v0C) → 0 < σ'.next → keep [0, 2, 3, 4] fr = mapF l v' (i + 1) → Ex ipU gU (.inLoop [0, 2, 3, 4] bd :: .inBlock 0 :: [.code F128_65]) fr σ' (fun fr' σ1 => (resAll fr' σ1 F128.res).bind (rbE σ1) = some r) := by
      intro acc' v' σ' fr he hg' h0' hn' hk
      exact ih (i + 1, acc', v') fr σ' (by simp; omega) ⟨hg', by rw [← he]; simp; omega, hlt, by rw [← he]; exact hf, h0', hn'⟩ hk
    by_cases hpl : posM acc m.1 < acc.length
    · obtain ⟨x, hx⟩ := get_lt hpl
      have hcp := dlt hpl
      obtain ⟨b', hv, h1, h2, h3⟩ := hg.idx hx
      cases hk : x.1 == m.1 with
      | true =>
        have hhit : hitM acc m.1 = true := by unfold hitM; rw [hx]; exact hk
        have hins : insM acc m = acc.set (posM acc m.1) m := by unfold insM; rw [if_pos hhit]
        rcases hg with ⟨rfl, rfl⟩ | ⟨b, rfl, g1, g2, g3⟩
        · simp at hpl
        · simp only [AV.sl.injEq] at hv
          obtain ⟨rfl, _⟩ := hv
          have hset := set_cells hpl m
          have hle : posM acc m.1 * 6 + 6 ≤ (LMem.cells acc).length := by rw [LMem.cells_len]; show _ ≤ acc.length * 6; omega
          have hone : (memE m).cells.all AV.one = true := LMem.one m
          simp only [memE_cells] at hset hone
          simp only [splice, List.length_cons, List.length_nil, Nat.zero_add, Nat.reduceAdd] at hset
          simp only [U5Fa, EXA, Nat.reduceEqDiff, reduceIte, reduceCtorEq, Nat.reduceAdd, Nat.reduceLeDiff, Nat.reduceSub, Nat.reduceMul, Int.reduceEq, Int.reduceBEq, Int.reduceBNe, Int.reduceLT, Int.reduceLE, Nat.reduceLT, VX, readAt_some, hlen, hcp, h1, h3, Nat.add_zero, hidxm, hk, g1, hle, hone, hset, hw]
          refine next (acc.set (posM acc m.1) m) (.sl b 0 acc.length 6 none) _ _ hins (.inr ⟨b, by rw [List.length_set], by simp [look], g2, g3⟩) ?_ hn (by simp only [EXA, Nat.reduceEqDiff, reduceIte, reduceCtorEq, Nat.reduceAdd, Nat.reduceLeDiff, Nat.reduceSub, Nat.reduceMul, Int.reduceEq, Int.reduceBEq, Int.reduceBNe, Int.reduceLT, Int.reduceLE, Nat.reduceLT])
          have : (b = 0) = False := by simp; omega
          simp only [look, this, if_false, h0]
      | false =>
        have hhit : hitM acc m.1 = false := by unfold hitM; rw [hx]; exact hk
        have hins : insM acc m = acc.take (posM acc m.1) ++ m :: acc.drop (posM acc m.1) := by unfold insM; rw [if_neg (by simp [hhit])]
        simp only [U5Fa, EXA, Nat.reduceEqDiff, reduceIte, reduceCtorEq, Nat.reduceAdd, Nat.reduceLeDiff, Nat.reduceSub, Nat.reduceMul, Int.reduceEq, Int.reduceBEq, Int.reduceBNe, Int.reduceLT, Int.reduceLE, Nat.reduceLT, VX, readAt_some, hlen, hcp, h1, h3, Nat.add_zero, hidxm, hk]
        refine map_ins hb hai hm hg hple h0 hn ?_
        intro v' σ' fr g1 g2 g3 q0 q2 q3 q4
        simp only [U5Fa, EXA, Nat.reduceEqDiff, reduceIte, reduceCtorEq, Nat.reduceAdd, Nat.reduceLeDiff, Nat.reduceSub, Nat.reduceMul, Int.reduceEq, Int.reduceBEq, Int.reduceBNe, Int.reduceLT, Int.reduceLE, Nat.reduceLT, q0, q2, q3, q4, hw]
        exact next _ v' σ' _ hins g1 g2 g3 (by simp only [EXA, Nat.reduceEqDiff, reduceIte, reduceCtorEq, Nat.reduceAdd, Nat.reduceLeDiff, Nat.reduceSub, Nat.reduceMul, Int.reduceEq, Int.reduceBEq, Int.reduceBNe, Int.reduceLT, Int.reduceLE, Nat.reduceLT])
    · have hcp := dge (Nat.not_lt.1 hpl)
      have hhit : hitM acc m.1 = false := by unfold hitM; rw [List.getElem?_eq_none (by omega)]
      have hins : insM acc m = acc.take (posM acc m.1) ++ m :: acc.drop (posM acc m.1) := by unfold insM; rw [if_neg (by simp [hhit])]
      simp only [U5Fa, EXA, Nat.reduceEqDiff, reduceIte, reduceCtorEq, Nat.reduceAdd, Nat.reduceLeDiff, Nat.reduceSub, Nat.reduceMul, Int.reduceEq, Int.reduceBEq, Int.reduceBNe, Int.reduceLT, Int.reduceLE, Nat.reduceLT, VX, readAt_some, hlen, hcp]
      refine map_ins hb hai hm hg hple h0 hn ?_
      intro v' σ' fr g1 g2 g3 q0 q2 q3 q4
      simp only [U5Fa, EXA, Nat.reduceEqDiff, reduceIte, reduceCtorEq, Nat.reduceAdd, Nat.reduceLeDiff, Nat.reduceSub, Nat.reduceMul, Int.reduceEq, Int.reduceBEq, Int.reduceBNe, Int.reduceLT, Int.reduceLE, Nat.reduceLT, q0, q2, q3, q4, hw]
      exact next _ v' σ' _ hins g1 g2 g3 (by simp only [EXA, Nat.reduceEqDiff, reduceIte, reduceCtorEq, Nat.reduceAdd, Nat.reduceLeDiff, Nat.reduceSub, Nat.reduceMul, Int.reduceEq, Int.reduceBEq, Int.reduceBNe, Int.reduceLT, Int.reduceLE, Nat.reduceLT])
  · have hcond := dge (Nat.not_lt.1 hlt)
    have : i = l.length := by omega
    subst this
    rw [List.drop_of_length_le (Nat.le_refl _), List.foldl_nil] at hf
    subst hf
    have hpl : v.known = true ∧ v.one = true ∧ v.cells = [v] := by rcases hg with ⟨rfl, _⟩ | ⟨b, rfl, _⟩ <;> exact ⟨rfl, rfl, rfl⟩
    obtain ⟨p1, p2, p3⟩ := hpl
    simp only [U5Fa, EXA, Nat.reduceEqDiff, reduceIte, reduceCtorEq, Nat.reduceAdd, Nat.reduceLeDiff, Nat.reduceSub, Nat.reduceMul, Int.reduceEq, Int.reduceBEq, Int.reduceBNe, Int.reduceLT, Int.reduceLE, Nat.reduceLT, VX, readAt_some, hcond, p1, p2, p3, h0]
    have hb := fun (σ1 : Store) (h2 : Rp LMem σ1 v (refMapL l)) =>
      RbL.agg (σ := σ1) (RbL.clo (x := .int .i64 5) rfl (RbL.clo (x := .int .i64 0) rfl (RbL.clo (x := .str []) rfl (RbL.clo (x := .nils) rfl (RbL.rp (L := LMem) h2 (RbL.nil σ1 23))))))
    simp only [er_int, er_str, er_nils] at hb
    rw [hr, V.enc_eq]
    refine hb _ ?_
    rcases hg with ⟨rfl, he⟩ | ⟨b, rfl, g1, g2, g3⟩
    · exact .inl ⟨he, .inl rfl⟩
    · refine .inr ⟨b, [], rfl, ?_⟩
      have : (0 = b) = False := by simp; omega
      show look ((0, _) :: σ.m) b = _
      simp only [look, this, if_false, List.append_nil, g1]
end Go.Ab
/- RulesAllows: true. -/
namespace Go.Ab
set_option maxHeartbeats 1000000
set_option maxRecDepth 100000
/-- A slice that may be read as a list. -/
def Rd {α : Type} (L : Lay α) (σ : Store) (v : AV) (l : List α) : Prop :=
  (v = .nils ∧ l = []) ∨ (∃ b, v = .sl b 0 l.length L.sz none ∧ σ.cells b = some (L.cells l) ∧ b < σ.next) ∨ v = .vsl (l.map L.f) (some l.length)
section
variable {α : Type} {L : Lay α} {σ : Store} {v : AV} {l : List α}
theorem Gr.rd (h : Gr L σ v l) : Rd L σ v l := by
  rcases h with h | ⟨b, rfl, h⟩ | h
  · exact .inl h
  · exact .inr (.inl ⟨b, rfl, by have := h.1; simp [Store.cells, this], h.lt⟩)
  · exact .inr (.inr h)
theorem freeze_cells (σ : Store) (b : Nat) : σ.freeze.cells b = σ.cells b := by
  have e : σ.freeze.get b = (σ.get b).map fun x => match x with | .own cs => .frz cs | x => x := by
    unfold Store.freeze Store.get
    simp only
    induction σ.m with
    | nil => rfl
    | cons p l ih =>
      obtain ⟨i, x⟩ := p
      simp only [List.map_cons, look]
      by_cases h : i = b
      · rw [if_pos h, if_pos h]; rfl
      · rw [if_neg h, if_neg h]; exact ih
  unfold Store.cells
  rw [e]
  cases σ.get b with
  | none => rfl
  | some x => cases x <;> rfl
theorem Rd.freeze (h : Rd L σ v l) : Rd L σ.freeze v l := by
  rcases h with h | ⟨b, rfl, h, h2⟩ | h
  · exact .inl h
  · exact .inr (.inl ⟨b, rfl, by rw [freeze_cells]; exact h, h2⟩)
  · exact .inr (.inr h)
theorem Rd.newset (h : Rd L σ v l) (cs cs' : List AV) : Rd L { next := σ.next + 1, m := (σ.next, .own cs) :: (σ.next, .own cs') :: σ.m } v l := by
  rcases h with h | ⟨b, rfl, h, h2⟩ | h
  · exact .inl h
  · refine .inr (.inl ⟨b, rfl, ?_, by simp; omega⟩)
    have : Store.get { next := σ.next + 1, m := (σ.next, .own cs) :: (σ.next, .own cs') :: σ.m } b = σ.get b := by
      show look ((σ.next, Blk.own cs) :: (σ.next, .own cs') :: σ.m) b = look σ.m b
      simp only [look]; rw [if_neg (by omega), if_neg (by omega)]
    unfold Store.cells at h ⊢
    rw [this]; exact h
  · exact .inr (.inr h)
theorem Rd.rb (h : Rd L σ v l) : ∃ v', Go.Ab.rb σ rbDepth v = some v' ∧ v'.er = .vsl (l.map L.f) none := by
  rcases h with ⟨rfl, rfl⟩ | ⟨b, rfl, h, _⟩ | rfl
  · exact ⟨_, rfl, by simp only [AV.er]; rfl⟩
  · refine ⟨_, rb_sl (d := 23) h (L.cells_len l) L.pos (L.cells_closed l) (one_notAgg (L.cells_one l)), ?_⟩
    rw [L.chunks]; simp only [AV.er, L.erMap]
  · refine ⟨_, rb_closed' (by simp only [AV.closed]; exact closedL_map fun a _ => L.closed a), ?_⟩
    simp only [AV.er, L.erMap]
/-- No block is both's. -/
def Dis (v w : AV) : Prop := ∀ b o len sz c o' len' sz' c', v = .sl b o len sz c → w ≠ .sl b o' len' sz' c'
theorem Gr.other {β : Type} {M : Lay β} {w : AV} {k : List β} {m : List α} (hw : Gr M σ w k) (hv : Gr L σ v l) (hd : Dis v w) : Gr M (grNext L σ v l m) w k := by
  rcases hw with h | ⟨b, rfl, h⟩ | h
  · exact .inl h
  · refine .inr (.inl ⟨b, rfl, h.frame ?_ (by rw [grNext_next]; omega)⟩)
    exact grNext_get hv h.lt (fun len sz c he => hd _ _ _ _ _ _ _ _ _ he rfl)
  · exact .inr (.inr h)
theorem Gr.dis_next {β : Type} {M : Lay β} {w : AV} {k : List β} (hw : Gr M σ w k) (o len sz : Nat) (c : Option Nat) : Dis (.sl σ.next o len sz c) w := by
  intro b o1 len1 sz1 c1 o' len' sz' c' h1 h2
  simp only [AV.sl.injEq] at h1
  rcases hw with ⟨rfl, _⟩ | ⟨b2, rfl, h⟩ | rfl
  · simp at h2
  · simp only [AV.sl.injEq] at h2
    have := h.lt
    omega
  · simp at h2
theorem Dis.symm {v w : AV} (h : Dis v w) : Dis w v := fun _ _ _ _ _ _ _ _ _ h1 h2 => h _ _ _ _ _ _ _ _ _ h2 h1
end
/-- A text of such a slice, by its number. -/
theorem Gr.idxS {σ : Store} {v : AV} {l : List Bs} (h : Gr LStr σ v l) {j : Nat} {s : Bs} (hj : l[j]? = some s) : ∃ p, idxOf 1 none v (.int .i64 (j : Int)) = some p ∧ readPtr σ p none = some (.str s) := by
  have hlt := lt_of_get hj
  have hc : ∀ m : List Bs, LStr.cells m = m.map AV.str := by
    intro m; simp only [Lay.cells, LStr, AV.cells]; induction m with
    | nil => rfl
    | cons a m ih => simp [ih]
  rcases h with ⟨rfl, rfl⟩ | ⟨b, rfl, h⟩ | rfl
  · simp at hj
  · refine ⟨.ptr b j, ?_, ?_⟩
    · simp [idxOf, LStr, hlt]
    · have := h.1
      simp only [readPtr, Store.cells, this, readAt, hc, List.getElem?_map, hj, Option.map_some]
  · refine ⟨.vptr [.str s] 0, idx_map (f := AV.str) hj rfl, rfl⟩
end Go.Ab
/- Lists of texts, and small makers, of the program and of the document. -/
namespace Go.Ab
set_option maxHeartbeats 1000000
def U6Fc := J @F146_3.eq_1 (J @F146_15.eq_1 (J @F146_16.eq_1 (@F146.eq_1)))
def U6Fe := J @F147_5.eq_1 (J @F147_16.eq_1 (J @F147_17.eq_1 (@F147.eq_1)))
def U6Fh := J @F149_6.eq_1 (J @F149_12.eq_1 (J @F149_13.eq_1 (@F149.eq_1)))
set_option maxRecDepth 100000
def tV3 (s : Bs) : V := V.mk 3 0 s [] []
def iV2 (n : Int) : V := V.mk 2 n [] [] []
def lV (l : List Bs) : V := V.mk 4 0 [] (l.map tV3) []
theorem r_refTextV (s : Bs) : cR 143 [.str s] = some (tV3 s).enc := by
  refine cR_of (F := F143) rfl ?_
  simp only [F143, EXA, Nat.reduceEqDiff, reduceIte, reduceCtorEq, Nat.reduceAdd, Nat.reduceLeDiff, Nat.reduceSub, Nat.reduceMul, Int.reduceEq, Int.reduceBEq, Int.reduceBNe, Int.reduceLT, Int.reduceLE, Nat.reduceLT, VX, readAt_some]
  rfl
theorem r_refIntV (n : Int) : cR 148 [.int .i64 n] = some (iV2 n).enc := by
  refine cR_of (F := F148) rfl ?_
  simp only [F148, EXA, Nat.reduceEqDiff, reduceIte, reduceCtorEq, Nat.reduceAdd, Nat.reduceLeDiff, Nat.reduceSub, Nat.reduceMul, Int.reduceEq, Int.reduceBEq, Int.reduceBNe, Int.reduceLT, Int.reduceLE, Nat.reduceLT, VX, readAt_some]
  rfl
theorem r_textM (k s : Bs) : cR 127 [.str k, .str s] = some (memE (k, tV3 s)) := by
  have h := r_refTextV s
  refine cR_of (F := F127) rfl ?_
  simp only [F127, EXA, Nat.reduceEqDiff, reduceIte, reduceCtorEq, Nat.reduceAdd, Nat.reduceLeDiff, Nat.reduceSub, Nat.reduceMul, Int.reduceEq, Int.reduceBEq, Int.reduceBNe, Int.reduceLT, Int.reduceLE, Nat.reduceLT, VX, readAt_some, h]
theorem r_Has (l : List Bs) (k : Bs) (hlen : l.length < big) : cR 147 [.vsl (l.map .str) none, .str k] = some (.bool (hasS l k)) := by
  unfold big at hlen
  refine cR_of (F := F147) rfl ?_
  obtain ⟨r, hr⟩ : ∃ r, r = AV.bool (hasS l k) := ⟨_, rfl⟩
  rw [← hr]
  simp only [F147_5, F147_16, F147, ex_loop, EXA, Nat.reduceEqDiff, reduceIte, reduceCtorEq, Nat.reduceAdd, Nat.reduceLeDiff, Nat.reduceSub, Nat.reduceMul, Int.reduceEq, Int.reduceBEq, Int.reduceBNe, Int.reduceLT, Int.reduceLE, Nat.reduceLT, VX]
  refine ex_while (S := Nat) (fun j => [(0, .vsl (l.map .str) none), (1, .str k), (5, .int .i64 (j : Int))]) (fun _ => .empty) (fun j => l.length - j) (fun j => hasS (l.drop j) k = hasS l k) ?_ 0 rfl
  intro b j hj ih
  by_cases hlt : j < l.length
  · obtain ⟨x, hx⟩ := get_lt hlt
    have hidx := idx_str (c := none) hx
    have hcond := dlt hlt
    have hw := wsucc hlt (by omega)
    rw [drop_cons hx] at hj
    cases hxk : x == k with
    | true =>
      have : hasS l k = true := by rw [← hj]; have : k = x := by simp at hxk; exact hxk.symm
                                   simp [hasS, this]
      rw [this] at hr
      simp only [U6Fe, EXA, Nat.reduceEqDiff, reduceIte, reduceCtorEq, Nat.reduceAdd, Nat.reduceLeDiff, Nat.reduceSub, Nat.reduceMul, Int.reduceEq, Int.reduceBEq, Int.reduceBNe, Int.reduceLT, Int.reduceLE, Nat.reduceLT, VX, readAt_some, hcond, hidx, hxk, hr]
    | false =>
      have hkx : (k == x) = false := by simp at hxk ⊢; exact fun h => hxk h.symm
      simp only [U6Fe, EXA, Nat.reduceEqDiff, reduceIte, reduceCtorEq, Nat.reduceAdd, Nat.reduceLeDiff, Nat.reduceSub, Nat.reduceMul, Int.reduceEq, Int.reduceBEq, Int.reduceBNe, Int.reduceLT, Int.reduceLE, Nat.reduceLT, VX, readAt_some, hcond, hidx, hxk, hw]
      exact ih (j + 1) _ _ (by omega) (by rw [← hj]; simp [hasS, hkx]) rfl rfl
  · have hcond := dge (Nat.not_lt.1 hlt)
    rw [List.drop_eq_nil_of_le (by omega)] at hj
    rw [← hj] at hr
    simp only [U6Fe, EXA, Nat.reduceEqDiff, reduceIte, reduceCtorEq, Nat.reduceAdd, Nat.reduceLeDiff, Nat.reduceSub, Nat.reduceMul, Int.reduceEq, Int.reduceBEq, Int.reduceBNe, Int.reduceLT, Int.reduceLE, Nat.reduceLT, VX, hcond, hr]
    rfl
/-- A list that grows in a value of one's own. -/
structure LSt (σ : Store) (v : AV) (acc : List V) : Prop where
  one : look σ.m 1 = some (.own [.int .i64 4, .int .i64 0, .str [], v, .nils])
  nil : look σ.m 0 = some (.own [.int .i64 0, .int .i64 0, .str [], .nils, .nils])
  gr : Gr LV σ v acc
  nx : 1 < σ.next
  far : ∀ b len sz c, b < 2 → v ≠ .sl b 0 len sz c
theorem LSt.push {σ : Store} {v : AV} {acc : List V} (h : LSt σ v acc) (hl : acc.length < lim) (x : V) :
    appendTo σ 5 80 v x.enc.cells 1 = some (.sl σ.next 0 (acc ++ [x]).length 5 none, grNext LV σ v acc [x]) ∧ look (grNext LV σ v acc [x]).m 1 = some (.own [.int .i64 4, .int .i64 0, .str [], v, .nils]) ∧
    LSt { next := (grNext LV σ v acc [x]).next, m := (1, .own [.int .i64 4, .int .i64 0, .str [], .sl σ.next 0 (acc ++ [x]).length 5 none, .nils]) :: (grNext LV σ v acc [x]).m } (.sl σ.next 0 (acc ++ [x]).length 5 none) (acc ++ [x]) := by
  unfold lim at hl
  have hnx := h.nx
  have hn := grNext_next LV σ v acc [x]
  have g1 : look (grNext LV σ v acc [x]).m 1 = look σ.m 1 := grNext_get (m := [x]) h.gr hnx (fun len sz c => h.far 1 len sz c (by omega))
  have g0 : look (grNext LV σ v acc [x]).m 0 = look σ.m 0 := grNext_get (m := [x]) h.gr (by omega) (fun len sz c => h.far 0 len sz c (by omega))
  have hg := h.gr.next (m := [x]) (by simp)
  refine ⟨h.gr.push (a := x) (bytes := 80) (by omega) (by unfold maxBytes; omega), by rw [g1]; exact h.one, by simp [look], ?_, ?_, by show 1 < (grNext LV σ v acc [x]).next; omega, ?_⟩
  · show look ((1, _) :: _) 0 = _
    simp only [look]
    rw [if_neg (by omega), g0]; exact h.nil
  · exact Gr.own (L := LV) (hg.frame (by show look ((1, _) :: _) σ.next = look _ σ.next; simp only [look]; rw [if_neg (by omega)]) (Nat.le_refl _))
  · intro b len sz c hb hv
    simp only [AV.sl.injEq] at hv
    omega
theorem LSt.fin {σ : Store} {v : AV} {acc : List V} (h : LSt σ v acc) : rbE { next := σ.next, m := (0, .own [.int .i64 4, .int .i64 0, .str [], v, .nils]) :: σ.m } (.agg [.int .i64 4, .int .i64 0, .str [], v, .nils]) = some (V.mk 4 0 [] acc []).enc := by
  have hg : Gr LV { next := σ.next, m := (0, .own [.int .i64 4, .int .i64 0, .str [], v, .nils]) :: σ.m } v acc := by
    rcases h.gr with g | ⟨b, rfl, g⟩ | g
    · exact .inl g
    · refine .inr (.inl ⟨b, rfl, g.frame ?_ (Nat.le_refl _)⟩)
      have hb : b ≠ 0 := by rintro rfl; exact h.far 0 _ _ _ (by omega) rfl
      show look ((0, _) :: _) b = look _ b
      simp only [look]; rw [if_neg (fun hh => hb hh.symm)]
    · exact .inr (.inr g)
  have := RbL.agg (RbL.clo (x := .int .i64 4) rfl (RbL.clo (x := .int .i64 0) rfl (RbL.clo (x := .str []) rfl (RbL.gr hg (RbL.clo (x := .nils) rfl (RbL.nil _ 23))))))
  simp only [er_int, er_str, er_nils] at this
  rw [V.enc_eq]
  exact this
theorem V.enc_lo (x : V) : lenOf (.vsl [x.enc] (some 1)) = some 1 := rfl
theorem V.enc_ro (x : V) (σ : Store) : rowOf σ 5 (.vsl [x.enc] (some 1)) = some x.enc.cells := by
  have := LV.rowOf σ [x] (some 1)
  simpa [Lay.cells, LV] using this
theorem r_texts (l : List Bs) (hb : l.length < lim) : cR 146 [.vsl (l.map .str) none] = some (lV l).enc := by
  have hb' := hb
  unfold lim at hb'
  refine cR_of (F := F146) rfl ?_
  obtain ⟨r, hr⟩ : ∃ r, r = (lV l).enc := ⟨_, rfl⟩
  rw [← hr]
  simp only [F146_3, F146_15, F146, ex_loop, EXA, Nat.reduceEqDiff, reduceIte, reduceCtorEq, Nat.reduceAdd, Nat.reduceLeDiff, Nat.reduceSub, Nat.reduceMul, Int.reduceEq, Int.reduceBEq, Int.reduceBNe, Int.reduceLT, Int.reduceLE, Nat.reduceLT, VX, readAt_some]
  refine ex_whileI (S := Nat × AV) (fun s => [(2, .ptr 0 0), (3, .ptr 1 0), (7, .vsl (l.map .str) none), (8, .int .i64 l.length), (9, .int .i64 (s.1 : Int))]) (fun s => l.length - s.1)
    (fun s σ => LSt σ s.2 ((l.take s.1).map tV3) ∧ s.1 ≤ l.length) ?_ (0, .nils) _ ⟨⟨rfl, rfl, Gr.nil LV _, by simp, fun _ _ _ _ _ h => by cases h⟩, by omega⟩
  rintro bd ⟨i, v⟩ σ ⟨h, hi⟩ ih
  simp only at h hi ih ⊢
  by_cases hlt : i < l.length
  · obtain ⟨x, hx⟩ := get_lt hlt
    have hcond := dlt hlt
    have hw := wsucc hlt (by omega)
    have hidx := idx_str (c := none) hx
    have h18 : cR 18 [.str x] = some (tV3 x).enc := r_Text x
    obtain ⟨p1, p2, p3⟩ := h.push (by simp; omega) (tV3 x)
    have h1 := h.one
    have he : (l.take i).map tV3 ++ [tV3 x] = (l.take (i + 1)).map tV3 := by rw [List.take_add_one, hx]; simp
    have hlo := V.enc_lo (tV3 x)
    have hro := V.enc_ro (tV3 x)
    generalize hX : (tV3 x).enc = X at h18 p1 hlo hro
    have hXk : X.known = true := by rw [← hX]; exact V.enc_known _
    have hXc : X.cells.length = 5 := by rw [← hX, V.enc_cells]; rfl
    have hall : X.cells.all AV.notAgg = true := by rw [← hX, V.enc_cells]; rfl
    have hone : X.cells.all AV.one = true := by rw [← hX]; exact LV.one (tV3 x)
    have htk : AV.agg (X.cells.take 5) = X := by rw [← hX, V.enc_cells, V.enc_eq]; rfl
    simp only [U6Fc, EXA, Nat.reduceEqDiff, reduceIte, reduceCtorEq, Nat.reduceAdd, Nat.reduceLeDiff, Nat.reduceSub, Nat.reduceMul, Int.reduceEq, Int.reduceBEq, Int.reduceBNe, Int.reduceLT, Int.reduceLE, Nat.reduceLT, VX, readAt_some, hcond, hidx, h18, h1, hXc, hXk, hall, htk, hlo, hro, p1, p2, hw]
    exact ih (i + 1, _) _ _ (by simp; omega) ⟨by rw [← he]; exact p3, hlt⟩ (by simp only [EXA, Nat.reduceEqDiff, reduceIte, reduceCtorEq, Nat.reduceAdd, Nat.reduceLeDiff, Nat.reduceSub, Nat.reduceMul, Int.reduceEq, Int.reduceBEq, Int.reduceBNe, Int.reduceLT, Int.reduceLE, Nat.reduceLT])
  · have hcond := dge (Nat.not_lt.1 hlt)
    have h1 := h.one
    have h0 := h.nil
    have hfin := h.fin
    have : i = l.length := by omega
    subst this
    rw [List.take_of_length_le (Nat.le_refl _)] at hfin
    have hp := h.gr.plain
    simp only [U6Fc, EXA, Nat.reduceEqDiff, reduceIte, reduceCtorEq, Nat.reduceAdd, Nat.reduceLeDiff, Nat.reduceSub, Nat.reduceMul, Int.reduceEq, Int.reduceBEq, Int.reduceBNe, Int.reduceLT, Int.reduceLE, Nat.reduceLT, VX, readAt_some, hcond, h1, h0, hp.1, hp.2.1, hp.2.2.1]
    rw [hfin, hr]; rfl
theorem r_refList (l : List Bs) (hb : l.length < lim) : cR 149 [.vsl (l.map .str) none] = some (lV l).enc := by
  have hb' := hb
  unfold lim at hb'
  refine cR_of (F := F149) rfl ?_
  obtain ⟨r, hr⟩ : ∃ r, r = (lV l).enc := ⟨_, rfl⟩
  rw [← hr]
  simp only [F149_6, F149_12, F149, ex_loop, EXA, Nat.reduceEqDiff, reduceIte, reduceCtorEq, Nat.reduceAdd, Nat.reduceLeDiff, Nat.reduceSub, Nat.reduceMul, Int.reduceEq, Int.reduceBEq, Int.reduceBNe, Int.reduceLT, Int.reduceLE, Nat.reduceLT, VX, readAt_some]
  refine ex_whileI (S := Nat × AV) (fun s => [(0, .vsl (l.map .str) none), (2, .ptr 0 0), (3, .ptr 1 0), (4, .int .i64 (s.1 : Int))]) (fun s => l.length - s.1)
    (fun s σ => LSt σ s.2 ((l.take s.1).map tV3) ∧ s.1 ≤ l.length) ?_ (0, .nils) _ ⟨⟨rfl, rfl, Gr.nil LV _, by simp, fun _ _ _ _ _ h => by cases h⟩, by omega⟩
  rintro bd ⟨i, v⟩ σ ⟨h, hi⟩ ih
  simp only at h hi ih ⊢
  by_cases hlt : i < l.length
  · obtain ⟨x, hx⟩ := get_lt hlt
    have hcond := dlt hlt
    have hw := wsucc hlt (by omega)
    have hidx := idx_str (c := none) hx
    have h18 : cR 143 [.str x] = some (tV3 x).enc := r_refTextV x
    obtain ⟨p1, p2, p3⟩ := h.push (by simp; omega) (tV3 x)
    have h1 := h.one
    have he : (l.take i).map tV3 ++ [tV3 x] = (l.take (i + 1)).map tV3 := by rw [List.take_add_one, hx]; simp
    have hlo := V.enc_lo (tV3 x)
    have hro := V.enc_ro (tV3 x)
    generalize hX : (tV3 x).enc = X at h18 p1 hlo hro
    have hXk : X.known = true := by rw [← hX]; exact V.enc_known _
    have hXc : X.cells.length = 5 := by rw [← hX, V.enc_cells]; rfl
    have hall : X.cells.all AV.notAgg = true := by rw [← hX, V.enc_cells]; rfl
    have hone : X.cells.all AV.one = true := by rw [← hX]; exact LV.one (tV3 x)
    have htk : AV.agg (X.cells.take 5) = X := by rw [← hX, V.enc_cells, V.enc_eq]; rfl
    simp only [U6Fh, EXA, Nat.reduceEqDiff, reduceIte, reduceCtorEq, Nat.reduceAdd, Nat.reduceLeDiff, Nat.reduceSub, Nat.reduceMul, Int.reduceEq, Int.reduceBEq, Int.reduceBNe, Int.reduceLT, Int.reduceLE, Nat.reduceLT, VX, readAt_some, hcond, hidx, h18, h1, hXc, hXk, hall, htk, hlo, hro, p1, p2, hw]
    exact ih (i + 1, _) _ _ (by simp; omega) ⟨by rw [← he]; exact p3, hlt⟩ (by simp only [EXA, Nat.reduceEqDiff, reduceIte, reduceCtorEq, Nat.reduceAdd, Nat.reduceLeDiff, Nat.reduceSub, Nat.reduceMul, Int.reduceEq, Int.reduceBEq, Int.reduceBNe, Int.reduceLT, Int.reduceLE, Nat.reduceLT])
  · have hcond := dge (Nat.not_lt.1 hlt)
    have h1 := h.one
    have h0 := h.nil
    have hfin := h.fin
    have : i = l.length := by omega
    subst this
    rw [List.take_of_length_le (Nat.le_refl _)] at hfin
    have hp := h.gr.plain
    simp only [U6Fh, EXA, Nat.reduceEqDiff, reduceIte, reduceCtorEq, Nat.reduceAdd, Nat.reduceLeDiff, Nat.reduceSub, Nat.reduceMul, Int.reduceEq, Int.reduceBEq, Int.reduceBNe, Int.reduceLT, Int.reduceLE, Nat.reduceLT, VX, readAt_some, hcond, h1, h0, hp.1, hp.2.1, hp.2.2.1]
    rw [hfin, hr]; rfl
end Go.Ab
/- The document's Keep; how deep what comes behind events is. -/
namespace Go.Ab
set_option maxHeartbeats 1000000
def U7Fa := J @F125_3.eq_1 (J @F125_15.eq_1 (J @F125_16.eq_1 (@F125.eq_1)))
def U7Fc := J @F129_6.eq_1 (J @F129_12.eq_1 (J @F129_13.eq_1 (@F129.eq_1)))
def U7Fe := J @F133_12.eq_1 (J @F133_22.eq_1 (J @F133_23.eq_1 (@F133.eq_1)))
def U7Ff := J @F133_12.eq_1 (J @F133_22.eq_1 (@F133.eq_1))
set_option maxRecDepth 100000
def keepV (v : V) (keys : List Bs) (b : Bool) : V := if v.kind = 5 then V.mk 5 0 [] [] (v.m.filter fun x => hasS keys x.1 == b) else v
structure KSt (σ : Store) (v : AV) (acc : List Mem) : Prop where
  nil : look σ.m 0 = some (.own [.int .i64 0, .int .i64 0, .str [], .nils, .nils])
  gr : Gr LMem σ v acc
  nx : 0 < σ.next
  far : ∀ len sz c, v ≠ .sl 0 0 len sz c
theorem KSt.push {σ : Store} {v : AV} {acc : List Mem} (h : KSt σ v acc) (hl : acc.length < lim) (x : Mem) :
    appendTo σ 6 96 v (memE x).cells 1 = some (.sl σ.next 0 (acc ++ [x]).length 6 none, grNext LMem σ v acc [x]) ∧ KSt (grNext LMem σ v acc [x]) (.sl σ.next 0 (acc ++ [x]).length 6 none) (acc ++ [x]) := by
  unfold lim at hl
  have hnx := h.nx
  have hn := grNext_next LMem σ v acc [x]
  have g0 : look (grNext LMem σ v acc [x]).m 0 = look σ.m 0 := grNext_get (m := [x]) h.gr (by omega) h.far
  refine ⟨h.gr.push (a := x) (bytes := 96) (by omega) (by unfold maxBytes; omega), by rw [g0]; exact h.nil, Gr.own (h.gr.next (m := [x]) (by simp)), by omega, ?_⟩
  intro len sz c hv
  simp only [AV.sl.injEq] at hv
  omega
theorem KSt.fin5 {σ : Store} {v : AV} {acc : List Mem} (h : KSt σ v acc) (cs : List AV) : rbE { next := σ.next, m := (0, .own cs) :: σ.m } (.agg [.int .i64 5, .int .i64 0, .str [], .nils, v]) = some (V.mk 5 0 [] [] acc).enc := by
  have hg : Gr LMem { next := σ.next, m := (0, .own cs) :: σ.m } v acc := by
    rcases h.gr with g | ⟨b, rfl, g⟩ | g
    · exact .inl g
    · refine .inr (.inl ⟨b, rfl, g.frame ?_ (Nat.le_refl _)⟩)
      have hb : b ≠ 0 := by rintro rfl; exact h.far _ _ _ rfl
      show look ((0, _) :: _) b = look _ b
      simp only [look]; rw [if_neg (fun hh => hb hh.symm)]
    · exact .inr (.inr g)
  have := RbL.agg (RbL.clo (x := .int .i64 5) rfl (RbL.clo (x := .int .i64 0) rfl (RbL.clo (x := .str []) rfl (RbL.clo (x := .nils) rfl (RbL.gr hg (RbL.nil _ 23))))))
  simp only [er_int, er_str, er_nils] at this
  rw [V.enc_eq]
  exact this
theorem memE_lo (x : Mem) : lenOf (.vsl [memE x] (some 1)) = some 1 := rfl
theorem memE_ro (x : Mem) (σ : Store) : rowOf σ 6 (.vsl [memE x] (some 1)) = some (memE x).cells := by
  have := LMem.rowOf σ [x] (some 1)
  simpa [Lay.cells, LMem] using this
theorem r_Keep (v : V) (keys : List Bs) (b : Bool) (hk : keys.length < big) (hm : v.m.length < lim) : cR 133 [v.enc, .vsl (keys.map .str) none, .bool b] = some (keepV v keys b).enc := by
  have hm' := hm
  unfold lim at hm'
  refine cR_of (F := F133) rfl ?_
  obtain ⟨r, hr⟩ : ∃ r, r = (keepV v keys b).enc := ⟨_, rfl⟩
  rw [← hr]
  unfold keepV at hr
  cases h5 : v.kind != 5 with
  | true =>
    have hk5 : v.kind ≠ 5 := by simpa using h5
    rw [if_neg hk5] at hr
    simp only [U7Ff, EXA, Nat.reduceEqDiff, reduceIte, reduceCtorEq, Nat.reduceAdd, Nat.reduceLeDiff, Nat.reduceSub, Nat.reduceMul, Int.reduceEq, Int.reduceBEq, Int.reduceBNe, Int.reduceLT, Int.reduceLE, Nat.reduceLT, VX, readAt_some, h5, hr]
  | false =>
    have hk5 : v.kind = 5 := by simpa using h5
    rw [if_pos hk5] at hr
    simp only [U7Ff, ex_loop, EXA, Nat.reduceEqDiff, reduceIte, reduceCtorEq, Nat.reduceAdd, Nat.reduceLeDiff, Nat.reduceSub, Nat.reduceMul, Int.reduceEq, Int.reduceBEq, Int.reduceBNe, Int.reduceLT, Int.reduceLE, Nat.reduceLT, VX, readAt_some, h5]
    refine ex_whileI (S := Nat × List Mem × AV) (fun s => [(1, .vsl (keys.map .str) none), (2, .bool b), (3, .vptr [.int .i64 v.kind, .int .i64 v.n, .str v.s, .vsl (v.l.map V.enc) none, .vsl (v.m.map memE) none] 0), (6, .ptr 0 0), (7, s.2.2), (8, .int .i64 (s.1 : Int))])
      (fun s => v.m.length - s.1) (fun s σ => KSt σ s.2.2 s.2.1 ∧ s.2.1.length ≤ s.1 ∧ s.2.1 ++ (v.m.drop s.1).filter (fun x => hasS keys x.1 == b) = v.m.filter (fun x => hasS keys x.1 == b)) ?_ (0, [], .nils) _ ⟨⟨rfl, Gr.nil LMem _, by simp, fun _ _ _ h => by cases h⟩, by simp, rfl⟩
    rintro bd ⟨j, acc, w⟩ σ ⟨h, hai, hf⟩ ih
    simp only at h hai hf ih ⊢
    by_cases hlt : j < v.m.length
    · obtain ⟨x, hx⟩ := get_lt hlt
      have hcond := dlt hlt
      have hw := wsucc hlt (by omega)
      have hidx := idx_mem (c := none) hx
      have hh := r_Has keys x.1 hk
      rw [drop_cons hx, List.filter_cons] at hf
      obtain ⟨p1, p2⟩ := h.push (by unfold lim; omega) x
      have hlo := memE_lo x
      have hro := memE_ro x
      simp only [memE_cells] at p1 hro
      cases hb : hasS keys x.1 == b with
      | true =>
        rw [hb] at hf
        simp only [if_true] at hf
        simp only [U7Fe, EXA, Nat.reduceEqDiff, reduceIte, reduceCtorEq, Nat.reduceAdd, Nat.reduceLeDiff, Nat.reduceSub, Nat.reduceMul, Int.reduceEq, Int.reduceBEq, Int.reduceBNe, Int.reduceLT, Int.reduceLE, Nat.reduceLT, VX, readAt_some, hcond, hidx, hh, hb, hlo, hro, p1, hw]
        exact ih (j + 1, acc ++ [x], _) _ _ (by simp; omega) ⟨p2, by simp; omega, by simpa using hf⟩ (by simp only [EXA, Nat.reduceEqDiff, reduceIte, reduceCtorEq, Nat.reduceAdd, Nat.reduceLeDiff, Nat.reduceSub, Nat.reduceMul, Int.reduceEq, Int.reduceBEq, Int.reduceBNe, Int.reduceLT, Int.reduceLE, Nat.reduceLT])
      | false =>
        rw [hb] at hf
        simp only [Bool.false_eq_true, if_false] at hf
        simp only [U7Fe, EXA, Nat.reduceEqDiff, reduceIte, reduceCtorEq, Nat.reduceAdd, Nat.reduceLeDiff, Nat.reduceSub, Nat.reduceMul, Int.reduceEq, Int.reduceBEq, Int.reduceBNe, Int.reduceLT, Int.reduceLE, Nat.reduceLT, VX, readAt_some, hcond, hidx, hh, hb, hw]
        exact ih (j + 1, acc, w) _ _ (by simp; omega) ⟨h, by simp; omega, hf⟩ (by simp only [EXA, Nat.reduceEqDiff, reduceIte, reduceCtorEq, Nat.reduceAdd, Nat.reduceLeDiff, Nat.reduceSub, Nat.reduceMul, Int.reduceEq, Int.reduceBEq, Int.reduceBNe, Int.reduceLT, Int.reduceLE, Nat.reduceLT])
    · have hcond := dge (Nat.not_lt.1 hlt)
      rw [List.drop_of_length_le (by omega), List.filter_nil, List.append_nil] at hf
      have h0 := h.nil
      have hp := h.gr.plain
      have hfin := h.fin5 [.int .i64 5, .int .i64 0, .str [], .nils, w]
      simp only [U7Fe, EXA, Nat.reduceEqDiff, reduceIte, reduceCtorEq, Nat.reduceAdd, Nat.reduceLeDiff, Nat.reduceSub, Nat.reduceMul, Int.reduceEq, Int.reduceBEq, Int.reduceBNe, Int.reduceLT, Int.reduceLE, Nat.reduceLT, VX, readAt_some, hcond, h0, hp.1, hp.2.1, hp.2.2.1]
      rw [hfin, hr, hf]
/-- The greatest depth, and 1 more. -/
def topD (l : List Ev) : Int := l.foldl (fun a e => if e.depth > a then e.depth else a) 0
def deeper (l : List Ev) : Int := if topD l ≥ 9007199254740991 then 9007199254740991 else IntKind.wrap .i64 (topD l + 1)
theorem topD_step (l : List Ev) (j : Nat) (e : Ev) (h : l[j]? = some e) : topD (l.take (j + 1)) = if e.depth > topD (l.take j) then e.depth else topD (l.take j) := by
  unfold topD
  rw [List.take_add_one, h, List.foldl_append]
  rfl
theorem r_refDeeper (l : List Ev) (hb : l.length < big) : cR 129 [.vsl (l.map evE) none] = some (.int .i64 (deeper l)) := by
  unfold big at hb
  refine cR_of (F := F129) rfl ?_
  obtain ⟨r, hr⟩ : ∃ r, r = AV.int .i64 (deeper l) := ⟨_, rfl⟩
  rw [← hr]
  simp only [F129_6, F129_12, F129, ex_loop, EXA, Nat.reduceEqDiff, reduceIte, reduceCtorEq, Nat.reduceAdd, Nat.reduceLeDiff, Nat.reduceSub, Nat.reduceMul, Int.reduceEq, Int.reduceBEq, Int.reduceBNe, Int.reduceLT, Int.reduceLE, Nat.reduceLT, VX]
  refine ex_while (S := Nat) (fun j => [(0, .vsl (l.map evE) none), (3, .int .i64 (topD (l.take j))), (4, .int .i64 (j : Int))]) (fun _ => .empty) (fun j => l.length - j) (fun j => j ≤ l.length) ?_ 0 (by omega)
  intro b j hj ih
  by_cases hlt : j < l.length
  · obtain ⟨e, he⟩ := get_lt hlt
    have hcond := dlt hlt
    have hw := wsucc hlt (by omega)
    have hidx := idx_ev (c := none) he
    have ht := topD_step l j e he
    simp only [U7Fc, EXA, Nat.reduceEqDiff, reduceIte, reduceCtorEq, Nat.reduceAdd, Nat.reduceLeDiff, Nat.reduceSub, Nat.reduceMul, Int.reduceEq, Int.reduceBEq, Int.reduceBNe, Int.reduceLT, Int.reduceLE, Nat.reduceLT, VX, readAt_some, hcond, hidx, hw]
    exact ih (j + 1) _ _ (by omega) hlt (by simp only [EXA, Nat.reduceEqDiff, reduceIte, reduceCtorEq, Nat.reduceAdd, Nat.reduceLeDiff, Nat.reduceSub, Nat.reduceMul, Int.reduceEq, Int.reduceBEq, Int.reduceBNe, Int.reduceLT, Int.reduceLE, Nat.reduceLT, ht]) rfl
  · have hcond := dge (Nat.not_lt.1 hlt)
    have : j = l.length := by omega
    subst this
    rw [List.take_of_length_le (Nat.le_refl _)]
    unfold deeper at hr
    by_cases hg : topD l ≥ 9007199254740991
    · have hg' : decide (topD l ≥ 9007199254740991) = true := by simp; omega
      rw [if_pos hg] at hr
      simp only [U7Fc, EXA, Nat.reduceEqDiff, reduceIte, reduceCtorEq, Nat.reduceAdd, Nat.reduceLeDiff, Nat.reduceSub, Nat.reduceMul, Int.reduceEq, Int.reduceBEq, Int.reduceBNe, Int.reduceLT, Int.reduceLE, Nat.reduceLT, VX, hcond, hg', hr]
    · have hg' : decide (topD l ≥ 9007199254740991) = false := by simp; omega
      rw [if_neg hg] at hr
      simp only [U7Fc, EXA, Nat.reduceEqDiff, reduceIte, reduceCtorEq, Nat.reduceAdd, Nat.reduceLeDiff, Nat.reduceSub, Nat.reduceMul, Int.reduceEq, Int.reduceBEq, Int.reduceBNe, Int.reduceLT, Int.reduceLE, Nat.reduceLT, VX, hcond, hg', hr]
theorem r_deeper (l : List Ev) (hb : l.length < big) : cR 125 [.vsl (l.map evE) none] = some (.int .i64 (deeper l)) := by
  unfold big at hb
  refine cR_of (F := F125) rfl ?_
  obtain ⟨r, hr⟩ : ∃ r, r = AV.int .i64 (deeper l) := ⟨_, rfl⟩
  rw [← hr]
  simp only [F125_3, F125_15, F125, ex_loop, EXA, Nat.reduceEqDiff, reduceIte, reduceCtorEq, Nat.reduceAdd, Nat.reduceLeDiff, Nat.reduceSub, Nat.reduceMul, Int.reduceEq, Int.reduceBEq, Int.reduceBNe, Int.reduceLT, Int.reduceLE, Nat.reduceLT, VX]
  refine ex_whileI (S := Nat) (fun j => [(3, .int .i64 (topD (l.take j))), (6, .vsl (l.map evE) none), (7, .int .i64 l.length), (8, .int .i64 (j : Int))]) (fun j => l.length - j) (fun j σ => j ≤ l.length) ?_ 0 _ (by omega)
  intro b j σ hj ih
  by_cases hlt : j < l.length
  · obtain ⟨e, he⟩ := get_lt hlt
    have hcond := dlt hlt
    have hw := wsucc hlt (by omega)
    have hidx := idx_ev (c := none) he
    have ht := topD_step l j e he
    simp only [U7Fa, EXA, Nat.reduceEqDiff, reduceIte, reduceCtorEq, Nat.reduceAdd, Nat.reduceLeDiff, Nat.reduceSub, Nat.reduceMul, Int.reduceEq, Int.reduceBEq, Int.reduceBNe, Int.reduceLT, Int.reduceLE, Nat.reduceLT, VX, readAt_some, hcond, hidx, hw]
    exact ih (j + 1) _ _ (by omega) hlt (by simp only [EXA, Nat.reduceEqDiff, reduceIte, reduceCtorEq, Nat.reduceAdd, Nat.reduceLeDiff, Nat.reduceSub, Nat.reduceMul, Int.reduceEq, Int.reduceBEq, Int.reduceBNe, Int.reduceLT, Int.reduceLE, Nat.reduceLT, ht])
  · have hcond := dge (Nat.not_lt.1 hlt)
    have : j = l.length := by omega
    subst this
    rw [List.take_of_length_le (Nat.le_refl _)]
    unfold deeper at hr
    by_cases hg : topD l ≥ 9007199254740991
    · have hg' : decide (topD l ≥ 9007199254740991) = true := by simp; omega
      rw [if_pos hg] at hr
      simp only [U7Fa, EXA, Nat.reduceEqDiff, reduceIte, reduceCtorEq, Nat.reduceAdd, Nat.reduceLeDiff, Nat.reduceSub, Nat.reduceMul, Int.reduceEq, Int.reduceBEq, Int.reduceBNe, Int.reduceLT, Int.reduceLE, Nat.reduceLT, VX, hcond, hg', hr]
    · have hg' : decide (topD l ≥ 9007199254740991) = false := by simp; omega
      rw [if_neg hg] at hr
      simp only [U7Fa, EXA, Nat.reduceEqDiff, reduceIte, reduceCtorEq, Nat.reduceAdd, Nat.reduceLeDiff, Nat.reduceSub, Nat.reduceMul, Int.reduceEq, Int.reduceBEq, Int.reduceBNe, Int.reduceLT, Int.reduceLE, Nat.reduceLT, VX, hcond, hg', hr]
end Go.Ab
/- An event's parts as a value, of the program and of the document. -/
namespace Go.Ab
set_option maxHeartbeats 1000000
def U8Fa := @F130.eq_1
def U8Fb := @F132.eq_1
set_option maxRecDepth 100000
abbrev kT : Bs := [116, 121, 112, 101]
abbrev kRoom : Bs := [114, 111, 111, 109, 95, 105, 100]
abbrev kSender : Bs := [115, 101, 110, 100, 101, 114]
abbrev kTs : Bs := [111, 114, 105, 103, 105, 110, 95, 115, 101, 114, 118, 101, 114, 95, 116, 115]
abbrev kDepth : Bs := [100, 101, 112, 116, 104]
abbrev kPrev : Bs := [112, 114, 101, 118, 95, 101, 118, 101, 110, 116, 115]
abbrev kAuth : Bs := [97, 117, 116, 104, 95, 101, 118, 101, 110, 116, 115]
abbrev kContent : Bs := [99, 111, 110, 116, 101, 110, 116]
abbrev kStateKey : Bs := [115, 116, 97, 116, 101, 95, 107, 101, 121]
def make8 (e : Ev) : List Mem := [(kT, tV3 e.type), (kRoom, tV3 e.room), (kSender, tV3 e.sender), (kTs, iV2 e.ts), (kDepth, iV2 e.depth), (kPrev, lV e.prev), (kAuth, lV e.auth), (kContent, e.content)]
def makeL (e : Ev) : List Mem := if e.isState = true then make8 e ++ [(kStateKey, tV3 e.key)] else make8 e
/-- A list in a block that nobody writes into any more, as a row. -/
theorem view_row {α : Type} {L : Lay α} {σ : Store} {b : Nat} {l : List α} (h : σ.get b = some (.frz (L.cells l))) : readPtrF σ (.sl b 0 l.length L.sz none) (some 0) = some (.vsl (l.map L.f) none) := by
  have hl := L.cells_len l
  simp only [readPtrF, h, List.drop_zero]
  rw [List.take_of_length_le (by rw [hl]; exact Nat.le_refl _), if_pos ⟨by rw [hl]; omega, L.pos, one_notAgg (L.cells_one l)⟩, L.chunks]
section
variable (e : Ev)
theorem make_app : appendTo ⟨1, [(0, .own [.int .i64 0, .int .i64 0, .str [], .nils, .nils])]⟩ 6 96 (.vsl ((make8 e).map memE) (some 8)) (memE (kStateKey, tV3 e.key)).cells 1 =
    some (.sl 1 0 9 6 none, ⟨2, [(1, .own (LMem.cells (make8 e ++ [(kStateKey, tV3 e.key)]))), (0, .own [.int .i64 0, .int .i64 0, .str [], .nils, .nils])]⟩) := by
  have h := (Gr.lit LMem ⟨1, [(0, .own [.int .i64 0, .int .i64 0, .str [], .nils, .nils])]⟩ (make8 e)).push (a := (kStateKey, tV3 e.key)) (bytes := 96) (by omega) (by simp [make8, maxBytes])
  have hn : grNext LMem ⟨1, [(0, .own [.int .i64 0, .int .i64 0, .str [], .nils, .nils])]⟩ (.vsl ((make8 e).map LMem.f) (some (make8 e).length)) (make8 e) [(kStateKey, tV3 e.key)] = ⟨2, [(1, .own (LMem.cells (make8 e ++ [(kStateKey, tV3 e.key)]))), (0, .own [.int .i64 0, .int .i64 0, .str [], .nils, .nils])]⟩ := by
    unfold grNext
    rw [Lay.cells_append]; rfl
  rw [hn] at h
  exact h
theorem make_view : readPtrF ⟨2, [(1, .frz (LMem.cells (make8 e ++ [(kStateKey, tV3 e.key)]))), (1, .own (LMem.cells (make8 e ++ [(kStateKey, tV3 e.key)]))), (0, .own [.int .i64 0, .int .i64 0, .str [], .nils, .nils])]⟩ (.sl 1 0 9 6 none) (some 0) =
    some (.vsl ((make8 e ++ [(kStateKey, tV3 e.key)]).map memE) none) :=
  view_row (L := LMem) (l := make8 e ++ [(kStateKey, tV3 e.key)]) rfl
theorem r_Make (h1 : e.prev.length < lim) (h2 : e.auth.length < lim) : cR 130 [evE e] = some (mapOf (makeL e)).enc := by
  have a1 : ∀ s, cR 18 [.str s] = some (tV3 s).enc := r_Text
  have a2 : ∀ n, cR 19 [.int .i64 n] = some (iV2 n).enc := r_Int
  have a3 := r_texts e.prev h1
  have a4 := r_texts e.auth h2
  have a5 := r_Map (make8 e) (by simp [make8])
  have a6 := r_Map (make8 e ++ [(kStateKey, tV3 e.key)]) (by simp [make8])
  have happ := make_app e
  have hv := make_view e
  have hlo := memE_lo (kStateKey, tV3 e.key)
  have hro := memE_ro (kStateKey, tV3 e.key)
  obtain ⟨r, hr⟩ : ∃ r, r = (mapOf (makeL e)).enc := ⟨_, rfl⟩
  rw [← hr]
  unfold makeL at hr
  generalize LMem.cells (make8 e ++ [(kStateKey, tV3 e.key)]) = C at happ hv
  refine cR_of (F := F130) rfl ?_
  cases hs : e.isState with
  | false =>
    rw [hs] at hr
    simp only [Bool.false_eq_true, if_false] at hr
    rw [← hr] at a5
    simp only [make8, List.map_cons, List.map_nil] at a5
    simp only [U8Fa, EXA, Nat.reduceEqDiff, reduceIte, reduceCtorEq, Nat.reduceAdd, Nat.reduceLeDiff, Nat.reduceSub, Nat.reduceMul, Int.reduceEq, Int.reduceBEq, Int.reduceBNe, Int.reduceLT, Int.reduceLE, Nat.reduceLT, EXF, VX, readAt_some, a1, a2, a3, a4, hs, a5, hr]
  | true =>
    rw [hs] at hr
    simp only [if_true] at hr
    rw [← hr] at a6
    simp only [make8, List.map_cons, List.map_nil, List.cons_append, List.nil_append] at a6 happ hv
    simp only [memE_cells] at happ hro
    simp only [U8Fa, EXA, Nat.reduceEqDiff, reduceIte, reduceCtorEq, Nat.reduceAdd, Nat.reduceLeDiff, Nat.reduceSub, Nat.reduceMul, Int.reduceEq, Int.reduceBEq, Int.reduceBNe, Int.reduceLT, Int.reduceLE, Nat.reduceLT, EXF, VX, readAt_some, a1, a2, a3, a4, hs, hlo, hro, happ, hv, a6, hr]
theorem r_refMake (h1 : e.prev.length < lim) (h2 : e.auth.length < lim) : cR 132 [evE e] = some (V.mk 5 0 [] [] (refMapL (makeL e))).enc := by
  have a1 : ∀ s, cR 143 [.str s] = some (tV3 s).enc := r_refTextV
  have a2 : ∀ n, cR 148 [.int .i64 n] = some (iV2 n).enc := r_refIntV
  have a3 := r_refList e.prev h1
  have a4 := r_refList e.auth h2
  have a5 := r_refMap (make8 e) (by simp [make8, lim])
  have a6 := r_refMap (make8 e ++ [(kStateKey, tV3 e.key)]) (by simp [make8, lim])
  have happ := make_app e
  have hv := make_view e
  have hlo := memE_lo (kStateKey, tV3 e.key)
  have hro := memE_ro (kStateKey, tV3 e.key)
  obtain ⟨r, hr⟩ : ∃ r, r = (V.mk 5 0 [] [] (refMapL (makeL e))).enc := ⟨_, rfl⟩
  rw [← hr]
  unfold makeL at hr
  generalize LMem.cells (make8 e ++ [(kStateKey, tV3 e.key)]) = C at happ hv
  refine cR_of (F := F132) rfl ?_
  cases hs : e.isState with
  | false =>
    rw [hs] at hr
    simp only [Bool.false_eq_true, if_false] at hr
    rw [← hr] at a5
    simp only [make8, List.map_cons, List.map_nil] at a5
    simp only [U8Fb, EXA, Nat.reduceEqDiff, reduceIte, reduceCtorEq, Nat.reduceAdd, Nat.reduceLeDiff, Nat.reduceSub, Nat.reduceMul, Int.reduceEq, Int.reduceBEq, Int.reduceBNe, Int.reduceLT, Int.reduceLE, Nat.reduceLT, EXF, VX, readAt_some, a1, a2, a3, a4, hs, a5, hr]
  | true =>
    rw [hs] at hr
    simp only [if_true] at hr
    rw [← hr] at a6
    simp only [make8, List.map_cons, List.map_nil, List.cons_append, List.nil_append] at a6 happ hv
    simp only [memE_cells] at happ hro
    simp only [U8Fb, EXA, Nat.reduceEqDiff, reduceIte, reduceCtorEq, Nat.reduceAdd, Nat.reduceLeDiff, Nat.reduceSub, Nat.reduceMul, Int.reduceEq, Int.reduceBEq, Int.reduceBNe, Int.reduceLT, Int.reduceLE, Nat.reduceLT, EXF, VX, readAt_some, a1, a2, a3, a4, hs, hlo, hro, happ, hv, a6, hr]
theorem make_eq : mapOf (makeL e) = V.mk 5 0 [] [] (refMapL (makeL e)) := by
  unfold makeL
  cases e.isState
  · kernel_rfl
  · kernel_rfl
end
end Go.Ab
/- value.Set. -/
namespace Go.Ab
set_option maxHeartbeats 1000000
set_option maxRecDepth 100000
theorem ex_arity {ip : Nat → Option IFunc} {G : Nat → List AV} {m : Nat} {c : ICode} {k : List Item} {fr : Fr} {σ : Store} {Q : Fr → Store → Prop} (h : fr.length = m) : Ex ip G (.code (.arity m c) :: k) fr σ Q ↔ Ex ip G (.code c :: k) fr σ Q :=
  ex_step fun n => by simp only [run, h, if_true]
/-- slices.Insert is one operation. -/
theorem c_insert {x y : AV} {i : Int} {σ : Store} {r : AV × Store} (h : insertTo σ 6 96 x i y = some r) : callS ipU gU (.fn 153 [] []) [x, .int .i64 i, y] σ = some r := by
  obtain ⟨v, σ'⟩ := r
  refine callS_of (F := F153) rfl (first := []) (caps := []) ?_
  simp only [F153, natF, List.nil_append, List.append_nil]
  rw [ex_arity (by rfl)]
  simp only [EXA, Nat.reduceEqDiff, reduceIte, reduceCtorEq, Nat.reduceAdd, Nat.reduceLeDiff, Nat.reduceSub, Nat.reduceMul, Int.reduceEq, Int.reduceBEq, Int.reduceBNe, Int.reduceLT, Int.reduceLE, Nat.reduceLT, h]
def zK (k : Bs) : List AV := [.str k, .int .i64 0, .int .i64 0, .str [], .nils, .nils]
theorem insC_len (l : List Mem) (i : Nat) (hi : i ≤ l.length) (k : Bs) : (LMem.cells (l.take i) ++ zK k ++ LMem.cells (l.drop i)).length = (l.length + 1) * 6 := by
  rw [List.length_append, List.length_append, LMem.cells_len, LMem.cells_len, List.length_take, List.length_drop]
  show min i l.length * 6 + 6 + (l.length - i) * 6 = _
  omega
/-- What an insertion leaves. -/
theorem ins_to (l : List Mem) (b c : Nat) (σ : Store) (i : Nat) (k : Bs) (hl : l.length < lim) (hi : i ≤ l.length) (hb : σ.get b = some (.own (LMem.cells l))) (hc : σ.get c = some (.own (zK k))) (hbc : b ≠ c) (hn : 0 < l.length) :
    insertTo σ 6 96 (.sl b 0 l.length 6 none) (i : Int) (.sl c 0 1 6 (some 1)) = some (.sl σ.next 0 (l.length + 1) 6 none, (σ.set b .dead).alloc (LMem.cells (l.take i) ++ zK k ++ LMem.cells (l.drop i))) := by
  unfold lim at hl
  have hob : σ.owned b = some (LMem.cells l) := by simp [Store.owned, hb]
  have hoc : σ.owned c = some (zK k) := by simp [Store.owned, hc]
  have hro : rowOf σ 6 (.sl c 0 1 6 (some 1)) = some (zK k) := by simp [rowOf, Store.cells, hc, zK]
  have hck := LMem.cells_len l
  have hsz : LMem.sz = 6 := rfl
  rw [hsz] at hck
  have hone := LMem.cells_one l
  have hz1 : (zK k).all AV.one = true := rfl
  unfold insertTo
  simp only [lenOf, hro]
  by_cases he : (i : Int) = (l.length : Int)
  · have he' : i = l.length := by omega
    subst he'
    rw [if_pos rfl, if_pos (by omega)]
    simp only [appendTo, lenOf, hob]
    rw [if_pos ⟨by omega, by omega, by unfold maxBytes; omega, rfl, hz1⟩]
    simp only [if_true]
    rw [if_neg (by omega), if_pos (by omega)]
    simp [Lay.cells]
  · rw [if_neg he]
    simp only [hob, hoc]
    rw [if_pos ⟨hbc, by trivial, by omega, by omega, by omega, by omega, by omega, by unfold maxBytes; omega, by omega, hone, hz1⟩]
    have e1 : (LMem.cells l).take (i * 6) = LMem.cells (l.take i) := by
      have : LMem.cells l = LMem.cells (l.take i) ++ LMem.cells (l.drop i) := by rw [← Lay.cells_append, List.take_append_drop]
      rw [this, ← take_cells l hi, List.take_left]
    have e2 : (LMem.cells l).drop (i * 6) = LMem.cells (l.drop i) := by
      have : LMem.cells l = LMem.cells (l.take i) ++ LMem.cells (l.drop i) := by rw [← Lay.cells_append, List.take_append_drop]
      rw [this, ← take_cells l hi, List.drop_left]
    simp only [List.drop_zero, Int.toNat_natCast, e1, e2]
theorem ins_to0 (c : Nat) (σ : Store) (k : Bs) (hc : σ.get c = some (.own (zK k))) :
    insertTo σ 6 96 (.vsl [] (some 0)) ((0 : Nat) : Int) (.sl c 0 1 6 (some 1)) = some (.sl σ.next 0 1 6 none, σ.alloc (zK k)) := by
  have hro : rowOf σ 6 (.sl c 0 1 6 (some 1)) = some (zK k) := by simp [rowOf, Store.cells, hc, zK]
  unfold insertTo
  simp only [lenOf, hro]
  simp [appendTo, lenOf, rowOf, zK, maxBytes, AV.one]
theorem splice_mid {α : Type} (pre : List α) (a : α) (A B post : List α) (h : A.length = B.length) : (pre ++ a :: (A ++ post)).take (pre.length + 1) ++ B ++ (pre ++ a :: (A ++ post)).drop (pre.length + 1 + B.length) = pre ++ a :: (B ++ post) := by
  have e1 : pre ++ a :: (A ++ post) = (pre ++ [a]) ++ (A ++ post) := by simp
  have e2 : pre ++ a :: (A ++ post) = ((pre ++ [a]) ++ A) ++ post := by simp
  have l1 : pre.length + 1 = (pre ++ [a]).length := by simp
  have l2 : pre.length + 1 + B.length = ((pre ++ [a]) ++ A).length := by simp [h]; omega
  have t1 : (pre ++ a :: (A ++ post)).take (pre.length + 1) = pre ++ [a] := by rw [e1, l1, List.take_left]
  have t2 : (pre ++ a :: (A ++ post)).drop (pre.length + 1 + B.length) = post := by rw [e2, l2, List.drop_left]
  rw [t1, t2]; simp
theorem splice_val (pre : List AV) (k : Bs) (x : V) (post : List AV) : splice (pre ++ zK k ++ post) (pre.length + 1) x.enc.cells = pre ++ (memE (k, x)).cells ++ post := by
  rw [V.enc_cells, memE_cells]
  have := splice_mid pre (AV.str k) [.int .i64 0, .int .i64 0, .str [], .nils, .nils] [.int .i64 x.kind, .int .i64 x.n, .str x.s, .vsl (x.l.map V.enc) none, .vsl (x.m.map memE) none] post rfl
  unfold splice zK
  simpa using this
theorem splice_valM (pre : List AV) (y : Mem) (x : V) (post : List AV) : splice (pre ++ (memE y).cells ++ post) (pre.length + 1) x.enc.cells = pre ++ (memE (y.1, x)).cells ++ post := by
  rw [V.enc_cells, memE_cells, memE_cells]
  have := splice_mid pre (AV.str y.1) [.int .i64 y.2.kind, .int .i64 y.2.n, .str y.2.s, .vsl (y.2.l.map V.enc) none, .vsl (y.2.m.map memE) none] [.int .i64 x.kind, .int .i64 x.n, .str x.s, .vsl (x.l.map V.enc) none, .vsl (x.m.map memE) none] post rfl
  unfold splice
  simpa using this
end Go.Ab
/- value.Set, whole; what a member says. -/
namespace Go.Ab
set_option maxHeartbeats 1000000
def U10Fa := @F142.eq_1
set_option maxRecDepth 100000
theorem bsF_le (m : List Mem) (k : Bs) : ∀ (n i j : Nat), j - i ≤ n → i ≤ j → bsF m k i j ≤ j
  | 0, i, j, h, hij => by rw [bsF, if_neg (by omega)]; exact hij
  | n + 1, i, j, h, hij => by
    rw [bsF]
    by_cases hlt : i < j
    · rw [if_pos hlt]
      split
      · exact bsF_le m k n _ _ (by omega) (by omega)
      · exact Nat.le_trans (bsF_le m k n _ _ (by omega) (by omega)) (by omega)
    · rw [if_neg hlt]; exact hij
theorem placeV_le (v : V) (k : Bs) : (placeV v k).1 ≤ v.m.length := by
  unfold placeV
  split
  · exact bsF_le v.m k _ 0 _ (Nat.le_refl _) (by omega)
  · simp
theorem placeV_lt {v : V} {k : Bs} (h : (placeV v k).2 = true) : (placeV v k).1 < v.m.length := by
  unfold placeV at h ⊢
  split
  · rename_i h5
    rw [if_pos h5] at h
    simp at h
    exact h.1
  · rename_i h5
    rw [if_neg h5] at h
    cases h
def setM (m : List Mem) (i : Nat) (ok : Bool) (k : Bs) (x : V) : List Mem := if ok then (match m[i]? with | some y => m.set i (y.1, x) | none => m) else m.take i ++ (k, x) :: m.drop i
def setV (v : V) (k : Bs) (x : V) : V := if v.kind = 5 then V.mk v.kind v.n v.s v.l (setM v.m (placeV v k).1 (placeV v k).2 k x) else v
abbrev vCs (v : V) : List AV := [.int .i64 v.kind, .int .i64 v.n, .str v.s, .vsl (v.l.map V.enc) none, .vsl (v.m.map memE) none]
/-- A value whose members lie in a block of one's own, read out. -/
theorem rbE_own {σ : Store} (v : V) {b : Nat} {l : List Mem} (h : look σ.m b = some (.own (LMem.cells l))) : rbE σ (.agg [.int .i64 v.kind, .int .i64 v.n, .str v.s, .vsl (v.l.map V.enc) none, .sl b 0 l.length 6 none]) = some (V.mk v.kind v.n v.s v.l l).enc := by
  have hcl : (AV.vsl (v.l.map V.enc) none).closed = true := by simp only [AV.closed, closedL_mapV]
  have hce : (AV.vsl (v.l.map V.enc) none).er = .vsl (v.l.map V.enc) none := by simp only [AV.er, erL_mapV]
  have hb := RbL.agg (σ := σ) (RbL.clo (x := .int .i64 v.kind) rfl (RbL.clo (x := .int .i64 v.n) rfl (RbL.clo (x := .str v.s) rfl (RbL.clo (x := .vsl (v.l.map V.enc) none) hcl (RbL.rp (L := LMem) (l := l) (v := .sl b 0 l.length 6 none) (.inr ⟨b, [], rfl, by rw [List.append_nil]; exact h⟩) (RbL.nil σ 23))))))
  simp only [er_int, er_str, hce] at hb
  rw [V.enc_eq]
  exact hb
theorem rbE_ownN {σ : Store} (v : V) {b n : Nat} {l : List Mem} (hn : l.length = n) (h : look σ.m b = some (.own (LMem.cells l))) : rbE σ (.agg [.int .i64 v.kind, .int .i64 v.n, .str v.s, .vsl (v.l.map V.enc) none, .sl b 0 n 6 none]) = some (V.mk v.kind v.n v.s v.l l).enc := by
  subst hn; exact rbE_own v h
theorem r_Set (v : V) (k : Bs) (x : V) (hlen : v.m.length < lim) : cR 142 [v.enc, .str k, x.enc] = some (setV v k x).enc := by
  have hlen' := hlen
  unfold lim at hlen'
  have hp := r_place v k (by unfold big; omega)
  have hple := placeV_le v k
  have hplt := fun h => placeV_lt (v := v) (k := k) h
  refine cR_of (F := F142) rfl ?_
  obtain ⟨r, hr⟩ : ∃ r, r = (setV v k x).enc := ⟨_, rfl⟩
  rw [← hr]
  unfold setV at hr
  cases h5 : v.kind != 5 with
  | true =>
    have hk5 : v.kind ≠ 5 := by simpa using h5
    rw [if_neg hk5] at hr
    simp only [U10Fa, EXA, Nat.reduceEqDiff, reduceIte, reduceCtorEq, Nat.reduceAdd, Nat.reduceLeDiff, Nat.reduceSub, Nat.reduceMul, Int.reduceEq, Int.reduceBEq, Int.reduceBNe, Int.reduceLT, Int.reduceLE, Nat.reduceLT, VX, readAt_some, h5, hr]
  | false =>
    have hk5 : v.kind = 5 := by simpa using h5
    rw [if_pos hk5] at hr
    generalize placeV v k = pl at hp hple hplt hr
    obtain ⟨i, ok⟩ := pl
    simp only at hp hple hplt hr
    cases hm : v.m with
    | nil =>
      have hi : i = 0 := by rw [hm] at hple; simpa using hple
      subst hi
      have hok : ok = false := by
        cases ok with
        | false => rfl
        | true => have := hplt rfl; rw [hm] at this; simp at this
      subst hok
      have c1 : callM ipU gU .split (.fn 38 [] []) [.vsl (v.m.map memE) none] ⟨2, [(1, .own [.int .i64 0, .int .i64 0, .str [], .nils, .nils]), (0, .own (vCs v))]⟩ = some (.vsl [] (some 0), ⟨2, [(1, .own [.int .i64 0, .int .i64 0, .str [], .nils, .nils]), (0, .own (vCs v))]⟩) := by
        have := c_cloneM0 none ⟨2, [(1, .own [.int .i64 0, .int .i64 0, .str [], .nils, .nils]), (0, .own (vCs v))]⟩
        rw [hm]; exact this
      have c2 := c_insert (ins_to0 2 ⟨3, [(2, .own (zK k)), (0, .own [.int .i64 v.kind, .int .i64 v.n, .str v.s, .vsl (v.l.map V.enc) none, .vsl [] (some 0)]), (1, .own [.int .i64 0, .int .i64 0, .str [], .nils, .nils]), (0, .own (vCs v))]⟩ k rfl)
      simp only [Store.alloc, zK, vCs] at c1 c2
      have hspl := splice_val [] k x []
      have i0 := idx_sl (b := 3) (n := 1) (j := 0) (σ := .empty) (by omega)
      simp only [V.enc_cells, memE_cells, zK, splice, List.nil_append, List.append_nil, List.length_nil, List.length_cons, Nat.zero_add, Nat.reduceAdd] at hspl
      rw [hm] at hr
      simp only [setM, List.take_nil, List.drop_nil, List.nil_append, Bool.false_eq_true, if_false] at hr
      simp only [U10Fa, EXA, Nat.reduceEqDiff, reduceIte, reduceCtorEq, Nat.reduceAdd, Nat.reduceLeDiff, Nat.reduceSub, Nat.reduceMul, Int.reduceEq, Int.reduceBEq, Int.reduceBNe, Int.reduceLT, Int.reduceLE, Nat.reduceLT, VX, readAt_some, h5, hp, c1, c2, i0, hspl]
      rw [hr]
      exact rbE_own v (l := [(k, x)]) (by simp [look, Lay.cells, LMem, memE_cells])
    | cons y0 m0 =>
      have hn : 0 < v.m.length := by rw [hm]; simp
      have c1 : callM ipU gU .split (.fn 38 [] []) [.vsl (v.m.map memE) none] ⟨2, [(1, .own [.int .i64 0, .int .i64 0, .str [], .nils, .nils]), (0, .own (vCs v))]⟩ = some (.sl 2 0 v.m.length 6 none, ⟨3, [(2, .own (LMem.cells v.m)), (1, .own [.int .i64 0, .int .i64 0, .str [], .nils, .nils]), (0, .own (vCs v))]⟩) := by
        have := c_cloneM1 y0 m0 none ⟨2, [(1, .own [.int .i64 0, .int .i64 0, .str [], .nils, .nils]), (0, .own (vCs v))]⟩ (by rw [← hm]; exact hlen)
        rw [hm]; exact this
      simp only [vCs] at c1
      clear hm
      have hcl := LMem.cells_len v.m
      have hsz : LMem.sz = 6 := rfl
      rw [hsz] at hcl
      have hxl : x.enc.cells.length = 5 := by rw [V.enc_cells]; rfl
      have hxo : x.enc.cells.all AV.one = true := LV.one x
      cases ok with
      | true =>
        have hlt := hplt rfl
        obtain ⟨y, hy⟩ := get_lt hlt
        simp only [setM, hy, if_true] at hr
        have i0 := idx_sl (b := 2) (n := v.m.length) (j := i) (σ := .empty) hlt
        have hspl : splice (LMem.cells v.m) (i * 6 + 1) x.enc.cells = LMem.cells (v.m.set i (y.1, x)) := by
          have e : v.m = v.m.take i ++ y :: v.m.drop (i + 1) := by rw [← drop_cons hy, List.take_append_drop]
          have e2 : v.m.set i (y.1, x) = v.m.take i ++ (y.1, x) :: v.m.drop (i + 1) := List.set_eq_take_append_cons_drop.trans (by rw [if_pos hlt])
          have h1 := take_cells v.m (j := i) (by omega)
          have := splice_valM (LMem.cells (v.m.take i)) y x (LMem.cells (v.m.drop (i + 1)))
          rw [h1] at this
          rw [e2, Lay.cells_append, Lay.cells_cons, ← List.append_assoc]
          have e3 : LMem.cells v.m = LMem.cells (v.m.take i) ++ (memE y).cells ++ LMem.cells (v.m.drop (i + 1)) := by
            rw [List.append_assoc]
            have : LMem.cells v.m = LMem.cells (v.m.take i ++ y :: v.m.drop (i + 1)) := by rw [← e]
            rw [this, Lay.cells_append, Lay.cells_cons]; rfl
          rw [e3]; exact this
        have hle : i * 6 + 1 + 5 ≤ (LMem.cells v.m).length := by rw [hcl]; omega
        generalize LMem.cells v.m = C at c1 hspl hle
        simp only [V.enc_cells, splice, List.length_nil, List.length_cons, Nat.zero_add, Nat.reduceAdd] at hspl hxo
        simp only [U10Fa, EXA, Nat.reduceEqDiff, reduceIte, reduceCtorEq, Nat.reduceAdd, Nat.reduceLeDiff, Nat.reduceSub, Nat.reduceMul, Int.reduceEq, Int.reduceBEq, Int.reduceBNe, Int.reduceLT, Int.reduceLE, Nat.reduceLT, VX, readAt_some, h5, hp, c1, i0, hspl, hle, hxo]
        rw [hr]
        exact rbE_ownN v List.length_set rfl
      | false =>
        simp only [setM, Bool.false_eq_true, if_false] at hr
        have c2 := c_insert (ins_to v.m 2 3 ⟨4, [(3, .own (zK k)), (0, .own [.int .i64 v.kind, .int .i64 v.n, .str v.s, .vsl (v.l.map V.enc) none, .sl 2 0 v.m.length 6 none]), (2, .own (LMem.cells v.m)), (1, .own [.int .i64 0, .int .i64 0, .str [], .nils, .nils]), (0, .own (vCs v))]⟩ i k hlen hple rfl rfl (by omega) hn)
        have i0 := idx_sl (b := 4) (n := v.m.length + 1) (j := i) (σ := .empty) (by omega)
        have hspl : splice (LMem.cells (v.m.take i) ++ zK k ++ LMem.cells (v.m.drop i)) (i * 6 + 1) x.enc.cells = LMem.cells (v.m.take i ++ (k, x) :: v.m.drop i) := by
          have := splice_val (LMem.cells (v.m.take i)) k x (LMem.cells (v.m.drop i))
          rw [take_cells v.m hple] at this
          rw [Lay.cells_append, Lay.cells_cons, ← List.append_assoc]
          exact this
        have hle : i * 6 + 1 + 5 ≤ (LMem.cells (v.m.take i) ++ zK k ++ LMem.cells (v.m.drop i)).length := by rw [insC_len v.m i hple k]; omega
        generalize LMem.cells (v.m.take i) ++ zK k ++ LMem.cells (v.m.drop i) = D at c2 hspl hle
        generalize LMem.cells v.m = C at c1 c2
        simp only [V.enc_cells, splice, List.length_nil, List.length_cons, Nat.zero_add, Nat.reduceAdd] at hspl hxo
        simp only [Store.alloc, Store.set, zK, vCs] at c2
        simp only [U10Fa, EXA, Nat.reduceEqDiff, reduceIte, reduceCtorEq, Nat.reduceAdd, Nat.reduceLeDiff, Nat.reduceSub, Nat.reduceMul, Int.reduceEq, Int.reduceBEq, Int.reduceBNe, Int.reduceLT, Int.reduceLE, Nat.reduceLT, VX, readAt_some, h5, hp, c1, c2, i0, hspl, hle, hxo]
        rw [hr]
        exact rbE_ownN v (by simp; omega) rfl
end Go.Ab
/- The document's: the slots that an event needs. -/
namespace Go.Ab
set_option maxHeartbeats 1000000
def S15Fa := J @F6_15.eq_1 (J @F6_23.eq_1 (J @F6_24.eq_1 (J @F6_30.eq_1 (J @F6_31.eq_1 (J @F6_32.eq_1 (J @F6_33.eq_1 (J @F6_34.eq_1 (J @F6_35.eq_1 (J @F6_43.eq_1 (J @F6_48.eq_1 (J @F6_58.eq_1 (J @F6_59.eq_1 (J @F6_68.eq_1 (J @F6_69.eq_1 (J @F6_70.eq_1 (@F6.eq_1))))))))))))))))
set_option maxRecDepth 100000
/-- A part of such a slice that is a struct, by its number. -/
theorem Gr.idxA {α : Type} {L : Lay α} {σ : Store} {v : AV} {l : List α} (h : Gr L σ v l) (hs : L.sz ≠ 1) {j : Nat} {a : α} (hj : l[j]? = some a) : ∃ p, idxOf L.sz none v (.int .i64 (j : Int)) = some p ∧ readPtr σ p (some L.sz) = some (L.f a) := by
  have hlt := lt_of_get hj
  have hag := L.agg a
  rw [if_neg hs] at hag
  obtain ⟨cs, hcs⟩ := hag
  have hl := L.len a
  rw [hcs] at hl
  simp only [AV.cells] at hl
  rcases h with ⟨rfl, rfl⟩ | ⟨b, rfl, h⟩ | rfl
  · simp at hj
  · refine ⟨.ptr b (j * L.sz), ?_, ?_⟩
    · have h2 : ((j : Int) < (l.length : Int)) := by omega
      simp [Go.Ab.idxOf, h2]
    · have h1 := h.1
      have e : ∀ (l : List α) (j : Nat), l[j]? = some a → (L.cells l).drop (j * L.sz) = cs ++ L.cells (l.drop (j + 1)) := by
        intro l
        induction l with
        | nil => intro j hj; simp at hj
        | cons x l ih =>
          intro j hj
          have hx := L.len x
          have e1 : L.cells (x :: l) = (L.f x).cells ++ L.cells l := by simp [Lay.cells]
          cases j with
          | zero =>
            simp only [List.getElem?_cons_zero, Option.some.injEq] at hj
            subst hj
            rw [e1, hcs, Nat.zero_mul]; rfl
          | succ j =>
            simp only [List.getElem?_cons_succ] at hj
            rw [e1, List.drop_append, hx]
            have e2 : (j + 1) * L.sz - L.sz = j * L.sz := by rw [Nat.add_mul]; omega
            have e3 : (L.f x).cells.drop ((j + 1) * L.sz) = [] := List.drop_eq_nil_of_le (by rw [hx, Nat.add_mul]; omega)
            rw [e2, e3, ih j hj]
            simp
      have h3 := e l j hj
      have h4 := L.cells_len l
      have h5 : j * L.sz + L.sz ≤ (L.cells l).length := by
        rw [h4]
        calc j * L.sz + L.sz = (j + 1) * L.sz := by rw [Nat.add_mul]; omega
          _ ≤ l.length * L.sz := Nat.mul_le_mul_right _ hlt
      simp only [readPtr, Store.cells, h1, readAt]
      rw [if_pos h5, h3, List.take_append_of_le_length (by omega), List.take_of_length_le (by omega), hcs]
  · refine ⟨.vptr (L.f a).cells 0, idx_map (f := L.f) hj (L.len a), ?_⟩
    simp only [readPtr, hcs, AV.cells, readAt]
    rw [if_pos (by omega), List.drop_zero, List.take_of_length_le (by omega)]
def dedT (l : List Slt) : List Slt := l.foldl addT []
theorem rn_end {σ : Store} {v : AV} {l : List Slt} {r : AV} (h : Gr LSlt σ v l) (hl : l.length < 100) (hr : r = .vsl ((dedT l).map sltE) none) :
    Ex ipU gU [.code F6_69] [(3, v)] σ fun fr' σ1 => (resAll fr' σ1 F6.res).bind (rbE σ1) = some r := by
  simp only [F6_15, F6_23, F6_24, F6_30, F6_31, F6_32, F6_33, F6_34, F6_35, F6_43, F6_48, F6_58, F6_68, F6_69, F6_70, F6, ex_loop, EXA, Nat.reduceEqDiff, reduceIte, reduceCtorEq, Nat.reduceAdd, Nat.reduceLeDiff, Nat.reduceSub, Nat.reduceMul, Int.reduceEq, Int.reduceBEq, Int.reduceBNe, Int.reduceLT, Int.reduceLE, Nat.reduceLT]
  refine ex_whileI (S := Nat × List Slt × AV) (fun p => [(3, v), (10, p.2.2), (11, .int .i64 (p.1 : Int))]) (fun p => l.length - p.1)
    (fun p σ => Gr LSlt σ v l ∧ Gr LSlt σ p.2.2 p.2.1 ∧ Dis v p.2.2 ∧ p.2.1.length ≤ p.1 ∧ (l.drop p.1).foldl addT p.2.1 = dedT l) ?_ (0, [], .nils) _ ⟨h, Gr.nil LSlt _, fun _ _ _ _ _ _ _ _ _ _ h => by simp at h, by simp, rfl⟩
  rintro b ⟨j, acc, w⟩ σ ⟨hv, hg, hd, hlen, hj⟩ ih
  simp only at hv hg hd hlen hj ih ⊢
  have hvl := hv.lenL
  by_cases hlt : j < l.length
  · obtain ⟨x, hx⟩ := get_lt hlt
    obtain ⟨p, p1, p2⟩ := hv.idxA (by simp [LSlt]) hx
    have p1' : idxOf 2 none v (.int .i64 (j : Int)) = some p := p1
    have p2' : readPtr σ p (some 2) = some (sltE x) := p2
    have hcond := dlt hlt
    have hw := wsucc hlt (by omega)
    rw [drop_cons hx, List.foldl_cons] at hj
    have hcall : callP ipU gU false (.fn 34 [] []) [w, sltE x] σ = some (.bool (hasT acc x), σ) := hg.call1 (by simp only [closedL, sltE_closed, Bool.and_self]) (by simp only [erL, sltE_er]; exact r_slotIn acc x (by unfold big; omega)) rfl
    cases hh : hasT acc x with
    | true =>
      rw [hh] at hcall
      have ha : addT acc x = acc := by unfold addT; rw [if_pos hh]
      rw [ha] at hj
      simp only [S15Fa, EXA, Nat.reduceEqDiff, reduceIte, reduceCtorEq, Nat.reduceAdd, Nat.reduceLeDiff, Nat.reduceSub, Nat.reduceMul, Int.reduceEq, Int.reduceBEq, Int.reduceBNe, Int.reduceLT, Int.reduceLE, Nat.reduceLT, VX, hvl, hcond, p1', p2', hcall, hw]
      exact ih (j + 1, acc, w) _ _ (by simp; omega) ⟨hv, hg, hd, by simp; omega, hj⟩ (by simp only [EXA, Nat.reduceEqDiff, reduceIte, reduceCtorEq, Nat.reduceAdd, Nat.reduceLeDiff, Nat.reduceSub, Nat.reduceMul, Int.reduceEq, Int.reduceBEq, Int.reduceBNe, Int.reduceLT, Int.reduceLE, Nat.reduceLT])
    | false =>
      rw [hh] at hcall
      have ha : addT acc x = acc ++ [x] := by unfold addT; rw [if_neg (by simp [hh])]
      rw [ha] at hj
      have happ : appendTo σ 2 32 w (sltE x).cells 1 = some _ := hg.push (a := x) (bytes := 32) (by omega) (by unfold maxBytes; omega)
      have hlo : lenOf (.vsl [sltE x] (some 1)) = some 1 := rfl
      have hro : ∀ σ', rowOf σ' 2 (.vsl [sltE x] (some 1)) = some (sltE x).cells := fun _ => rfl
      have hb2 : (fillA [.str [], .str []] [(0, 2, sltE x)]) = some [.str x.type, .str x.key] := rfl
      simp only [sltE_cells] at happ hro
      simp only [S15Fa, EXA, Nat.reduceEqDiff, reduceIte, reduceCtorEq, Nat.reduceAdd, Nat.reduceLeDiff, Nat.reduceSub, Nat.reduceMul, Int.reduceEq, Int.reduceBEq, Int.reduceBNe, Int.reduceLT, Int.reduceLE, Nat.reduceLT, VX, hvl, hcond, p1', p2', hcall, hb2, happ, hlo, hro, hw]
      exact ih (j + 1, acc ++ [x], _) _ _ (by simp; omega) ⟨hv.other hg hd.symm, Gr.own (hg.next (by simp)), (hv.dis_next _ _ _ _).symm, by simp; omega, hj⟩ (by simp only [EXA, Nat.reduceEqDiff, reduceIte, reduceCtorEq, Nat.reduceAdd, Nat.reduceLeDiff, Nat.reduceSub, Nat.reduceMul, Int.reduceEq, Int.reduceBEq, Int.reduceBNe, Int.reduceLT, Int.reduceLE, Nat.reduceLT]; rfl)
  · have hcond := dge (Nat.not_lt.1 hlt)
    rw [List.drop_eq_nil_of_le (by omega), List.foldl_nil] at hj
    have hrb := hg.rbE
    simp only [S15Fa, EXA, Nat.reduceEqDiff, reduceIte, reduceCtorEq, Nat.reduceAdd, Nat.reduceLeDiff, Nat.reduceSub, Nat.reduceMul, Int.reduceEq, Int.reduceBEq, Int.reduceBNe, Int.reduceLT, Int.reduceLE, Nat.reduceLT, VX, hvl, hcond, hrb, hr, hj]
    rfl
end Go.Ab
/- The document's: the slots that an event needs, as the program's. -/
namespace Go.Ab
set_option maxHeartbeats 1000000
def S16Fb := J @F6_15.eq_1 (J @F6_23.eq_1 (J @F6_24.eq_1 (J @F6_30.eq_1 (J @F6_32.eq_1 (J @F6_33.eq_1 (J @F6_34.eq_1 (J @F6_35.eq_1 (J @F6_43.eq_1 (J @F6_48.eq_1 (J @F6_58.eq_1 (J @F6_59.eq_1 (J @F6_68.eq_1 (@F6.eq_1)))))))))))))
def S16Fc := J @F6_15.eq_1 (J @F6_23.eq_1 (J @F6_24.eq_1 (J @F6_30.eq_1 (J @F6_31.eq_1 (J @F6_32.eq_1 (J @F6_34.eq_1 (J @F6_35.eq_1 (J @F6_43.eq_1 (J @F6_48.eq_1 (J @F6_58.eq_1 (J @F6_59.eq_1 (J @F6_68.eq_1 (J @F6_69.eq_1 (@F6.eq_1))))))))))))))
def S16Fe := J @F6_15.eq_1 (J @F6_23.eq_1 (J @F6_24.eq_1 (J @F6_30.eq_1 (J @F6_31.eq_1 (J @F6_32.eq_1 (J @F6_33.eq_1 (J @F6_34.eq_1 (J @F6_35.eq_1 (J @F6_43.eq_1 (J @F6_48.eq_1 (J @F6_58.eq_1 (J @F6_59.eq_1 (J @F6_68.eq_1 (J @F6_70.eq_1 (@F6.eq_1)))))))))))))))
set_option maxRecDepth 100000
def putIf (c : Bool) (l : List Slt) (s : Slt) : List Slt := if c then l ++ [s] else l
def frR (e : Ev) (v : AV) (m : Bs) : Fr := [(1, .vptr (evE e).cells 0), (3, v), (4, .str m)]
theorem Gr.pushT {σ : Store} {v : AV} {l : List Slt} (h : Gr LSlt σ v l) (hl : l.length < 1000) (t k : Bs) : appendTo σ 2 32 v [.str t, .str k] 1 = some (.sl σ.next 0 (l ++ [(⟨t, k⟩ : Slt)]).length 2 none, grNext LSlt σ v l [(⟨t, k⟩ : Slt)]) :=
  h.push (a := (⟨t, k⟩ : Slt)) (bytes := 32) (by omega) (by unfold maxBytes; omega)
theorem Gr.nextT {σ : Store} {v : AV} {l : List Slt} (h : Gr LSlt σ v l) (t k : Bs) : Gr LSlt (grNext LSlt σ v l [(⟨t, k⟩ : Slt)]) (.sl σ.next 0 (l ++ [(⟨t, k⟩ : Slt)]).length 2 none) (l ++ [(⟨t, k⟩ : Slt)]) :=
  Gr.own (h.next (m := [⟨t, k⟩]) (by simp))
theorem lo1T (t k : Bs) : lenOf (.vsl [sltE ⟨t, k⟩] (some 1)) = some 1 := rfl
theorem ro1T (t k : Bs) (σ : Store) : rowOf σ 2 (.vsl [sltE ⟨t, k⟩] (some 1)) = some [.str t, .str k] := rfl
theorem rn_auth {e : Ev} {m : Bs} {σ : Store} {v : AV} {l : List Slt} {r : AV} (hb : e.content.sz < big) (h : Gr LSlt σ v l) (hl : l.length < 90)
    (hr : r = .vsl ((dedT (putIf ((authV e.content).2 && m == kJoin) l ⟨kMember, (authV e.content).1⟩)).map sltE) none) :
    Ex ipU gU [.code F6_31, .code F6_70] (frR e v m) σ fun fr' σ1 => (resAll fr' σ1 F6.res).bind (rbE σ1) = some r := by
  have h33 := r_refAuth e.content hb
  unfold frR
  simp only [S16Fe, EXA, Nat.reduceEqDiff, reduceIte, reduceCtorEq, Nat.reduceAdd, Nat.reduceLeDiff, Nat.reduceSub, Nat.reduceMul, Int.reduceEq, Int.reduceBEq, Int.reduceBNe, Int.reduceLT, Int.reduceLE, Nat.reduceLT, VX, readAt_some, h33]
  cases hk : (authV e.content).2 with
  | false =>
    simp only [hk, Bool.false_and, putIf, Bool.false_eq_true, if_false] at hr
    simp only [S16Fe, EXA, Nat.reduceEqDiff, reduceIte, reduceCtorEq, Nat.reduceAdd, Nat.reduceLeDiff, Nat.reduceSub, Nat.reduceMul, Int.reduceEq, Int.reduceBEq, Int.reduceBNe, Int.reduceLT, Int.reduceLE, Nat.reduceLT, VX, readAt_some]
    exact rn_end h (by omega) hr
  | true =>
    cases hj : m == kJoin with
    | false =>
      simp only [hk, hj, Bool.and_false, putIf, Bool.false_eq_true, if_false] at hr
      simp only [S16Fe, EXA, Nat.reduceEqDiff, reduceIte, reduceCtorEq, Nat.reduceAdd, Nat.reduceLeDiff, Nat.reduceSub, Nat.reduceMul, Int.reduceEq, Int.reduceBEq, Int.reduceBNe, Int.reduceLT, Int.reduceLE, Nat.reduceLT, VX, readAt_some, hj]
      exact rn_end h (by omega) hr
    | true =>
      simp only [hk, hj, Bool.and_self, putIf, if_true] at hr
      have happ := h.pushT (by omega) kMember (authV e.content).1
      have hn := h.nextT kMember (authV e.content).1
      simp only [S16Fe, EXA, Nat.reduceEqDiff, reduceIte, reduceCtorEq, Nat.reduceAdd, Nat.reduceLeDiff, Nat.reduceSub, Nat.reduceMul, Int.reduceEq, Int.reduceBEq, Int.reduceBNe, Int.reduceLT, Int.reduceLE, Nat.reduceLT, VX, readAt_some, hj, lo1T, ro1T, happ]
      exact rn_end hn (by simp; omega) hr
theorem rn_third {e : Ev} {m : Bs} {σ : Store} {v : AV} {l : List Slt} {r : AV} (hb : e.content.sz < big) (h : Gr LSlt σ v l) (hl : l.length < 80)
    (hr : r = .vsl ((dedT (putIf ((authV e.content).2 && m == kJoin) (putIf ((thirdV e.content).2.2 && m == kInvite) l ⟨kThirdInv, (thirdV e.content).1⟩) ⟨kMember, (authV e.content).1⟩)).map sltE) none) :
    Ex ipU gU [.code F6_33, .code F6_70] (frR e v m) σ fun fr' σ1 => (resAll fr' σ1 F6.res).bind (rbE σ1) = some r := by
  have h32 := r_refThird e.content hb
  rw [thirdR_eq] at h32
  unfold frR
  simp only [S16Fb, EXA, Nat.reduceEqDiff, reduceIte, reduceCtorEq, Nat.reduceAdd, Nat.reduceLeDiff, Nat.reduceSub, Nat.reduceMul, Int.reduceEq, Int.reduceBEq, Int.reduceBNe, Int.reduceLT, Int.reduceLE, Nat.reduceLT, VX, readAt_some, h32]
  cases hk : (thirdV e.content).2.2 with
  | false =>
    simp only [hk, Bool.false_and, putIf, Bool.false_eq_true, if_false] at hr
    simp only [S16Fb, EXA, Nat.reduceEqDiff, reduceIte, reduceCtorEq, Nat.reduceAdd, Nat.reduceLeDiff, Nat.reduceSub, Nat.reduceMul, Int.reduceEq, Int.reduceBEq, Int.reduceBNe, Int.reduceLT, Int.reduceLE, Nat.reduceLT, VX, readAt_some]
    exact rn_auth hb h (by omega) (by simp only [putIf]; exact hr)
  | true =>
    cases hj : m == kInvite with
    | false =>
      simp only [hk, hj, Bool.and_false, putIf, Bool.false_eq_true, if_false] at hr
      simp only [S16Fb, EXA, Nat.reduceEqDiff, reduceIte, reduceCtorEq, Nat.reduceAdd, Nat.reduceLeDiff, Nat.reduceSub, Nat.reduceMul, Int.reduceEq, Int.reduceBEq, Int.reduceBNe, Int.reduceLT, Int.reduceLE, Nat.reduceLT, VX, readAt_some, hj]
      exact rn_auth hb h (by omega) (by simp only [putIf]; exact hr)
    | true =>
      simp only [hk, hj, Bool.and_self, putIf, if_true] at hr
      have happ := h.pushT (by omega) kThirdInv (thirdV e.content).1
      have hn := h.nextT kThirdInv (thirdV e.content).1
      simp only [S16Fb, EXA, Nat.reduceEqDiff, reduceIte, reduceCtorEq, Nat.reduceAdd, Nat.reduceLeDiff, Nat.reduceSub, Nat.reduceMul, Int.reduceEq, Int.reduceBEq, Int.reduceBNe, Int.reduceLT, Int.reduceLE, Nat.reduceLT, VX, readAt_some, hj, lo1T, ro1T, happ]
      exact rn_auth hb hn (by simp; omega) (by simp only [putIf]; exact hr)
theorem rn_joins {e : Ev} {m : Bs} {σ : Store} {v : AV} {l : List Slt} {r : AV} (hb : e.content.sz < big) (h : Gr LSlt σ v l) (hl : l.length < 70)
    (hr : r = .vsl ((dedT (putIf ((authV e.content).2 && m == kJoin) (putIf ((thirdV e.content).2.2 && m == kInvite) (putIf (m == kJoin || (m == kInvite || m == kKnock)) l ⟨kJoins, []⟩) ⟨kThirdInv, (thirdV e.content).1⟩) ⟨kMember, (authV e.content).1⟩)).map sltE) none) :
    Ex ipU gU [.code F6_35, .code F6_70] (frR e v m) σ fun fr' σ1 => (resAll fr' σ1 F6.res).bind (rbE σ1) = some r := by
  have happ := h.pushT (by omega) kJoins []
  have hn := h.nextT kJoins []
  unfold frR
  cases hj : m == kJoin with
  | true =>
    simp only [hj, Bool.true_or, putIf, if_true] at hr
    simp only [S16Fc, EXA, Nat.reduceEqDiff, reduceIte, reduceCtorEq, Nat.reduceAdd, Nat.reduceLeDiff, Nat.reduceSub, Nat.reduceMul, Int.reduceEq, Int.reduceBEq, Int.reduceBNe, Int.reduceLT, Int.reduceLE, Nat.reduceLT, VX, readAt_some, hj, lo1T, ro1T, happ]
    exact rn_third hb hn (by simp; omega) (by simp only [hj, putIf]; exact hr)
  | false =>
  cases hi : m == kInvite with
  | true =>
    simp only [hj, hi, Bool.true_or, Bool.or_true, putIf, if_true] at hr
    simp only [S16Fc, EXA, Nat.reduceEqDiff, reduceIte, reduceCtorEq, Nat.reduceAdd, Nat.reduceLeDiff, Nat.reduceSub, Nat.reduceMul, Int.reduceEq, Int.reduceBEq, Int.reduceBNe, Int.reduceLT, Int.reduceLE, Nat.reduceLT, VX, readAt_some, hj, hi, lo1T, ro1T, happ]
    exact rn_third hb hn (by simp; omega) (by simp only [hj, hi, putIf]; exact hr)
  | false =>
  cases hk : m == kKnock with
  | true =>
    simp only [hj, hi, hk, Bool.or_true, putIf, if_true] at hr
    simp only [S16Fc, EXA, Nat.reduceEqDiff, reduceIte, reduceCtorEq, Nat.reduceAdd, Nat.reduceLeDiff, Nat.reduceSub, Nat.reduceMul, Int.reduceEq, Int.reduceBEq, Int.reduceBNe, Int.reduceLT, Int.reduceLE, Nat.reduceLT, VX, readAt_some, hj, hi, hk, lo1T, ro1T, happ]
    exact rn_third hb hn (by simp; omega) (by simp only [hj, hi, putIf]; exact hr)
  | false =>
    simp only [hj, hi, hk, Bool.or_self, putIf, Bool.false_eq_true, if_false] at hr
    simp only [S16Fc, EXA, Nat.reduceEqDiff, reduceIte, reduceCtorEq, Nat.reduceAdd, Nat.reduceLeDiff, Nat.reduceSub, Nat.reduceMul, Int.reduceEq, Int.reduceBEq, Int.reduceBNe, Int.reduceLT, Int.reduceLE, Nat.reduceLT, VX, readAt_some, hj, hi, hk]
    exact rn_third hb h (by omega) (by simp only [hj, hi, putIf]; exact hr)
def needsR (e : Ev) : List Slt :=
  if e.type == kCreate then [] else if !(e.type == kMember) then dedT (base3 e) else
  let to := membershipV e.content
  dedT (putIf ((authV e.content).2 && to == kJoin) (putIf ((thirdV e.content).2.2 && to == kInvite) (putIf (to == kJoin || (to == kInvite || to == kKnock)) (base3 e ++ [⟨kMember, e.key⟩]) ⟨kJoins, []⟩) ⟨kThirdInv, (thirdV e.content).1⟩) ⟨kMember, (authV e.content).1⟩)
theorem r_refNeedsR (e : Ev) (hb : e.content.sz < big) : cR 6 [evE e] = some (.vsl ((needsR e).map sltE) none) := by
  have h31 := r_refMembership e.content hb
  refine cR_of (F := F6) rfl ?_
  obtain ⟨r, hr⟩ : ∃ r, r = AV.vsl ((needsR e).map sltE) none := ⟨_, rfl⟩
  rw [← hr]
  unfold needsR at hr
  cases hc : e.type == kCreate with
  | true =>
    simp only [hc, if_true, List.map_nil] at hr
    simp only [F6_15, F6_23, F6_24, F6_30, F6_31, F6_32, F6_33, F6_34, F6_35, F6_43, F6_48, F6_58, F6_59, F6_68, F6_69, F6_70, F6, EXA, Nat.reduceEqDiff, reduceIte, reduceCtorEq, Nat.reduceAdd, Nat.reduceLeDiff, Nat.reduceSub, Nat.reduceMul, Int.reduceEq, Int.reduceBEq, Int.reduceBNe, Int.reduceLT, Int.reduceLE, Nat.reduceLT, VX, readAt_some, hc, hr]
  | false =>
  have hg : ∀ σ, Gr LSlt σ (.vsl ((base3 e).map sltE) (some 3)) (base3 e) := fun σ => Gr.lit LSlt σ (base3 e)
  cases hm : e.type == kMember with
  | false =>
    simp only [hc, hm, Bool.not_false, if_true, Bool.false_eq_true, if_false] at hr
    simp only [S16Fe, EXA, Nat.reduceEqDiff, reduceIte, reduceCtorEq, Nat.reduceAdd, Nat.reduceLeDiff, Nat.reduceSub, Nat.reduceMul, Int.reduceEq, Int.reduceBEq, Int.reduceBNe, Int.reduceLT, Int.reduceLE, Nat.reduceLT, VX, readAt_some, hc, hm]
    exact rn_end (hg _) (by simp [base3]) hr
  | true =>
  simp only [hc, hm, Bool.not_true, Bool.false_eq_true, if_false] at hr
  have happ := (hg ⟨0, []⟩).pushT (by simp [base3]) kMember e.key
  have hn := (hg ⟨0, []⟩).nextT kMember e.key
  have hx : AV.vsl [sltE ⟨kCreate, []⟩, sltE ⟨kPower, []⟩, sltE ⟨kMember, e.sender⟩] (some 3) = .vsl ((base3 e).map sltE) (some 3) := rfl
  simp only [← hx] at happ hn
  simp only [F6_15, F6_23, F6_24, F6_30, F6_31, F6_32, F6_33, F6_34, F6_43, F6_48, F6_58, F6_59, F6_68, F6_69, F6, EXA, Nat.reduceEqDiff, reduceIte, reduceCtorEq, Nat.reduceAdd, Nat.reduceLeDiff, Nat.reduceSub, Nat.reduceMul, Int.reduceEq, Int.reduceBEq, Int.reduceBNe, Int.reduceLT, Int.reduceLE, Nat.reduceLT, VX, readAt_some, hc, hm, h31, lo1T, ro1T, Store.empty, happ]
  exact rn_joins hb hn (by simp [base3]) hr
theorem addT_new {l : List Slt} {s : Slt} (h : s ∉ l) : addT l s = l ++ [s] := by
  unfold addT; rw [if_neg]; intro hh; exact h (hasT_iff.1 hh)
theorem ded_base (e : Ev) : dedT (base3 e) = base3 e := by
  unfold dedT base3
  simp only [List.foldl_cons, List.foldl_nil]
  have h1 : addT [] (⟨kCreate, []⟩ : Slt) = [⟨kCreate, []⟩] := rfl
  have h2 : addT [(⟨kCreate, []⟩ : Slt)] ⟨kPower, []⟩ = [⟨kCreate, []⟩, ⟨kPower, []⟩] := by decide
  rw [h1, h2, addT_new (by simp)]
  rfl
theorem ded_app (l m : List Slt) : dedT (l ++ m) = m.foldl addT (dedT l) := by unfold dedT; rw [List.foldl_append]
theorem ded_putIf (c : Bool) (l : List Slt) (s : Slt) : dedT (putIf c l s) = addIf c (dedT l) s := by
  unfold putIf addIf
  cases c with
  | false => rfl
  | true => simp only [if_true]; rw [ded_app]; rfl
theorem needsR_eq (e : Ev) : needsR e = needs e := by
  unfold needsR needs
  simp only [ded_putIf, ded_base, ded_app, List.foldl_cons, List.foldl_nil]
theorem r_refNeeds (e : Ev) (hb : e.content.sz < big) : cR 6 [evE e] = some (.vsl ((needs e).map sltE) none) := by
  rw [← needsR_eq]; exact r_refNeedsR e hb
end Go.Ab
/- The document's: what is picked of a state. -/
namespace Go.Ab
set_option maxHeartbeats 1000000
def S17Fc := J @F9_7.eq_1 (J @F9_20.eq_1 (J @F9_21.eq_1 (@F9.eq_1)))
set_option maxRecDepth 100000
theorem r_refPick (l : List Ev) (e : Ev) (hb : e.content.sz < big) (hlen0 : l.length < big) :
    cR 9 [.vsl (l.map evE) none, evE e] = some (.vsl ((pickF l (needs e)).map .str) none) := by
  have h6 := r_refNeeds e hb
  have hn7 := needs_len e
  refine cR_of (F := F9) rfl ?_
  generalize needs e = ns at h6 hn7 ⊢
  simp only [F9_7, F9_20, F9, ex_loop, EXA, Nat.reduceEqDiff, reduceIte, reduceCtorEq, Nat.reduceAdd, Nat.reduceLeDiff, Nat.reduceSub, Nat.reduceMul, Int.reduceEq, Int.reduceBEq, Int.reduceBNe, Int.reduceLT, Int.reduceLE, Nat.reduceLT, VX, readAt_some, h6]
  refine ex_whileI (S := Nat × List Bs × AV) (fun p => [(0, .vsl (l.map evE) none), (5, p.2.2), (6, .vsl (ns.map sltE) none), (7, .int .i64 (p.1 : Int))]) (fun p => ns.length - p.1)
    (fun p σ => Gr LStr σ p.2.2 p.2.1 ∧ p.2.1.length ≤ p.1 ∧ p.2.1 ++ pickF l (ns.drop p.1) = pickF l ns) ?_ (0, [], .nils) _ ⟨Gr.nil LStr _, by simp, rfl⟩
  rintro b ⟨j, acc, v⟩ σ ⟨hg, hlen, hj⟩ ih
  simp only at hg hlen hj ih ⊢
  by_cases hlt : j < ns.length
  · obtain ⟨x, hx⟩ := get_lt hlt
    have hidx := idx_slt (c := none) hx
    have hcond := dlt hlt
    have hr := r_In l x.type x.key hlen0
    rw [show (⟨x.type, x.key⟩ : Slt) = x from rfl] at hr
    rw [drop_cons hx, pickF_cons] at hj
    have hw := wsucc hlt (by omega)
    have hn := hg.newset
    cases hf : l.find? (isAt x) with
    | none =>
      rw [ofE_none hf] at hr
      simp only [hf] at hj
      simp only [S17Fc, EXA, Nat.reduceEqDiff, reduceIte, reduceCtorEq, Nat.reduceAdd, Nat.reduceLeDiff, Nat.reduceSub, Nat.reduceMul, Int.reduceEq, Int.reduceBEq, Int.reduceBNe, Int.reduceLT, Int.reduceLE, Nat.reduceLT, VX, readAt_some, hcond, hidx, hr, hw]
      exact ih (j + 1, acc, v) _ _ (by simp; omega) ⟨hn _ _, by simp; omega, hj⟩ (by simp only [EXA, Nat.reduceEqDiff, reduceIte, reduceCtorEq, Nat.reduceAdd, Nat.reduceLeDiff, Nat.reduceSub, Nat.reduceMul, Int.reduceEq, Int.reduceBEq, Int.reduceBNe, Int.reduceLT, Int.reduceLE, Nat.reduceLT])
    | some y =>
      rw [ofE_some hf] at hr
      simp only [hf] at hj
      have happ : ∀ a b, appendTo _ 1 16 v [.str y.id] 1 = some _ := fun a b => (hn a b).push (a := y.id) (bytes := 16) (by omega) (by unfold maxBytes; omega)
      have hlo : lenOf (.vsl [.str y.id] (some 1)) = some 1 := rfl
      have hro : ∀ σ', rowOf σ' 1 (.vsl [.str y.id] (some 1)) = some [.str y.id] := fun _ => rfl
      simp only [S17Fc, EXA, Nat.reduceEqDiff, reduceIte, reduceCtorEq, Nat.reduceAdd, Nat.reduceLeDiff, Nat.reduceSub, Nat.reduceMul, Int.reduceEq, Int.reduceBEq, Int.reduceBNe, Int.reduceLT, Int.reduceLE, Nat.reduceLT, VX, readAt_some, hcond, hidx, hr, happ, hlo, hro, hw]
      exact ih (j + 1, acc ++ [y.id], _) _ _ (by simp; omega) ⟨Gr.own ((hn _ _).next (by simp)), by simp; omega, by simpa using hj⟩ (by simp only [EXA, Nat.reduceEqDiff, reduceIte, reduceCtorEq, Nat.reduceAdd, Nat.reduceLeDiff, Nat.reduceSub, Nat.reduceMul, Int.reduceEq, Int.reduceBEq, Int.reduceBNe, Int.reduceLT, Int.reduceLE, Nat.reduceLT]; rfl)
  · have hcond := dge (Nat.not_lt.1 hlt)
    rw [List.drop_eq_nil_of_le (by omega)] at hj
    have hj2 : acc = pickF l ns := by simpa [pickF] using hj
    have hrb := hg.rbE
    simp only [S17Fc, EXA, Nat.reduceEqDiff, reduceIte, reduceCtorEq, Nat.reduceAdd, Nat.reduceLeDiff, Nat.reduceSub, Nat.reduceMul, Int.reduceEq, Int.reduceBEq, Int.reduceBNe, Int.reduceLT, Int.reduceLE, Nat.reduceLT, VX, hcond, hrb, hj2]
    rfl
end Go.Ab
/- PickSays: true of any state and any event. -/
namespace Go.Ab
set_option maxHeartbeats 1000000
set_option maxRecDepth 100000
theorem evE_eta0 (e : Ev) : evE ⟨e.v, e.id, e.room, e.type, e.sender, e.key, e.isState, e.ts, e.depth, e.prev, e.auth, e.content⟩ = evE e := rfl
end Go.Ab
