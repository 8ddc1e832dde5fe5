/- What functions of the program, and of the library, answer. Conditions: none. -/
import Derived.Test.YtgckcnggblomgaaGreatDoorLaw7
import Derived.Test.YtgckcnggblomgaaGreatDoorLaw6
import Derived.Test.YtgckcnggblomgaaGreatDoorLaw5
import Derived.Test.YtgckcnggblomgaaGreatDoorLaw4
set_option linter.unusedVariables false
set_option linter.unusedSimpArgs false
set_option linter.defProp false
/- Lists of names of events, of the program and of the document. -/
namespace Go.Ab
set_option maxHeartbeats 1000000
def W6Fc := J @F137_4.eq_1 (J @F137_24.eq_1 (J @F137_25.eq_1 (J @F137_31.eq_1 (@F137.eq_1))))
def W6Fe := J @F151_13.eq_1 (J @F151_27.eq_1 (J @F151_28.eq_1 (@F151.eq_1)))
def W6Ff := J @F151_13.eq_1 (J @F151_27.eq_1 (@F151.eq_1))
set_option maxRecDepth 100000
/-- A list of one's own beside block 0. -/
structure Ids (G : List AV) (σ : Store) (v : AV) (acc : List Bs) : Prop where
  gr : Gr LStr σ v acc
  zero : look σ.m 0 = some (.own G)
  pos : 0 < σ.next
  far : ∀ o len sz c, v ≠ .sl 0 o len sz c
theorem Ids.newset {G : List AV} {σ : Store} {v : AV} {acc : List Bs} (h : Ids G σ v acc) (cs cs' : List AV) : Ids G { next := σ.next + 1, m := (σ.next, .own cs) :: (σ.next, .own cs') :: σ.m } v acc where
  gr := h.gr.newset cs cs'
  zero := by
    rw [← h.zero]
    have := h.pos
    simp only [look]; rw [if_neg (by omega), if_neg (by omega)]
  pos := by simp
  far := h.far
theorem Ids.app {G : List AV} {σ : Store} {v : AV} {acc : List Bs} (h : Ids G σ v acc) (x : Bs) : Ids G (grNext LStr σ v acc [x]) (.sl σ.next 0 (acc ++ [x]).length LStr.sz none) (acc ++ [x]) where
  gr := Gr.own (h.gr.next (by simp))
  zero := (grNext_get h.gr h.pos (fun len sz c => h.far _ len sz c)).trans h.zero
  pos := by rw [grNext_next]; omega
  far := fun o len sz c he => by simp only [AV.sl.injEq] at he; have := h.pos; omega
theorem rbE_tupB {σ : Store} {v : AV} {l : List Bs} (h : Gr LStr σ v l) (b : Bool) : rbE σ (.tup [v, .bool b]) = some (.tup [.vsl (l.map .str) none, .bool b]) := by
  have := RbL.tup (RbL.gr (d := 22) h (RbL.clo (x := .bool b) rfl (RbL.nil _ _)))
  simp only [AV.er] at this
  exact this
def okId (x : V) (acc : List Bs) : Bool := x.kind == 3 && (evId x.s && !hasS acc x.s)
def idsF : List V → List Bs → Option (List Bs)
  | [], acc => some acc
  | x :: l, acc => if okId x acc = true then idsF l (acc ++ [x.s]) else none
def eventsV (v : V) (k : Bs) (max : Int) : List Bs × Bool := match idsF (getV v k).1.l [] with
  | none => ([], false)
  | some ids => (ids, ((getV v k).1.kind == 4 && decide (1 ≤ ids.length)) && decide ((ids.length : Int) ≤ max))
def idsV (g : V × Bool) (max : Int) : List Bs × Bool := if g.2 = true ∧ g.1.kind = 4 ∧ (g.1.l.length : Int) ≤ max then (match idsF g.1.l [] with | none => ([], false) | some ids => (ids, true)) else ([], false)
theorem r_events (v : V) (k : Bs) (max : Int) (hb : v.sz < lim) : cR 137 [v.enc, .str k, .int .i64 max] = some (.tup [.vsl ((eventsV v k max).1.map .str) none, .bool (eventsV v k max).2]) := by
  unfold lim at hb
  have h1 := r_get v k (by unfold big; omega)
  have z1 := getV_sz v k
  unfold eventsV
  generalize getV v k = g at h1 z1 ⊢
  obtain ⟨g, b⟩ := g
  simp only at h1 z1 ⊢
  have zl := l_len_sz g
  have zm : ∀ x ∈ g.l, x.sz ≤ g.sz := fun x hx => by have := szL_mem hx; have := g.sz_eq; omega
  obtain ⟨r, hr⟩ : ∃ r : List Bs × Bool, r = (match idsF g.l [] with | none => (([] : List Bs), false) | some ids => (ids, (g.kind == 4 && decide (1 ≤ ids.length)) && decide ((ids.length : Int) ≤ max))) := ⟨_, rfl⟩
  rw [← hr]
  refine cR_of (F := F137) rfl ?_
  simp only [F137_4, F137_24, F137_31, F137, ex_loop, EXA, Nat.reduceEqDiff, reduceIte, reduceCtorEq, Nat.reduceAdd, Nat.reduceLeDiff, Nat.reduceSub, Nat.reduceMul, Int.reduceEq, Int.reduceBEq, Int.reduceBNe, Int.reduceLT, Int.reduceLE, Nat.reduceLT, VX, readAt_some, h1]
  refine ex_whileI (S := Nat × List Bs × AV) (fun p => [(2, .int .i64 max), (8, .ptr 0 0), (10, p.2.2), (21, .vsl (g.l.map V.enc) none), (22, .int .i64 g.l.length), (23, .int .i64 (p.1 : Int))]) (fun p => g.l.length - p.1)
    (fun p σ => Ids [.int .i64 g.kind, .int .i64 g.n, .str g.s, .vsl (g.l.map V.enc) none, .vsl (g.m.map memE) none] σ p.2.2 p.2.1 ∧ p.2.1.length ≤ p.1 ∧ idsF (g.l.drop p.1) p.2.1 = idsF g.l []) ?_ (0, [], .nils) _ ⟨⟨Gr.nil LStr _, rfl, Nat.one_pos, by intro _ _ _ _ h; cases h⟩, by simp, rfl⟩
  rintro c ⟨j, acc, u⟩ σ ⟨hg, hlen, hj⟩ ih
  simp only at hg hlen hj ih ⊢
  by_cases hlt : j < g.l.length
  · obtain ⟨x, hx⟩ := get_lt hlt
    have hxm := List.mem_of_getElem? hx
    have zx := zm x hxm
    have hidx := idx_map (f := V.enc) (sz := 5) (c := none) hx (by simp [V.enc_cells])
    have hcond := dlt hlt
    have hw := wsucc hlt (by omega)
    have hn := hg.newset
    have hev := r_event x.s (by have := x.sz_eq; unfold lim; omega)
    rw [drop_cons hx, idsF] at hj
    have hb3 : (x.kind != 3) = !(x.kind == 3) := rfl
    cases h3 : x.kind == 3 with
    | false =>
      rw [h3] at hb3
      rw [if_neg (by simp [okId, h3])] at hj
      rw [← hj] at hr
      simp only [W6Fc, EXA, Nat.reduceEqDiff, reduceIte, reduceCtorEq, Nat.reduceAdd, Nat.reduceLeDiff, Nat.reduceSub, Nat.reduceMul, Int.reduceEq, Int.reduceBEq, Int.reduceBNe, Int.reduceLT, Int.reduceLE, Nat.reduceLT, VX, readAt_some, hcond, hidx, hb3, hr]
    | true =>
      rw [h3] at hb3
      cases he : evId x.s with
      | false =>
        rw [he] at hev
        rw [if_neg (by simp [okId, he])] at hj
        rw [← hj] at hr
        simp only [W6Fc, EXA, Nat.reduceEqDiff, reduceIte, reduceCtorEq, Nat.reduceAdd, Nat.reduceLeDiff, Nat.reduceSub, Nat.reduceMul, Int.reduceEq, Int.reduceBEq, Int.reduceBNe, Int.reduceLT, Int.reduceLE, Nat.reduceLT, VX, readAt_some, hcond, hidx, hb3, hev, hr]
      | true =>
        rw [he] at hev
        have hcall : ∀ cs cs', callP ipU gU false (.fn 45 [] []) [u, .str x.s] _ = some (.bool (hasS acc x.s), _) := fun cs cs' => (hn cs cs').gr.call1 rfl (by simp only [erL, AV.er]; exact r_containsS acc _ (by unfold big; omega)) rfl
        cases hh : hasS acc x.s with
        | true =>
          rw [hh] at hcall
          rw [if_neg (by simp [okId, hh])] at hj
          rw [← hj] at hr
          simp only [W6Fc, EXA, Nat.reduceEqDiff, reduceIte, reduceCtorEq, Nat.reduceAdd, Nat.reduceLeDiff, Nat.reduceSub, Nat.reduceMul, Int.reduceEq, Int.reduceBEq, Int.reduceBNe, Int.reduceLT, Int.reduceLE, Nat.reduceLT, VX, readAt_some, hcond, hidx, hb3, hev, hcall, hr]
        | false =>
          rw [hh] at hcall
          rw [if_pos (by simp [okId, h3, he, hh])] at hj
          have happ : ∀ cs cs', appendTo _ 1 16 u [.str x.s] 1 = some _ := fun cs cs' => (hn cs cs').gr.push (a := x.s) (bytes := 16) (by omega) (by unfold maxBytes; omega)
          have hlo : lenOf (.vsl [.str x.s] (some 1)) = some 1 := rfl
          have hro : ∀ σ', rowOf σ' 1 (.vsl [.str x.s] (some 1)) = some [.str x.s] := fun _ => rfl
          simp only [W6Fc, EXA, Nat.reduceEqDiff, reduceIte, reduceCtorEq, Nat.reduceAdd, Nat.reduceLeDiff, Nat.reduceSub, Nat.reduceMul, Int.reduceEq, Int.reduceBEq, Int.reduceBNe, Int.reduceLT, Int.reduceLE, Nat.reduceLT, VX, readAt_some, hcond, hidx, hb3, hev, hcall, happ, hlo, hro, hw]
          exact ih (j + 1, acc ++ [x.s], _) _ _ (by simp; omega) ⟨(hn _ _).app x.s, by simp; omega, hj⟩ (by simp only [EXA, Nat.reduceEqDiff, reduceIte, reduceCtorEq, Nat.reduceAdd, Nat.reduceLeDiff, Nat.reduceSub, Nat.reduceMul, Int.reduceEq, Int.reduceBEq, Int.reduceBNe, Int.reduceLT, Int.reduceLE, Nat.reduceLT])
  · have hcond := dge (Nat.not_lt.1 hlt)
    rw [List.drop_eq_nil_of_le (by omega), idsF] at hj
    rw [← hj] at hr
    simp only at hr
    have hz := hg.zero
    have hll := hg.gr.lenL
    have ht := rbE_tupB hg.gr
    have hd : decide ((acc.length : Int) ≥ 1) = decide (1 ≤ acc.length) := by rw [decide_eq_decide]; omega
    simp only [F137_4, F137_24, F137_25, F137_31, F137_32, F137, EXA, Nat.reduceEqDiff, reduceIte, reduceCtorEq, Nat.reduceAdd, Nat.reduceLeDiff, Nat.reduceSub, Nat.reduceMul, Int.reduceEq, Int.reduceBEq, Int.reduceBNe, Int.reduceLT, Int.reduceLE, Nat.reduceLT, VX, readAt_some, hcond, hz, hll, hd, ht, hr]
    cases g.kind == 4 <;> cases decide (1 ≤ acc.length) <;> rfl
theorem r_ids (v : V) (k : Bs) (max : Int) (hb : v.sz < lim) : cR 151 [v.enc, .str k, .int .i64 max] = some (.tup [.vsl ((idsV (getR v k) max).1.map .str) none, .bool (idsV (getR v k) max).2]) := by
  unfold lim at hb
  have h1 := r_refGet v k (by unfold big; omega)
  have z1 := getR_sz v k
  generalize getR v k = g at h1 z1 ⊢
  obtain ⟨g, b⟩ := g
  simp only at h1 z1 ⊢
  have zl := l_len_sz g
  have zm : ∀ x ∈ g.l, x.sz ≤ g.sz := fun x hx => by have := szL_mem hx; have := g.sz_eq; omega
  obtain ⟨r, hr⟩ : ∃ r : List Bs × Bool, r = idsV (g, b) max := ⟨_, rfl⟩
  rw [← hr]
  unfold idsV at hr
  simp only at hr
  refine cR_of (F := F151) rfl ?_
  have hb4 : (g.kind != 4) = !(g.kind == 4) := rfl
  cases b with
  | false =>
    rw [if_neg (by simp)] at hr
    simp only [W6Ff, ex_loop, EXA, Nat.reduceEqDiff, reduceIte, reduceCtorEq, Nat.reduceAdd, Nat.reduceLeDiff, Nat.reduceSub, Nat.reduceMul, Int.reduceEq, Int.reduceBEq, Int.reduceBNe, Int.reduceLT, Int.reduceLE, Nat.reduceLT, VX, readAt_some, h1, hr]
  | true =>
    cases h4 : g.kind == 4 with
    | false =>
      rw [h4] at hb4
      have h4' : g.kind ≠ 4 := by simpa using h4
      rw [if_neg (by simp [h4'])] at hr
      simp only [W6Ff, ex_loop, EXA, Nat.reduceEqDiff, reduceIte, reduceCtorEq, Nat.reduceAdd, Nat.reduceLeDiff, Nat.reduceSub, Nat.reduceMul, Int.reduceEq, Int.reduceBEq, Int.reduceBNe, Int.reduceLT, Int.reduceLE, Nat.reduceLT, VX, readAt_some, h1, hb4, hr]
    | true =>
      rw [h4] at hb4
      have h4' : g.kind = 4 := by simpa using h4
      by_cases hm : (g.l.length : Int) ≤ max
      · rw [if_pos ⟨rfl, h4', hm⟩] at hr
        have hgm : decide ((g.l.length : Int) > max) = false := by simp; omega
        simp only [W6Ff, ex_loop, EXA, Nat.reduceEqDiff, reduceIte, reduceCtorEq, Nat.reduceAdd, Nat.reduceLeDiff, Nat.reduceSub, Nat.reduceMul, Int.reduceEq, Int.reduceBEq, Int.reduceBNe, Int.reduceLT, Int.reduceLE, Nat.reduceLT, VX, readAt_some, h1, hb4, hgm]
        refine ex_whileI (S := Nat × List Bs × AV) (fun p => [(8, .ptr 0 0), (10, p.2.2), (11, .int .i64 (p.1 : Int))]) (fun p => g.l.length - p.1)
          (fun p σ => Ids [.int .i64 g.kind, .int .i64 g.n, .str g.s, .vsl (g.l.map V.enc) none, .vsl (g.m.map memE) none] σ p.2.2 p.2.1 ∧ p.2.1.length ≤ p.1 ∧ idsF (g.l.drop p.1) p.2.1 = idsF g.l []) ?_ (0, [], .nils) _ ⟨⟨Gr.nil LStr _, rfl, Nat.one_pos, by intro _ _ _ _ h; cases h⟩, by simp, rfl⟩
        rintro c ⟨j, acc, u⟩ σ ⟨hg, hlen, hj⟩ ih
        simp only at hg hlen hj ih ⊢
        have hz := hg.zero
        by_cases hlt : j < g.l.length
        · obtain ⟨x, hx⟩ := get_lt hlt
          have hxm := List.mem_of_getElem? hx
          have zx := zm x hxm
          have hidx := idx_map (f := V.enc) (sz := 5) (c := none) hx (by simp [V.enc_cells])
          have hcond := dlt hlt
          have hw := wsucc hlt (by omega)
          have hev := r_EventID x.s
          rw [drop_cons hx, idsF] at hj
          have hb3 : (x.kind != 3) = !(x.kind == 3) := rfl
          cases h3 : x.kind == 3 with
          | false =>
            rw [h3] at hb3
            rw [if_neg (by simp [okId, h3])] at hj
            rw [← hj] at hr
            simp only [W6Fe, EXA, Nat.reduceEqDiff, reduceIte, reduceCtorEq, Nat.reduceAdd, Nat.reduceLeDiff, Nat.reduceSub, Nat.reduceMul, Int.reduceEq, Int.reduceBEq, Int.reduceBNe, Int.reduceLT, Int.reduceLE, Nat.reduceLT, VX, readAt_some, hcond, hz, hidx, hb3, hr]
          | true =>
            rw [h3] at hb3
            cases he : evId x.s with
            | false =>
              rw [he] at hev
              rw [if_neg (by simp [okId, he])] at hj
              rw [← hj] at hr
              simp only [W6Fe, EXA, Nat.reduceEqDiff, reduceIte, reduceCtorEq, Nat.reduceAdd, Nat.reduceLeDiff, Nat.reduceSub, Nat.reduceMul, Int.reduceEq, Int.reduceBEq, Int.reduceBNe, Int.reduceLT, Int.reduceLE, Nat.reduceLT, VX, readAt_some, hcond, hz, hidx, hb3, hev, hr]
            | true =>
              rw [he] at hev
              have hcall : callP ipU gU false (.fn 147 [] []) [u, .str x.s] σ = some (.bool (hasS acc x.s), σ) := hg.gr.call1 rfl (by simp only [erL, AV.er]; exact r_Has acc _ (by unfold big; omega)) rfl
              cases hh : hasS acc x.s with
              | true =>
                rw [hh] at hcall
                rw [if_neg (by simp [okId, hh])] at hj
                rw [← hj] at hr
                simp only [W6Fe, EXA, Nat.reduceEqDiff, reduceIte, reduceCtorEq, Nat.reduceAdd, Nat.reduceLeDiff, Nat.reduceSub, Nat.reduceMul, Int.reduceEq, Int.reduceBEq, Int.reduceBNe, Int.reduceLT, Int.reduceLE, Nat.reduceLT, VX, readAt_some, hcond, hz, hidx, hb3, hev, hcall, hr]
              | false =>
                rw [hh] at hcall
                rw [if_pos (by simp [okId, h3, he, hh])] at hj
                have happ : appendTo σ 1 16 u [.str x.s] 1 = some _ := hg.gr.push (a := x.s) (bytes := 16) (by omega) (by unfold maxBytes; omega)
                have hlo : lenOf (.vsl [.str x.s] (some 1)) = some 1 := rfl
                have hro : ∀ σ', rowOf σ' 1 (.vsl [.str x.s] (some 1)) = some [.str x.s] := fun _ => rfl
                simp only [W6Fe, EXA, Nat.reduceEqDiff, reduceIte, reduceCtorEq, Nat.reduceAdd, Nat.reduceLeDiff, Nat.reduceSub, Nat.reduceMul, Int.reduceEq, Int.reduceBEq, Int.reduceBNe, Int.reduceLT, Int.reduceLE, Nat.reduceLT, VX, readAt_some, hcond, hz, hidx, hb3, hev, hcall, happ, hlo, hro, hw]
                exact ih (j + 1, acc ++ [x.s], _) _ _ (by simp; omega) ⟨hg.app x.s, by simp; omega, hj⟩ (by simp only [EXA, Nat.reduceEqDiff, reduceIte, reduceCtorEq, Nat.reduceAdd, Nat.reduceLeDiff, Nat.reduceSub, Nat.reduceMul, Int.reduceEq, Int.reduceBEq, Int.reduceBNe, Int.reduceLT, Int.reduceLE, Nat.reduceLT])
        · have hcond := dge (Nat.not_lt.1 hlt)
          rw [List.drop_eq_nil_of_le (by omega), idsF] at hj
          rw [← hj] at hr
          simp only at hr
          have ht := rbE_tupB hg.gr
          simp only [W6Fe, EXA, Nat.reduceEqDiff, reduceIte, reduceCtorEq, Nat.reduceAdd, Nat.reduceLeDiff, Nat.reduceSub, Nat.reduceMul, Int.reduceEq, Int.reduceBEq, Int.reduceBNe, Int.reduceLT, Int.reduceLE, Nat.reduceLT, VX, readAt_some, hcond, hz, ht, hr]
      · rw [if_neg (by simp [hm])] at hr
        have hgm : decide ((g.l.length : Int) > max) = true := by simp; omega
        simp only [W6Ff, ex_loop, EXA, Nat.reduceEqDiff, reduceIte, reduceCtorEq, Nat.reduceAdd, Nat.reduceLeDiff, Nat.reduceSub, Nat.reduceMul, Int.reduceEq, Int.reduceBEq, Int.reduceBNe, Int.reduceLT, Int.reduceLE, Nat.reduceLT, VX, readAt_some, h1, hb4, hgm, hr]
theorem r_IDs (v : V) (k : Bs) (max : Int) (hb : v.sz < lim) : cR 139 [v.enc, .str k, .int .i64 max] = some (.tup [.vsl ((idsV (getR v k) max).1.map .str) none, .bool (idsV (getR v k) max).2]) := by
  have h := r_ids v k max hb
  refine cR_of (F := F139) rfl ?_
  simp only [F139, EXA, Nat.reduceEqDiff, reduceIte, reduceCtorEq, Nat.reduceAdd, Nat.reduceLeDiff, Nat.reduceSub, Nat.reduceMul, Int.reduceEq, Int.reduceBEq, Int.reduceBNe, Int.reduceLT, Int.reduceLE, Nat.reduceLT, VX, readAt_some, h]
end Go.Ab
/- An event's parts as a value, of the program and of the document. -/
namespace Go.Ab
set_option maxHeartbeats 1000000
set_option maxRecDepth 100000
abbrev kT : Bs := [116, 121, 112, 101]
abbrev kRoom : Bs := [114, 111, 111, 109, 95, 105, 100]
abbrev kSender : Bs := [115, 101, 110, 100, 101, 114]
abbrev kDepth : Bs := [100, 101, 112, 116, 104]
abbrev kPrev : Bs := [112, 114, 101, 118, 95, 101, 118, 101, 110, 116, 115]
abbrev kAuth : Bs := [97, 117, 116, 104, 95, 101, 118, 101, 110, 116, 115]
abbrev kContent : Bs := [99, 111, 110, 116, 101, 110, 116]
abbrev kStateKey : Bs := [115, 116, 97, 116, 101, 95, 107, 101, 121]
section
variable (e : Ev)
end
end Go.Ab
/- value.Set. -/
namespace Go.Ab
set_option maxHeartbeats 1000000
set_option maxRecDepth 100000
theorem ex_arity {ip : Nat → Option IFunc} {G : Nat → List AV} {m : Nat} {c : ICode} {k : List Item} {fr : Fr} {σ : Store} {Q : Fr → Store → Prop} (h : fr.length = m) : Ex ip G (.code (.arity m c) :: k) fr σ Q ↔ Ex ip G (.code c :: k) fr σ Q :=
  ex_step fun n => by simp only [run, h, if_true]
/-- slices.Insert is one operation. -/
theorem c_insert {x y : AV} {i : Int} {σ : Store} {r : AV × Store} (h : insertTo σ 6 96 x i y = some r) : callS ipU gU (.fn 153 [] []) [x, .int .i64 i, y] σ = some r := by
  obtain ⟨v, σ'⟩ := r
  refine callS_of (F := F153) rfl (first := []) (caps := []) ?_
  simp only [F153, natF, List.nil_append, List.append_nil]
  rw [ex_arity (by rfl)]
  simp only [EXA, Nat.reduceEqDiff, reduceIte, reduceCtorEq, Nat.reduceAdd, Nat.reduceLeDiff, Nat.reduceSub, Nat.reduceMul, Int.reduceEq, Int.reduceBEq, Int.reduceBNe, Int.reduceLT, Int.reduceLE, Nat.reduceLT, h]
def zK (k : Bs) : List AV := [.str k, .int .i64 0, .int .i64 0, .str [], .nils, .nils]
theorem insC_len (l : List Mem) (i : Nat) (hi : i ≤ l.length) (k : Bs) : (LMem.cells (l.take i) ++ zK k ++ LMem.cells (l.drop i)).length = (l.length + 1) * 6 := by
  rw [List.length_append, List.length_append, LMem.cells_len, LMem.cells_len, List.length_take, List.length_drop]
  show min i l.length * 6 + 6 + (l.length - i) * 6 = _
  omega
/-- What an insertion leaves. -/
theorem ins_to (l : List Mem) (b c : Nat) (σ : Store) (i : Nat) (k : Bs) (hl : l.length < lim) (hi : i ≤ l.length) (hb : σ.get b = some (.own (LMem.cells l))) (hc : σ.get c = some (.own (zK k))) (hbc : b ≠ c) (hn : 0 < l.length) :
    insertTo σ 6 96 (.sl b 0 l.length 6 none) (i : Int) (.sl c 0 1 6 (some 1)) = some (.sl σ.next 0 (l.length + 1) 6 none, (σ.set b .dead).alloc (LMem.cells (l.take i) ++ zK k ++ LMem.cells (l.drop i))) := by
  unfold lim at hl
  have hob : σ.owned b = some (LMem.cells l) := by simp [Store.owned, hb]
  have hoc : σ.owned c = some (zK k) := by simp [Store.owned, hc]
  have hro : rowOf σ 6 (.sl c 0 1 6 (some 1)) = some (zK k) := by simp [rowOf, Store.cells, hc, zK]
  have hck := LMem.cells_len l
  have hsz : LMem.sz = 6 := rfl
  rw [hsz] at hck
  have hone := LMem.cells_one l
  have hz1 : (zK k).all AV.one = true := rfl
  unfold insertTo
  simp only [lenOf, hro]
  by_cases he : (i : Int) = (l.length : Int)
  · have he' : i = l.length := by omega
    subst he'
    rw [if_pos rfl, if_pos (by omega)]
    simp only [appendTo, lenOf, hob]
    rw [if_pos ⟨by omega, by omega, by unfold maxBytes; omega, rfl, hz1⟩]
    simp only [if_true]
    rw [if_neg (by omega), if_pos (by omega)]
    simp [Lay.cells]
  · rw [if_neg he]
    simp only [hob, hoc]
    rw [if_pos ⟨hbc, by trivial, by omega, by omega, by omega, by omega, by omega, by unfold maxBytes; omega, by omega, hone, hz1⟩]
    have e1 : (LMem.cells l).take (i * 6) = LMem.cells (l.take i) := by
      have : LMem.cells l = LMem.cells (l.take i) ++ LMem.cells (l.drop i) := by rw [← Lay.cells_append, List.take_append_drop]
      rw [this, ← take_cells l hi, List.take_left]
    have e2 : (LMem.cells l).drop (i * 6) = LMem.cells (l.drop i) := by
      have : LMem.cells l = LMem.cells (l.take i) ++ LMem.cells (l.drop i) := by rw [← Lay.cells_append, List.take_append_drop]
      rw [this, ← take_cells l hi, List.drop_left]
    simp only [List.drop_zero, Int.toNat_natCast, e1, e2]
theorem ins_to0 (c : Nat) (σ : Store) (k : Bs) (hc : σ.get c = some (.own (zK k))) :
    insertTo σ 6 96 (.vsl [] (some 0)) ((0 : Nat) : Int) (.sl c 0 1 6 (some 1)) = some (.sl σ.next 0 1 6 none, σ.alloc (zK k)) := by
  have hro : rowOf σ 6 (.sl c 0 1 6 (some 1)) = some (zK k) := by simp [rowOf, Store.cells, hc, zK]
  unfold insertTo
  simp only [lenOf, hro]
  simp [appendTo, lenOf, rowOf, zK, maxBytes, AV.one]
theorem splice_mid {α : Type} (pre : List α) (a : α) (A B post : List α) (h : A.length = B.length) : (pre ++ a :: (A ++ post)).take (pre.length + 1) ++ B ++ (pre ++ a :: (A ++ post)).drop (pre.length + 1 + B.length) = pre ++ a :: (B ++ post) := by
  have e1 : pre ++ a :: (A ++ post) = (pre ++ [a]) ++ (A ++ post) := by simp
  have e2 : pre ++ a :: (A ++ post) = ((pre ++ [a]) ++ A) ++ post := by simp
  have l1 : pre.length + 1 = (pre ++ [a]).length := by simp
  have l2 : pre.length + 1 + B.length = ((pre ++ [a]) ++ A).length := by simp [h]; omega
  have t1 : (pre ++ a :: (A ++ post)).take (pre.length + 1) = pre ++ [a] := by rw [e1, l1, List.take_left]
  have t2 : (pre ++ a :: (A ++ post)).drop (pre.length + 1 + B.length) = post := by rw [e2, l2, List.drop_left]
  rw [t1, t2]; simp
theorem splice_val (pre : List AV) (k : Bs) (x : V) (post : List AV) : splice (pre ++ zK k ++ post) (pre.length + 1) x.enc.cells = pre ++ (memE (k, x)).cells ++ post := by
  rw [V.enc_cells, memE_cells]
  have := splice_mid pre (AV.str k) [.int .i64 0, .int .i64 0, .str [], .nils, .nils] [.int .i64 x.kind, .int .i64 x.n, .str x.s, .vsl (x.l.map V.enc) none, .vsl (x.m.map memE) none] post rfl
  unfold splice zK
  simpa using this
theorem splice_valM (pre : List AV) (y : Mem) (x : V) (post : List AV) : splice (pre ++ (memE y).cells ++ post) (pre.length + 1) x.enc.cells = pre ++ (memE (y.1, x)).cells ++ post := by
  rw [V.enc_cells, memE_cells, memE_cells]
  have := splice_mid pre (AV.str y.1) [.int .i64 y.2.kind, .int .i64 y.2.n, .str y.2.s, .vsl (y.2.l.map V.enc) none, .vsl (y.2.m.map memE) none] [.int .i64 x.kind, .int .i64 x.n, .str x.s, .vsl (x.l.map V.enc) none, .vsl (x.m.map memE) none] post rfl
  unfold splice
  simpa using this
end Go.Ab
/- value.Set, whole; what a member says. -/
namespace Go.Ab
set_option maxHeartbeats 1000000
def U10Fa := @F142.eq_1
set_option maxRecDepth 100000
theorem bsF_le (m : List Mem) (k : Bs) : ∀ (n i j : Nat), j - i ≤ n → i ≤ j → bsF m k i j ≤ j
  | 0, i, j, h, hij => by rw [bsF, if_neg (by omega)]; exact hij
  | n + 1, i, j, h, hij => by
    rw [bsF]
    by_cases hlt : i < j
    · rw [if_pos hlt]
      split
      · exact bsF_le m k n _ _ (by omega) (by omega)
      · exact Nat.le_trans (bsF_le m k n _ _ (by omega) (by omega)) (by omega)
    · rw [if_neg hlt]; exact hij
theorem placeV_le (v : V) (k : Bs) : (placeV v k).1 ≤ v.m.length := by
  unfold placeV
  split
  · exact bsF_le v.m k _ 0 _ (Nat.le_refl _) (by omega)
  · simp
theorem placeV_lt {v : V} {k : Bs} (h : (placeV v k).2 = true) : (placeV v k).1 < v.m.length := by
  unfold placeV at h ⊢
  split
  · rename_i h5
    rw [if_pos h5] at h
    simp at h
    exact h.1
  · rename_i h5
    rw [if_neg h5] at h
    cases h
def setM (m : List Mem) (i : Nat) (ok : Bool) (k : Bs) (x : V) : List Mem := if ok then (match m[i]? with | some y => m.set i (y.1, x) | none => m) else m.take i ++ (k, x) :: m.drop i
def setV (v : V) (k : Bs) (x : V) : V := if v.kind = 5 then V.mk v.kind v.n v.s v.l (setM v.m (placeV v k).1 (placeV v k).2 k x) else v
abbrev vCs (v : V) : List AV := [.int .i64 v.kind, .int .i64 v.n, .str v.s, .vsl (v.l.map V.enc) none, .vsl (v.m.map memE) none]
/-- A value whose members lie in a block of one's own, read out. -/
theorem rbE_own {σ : Store} (v : V) {b : Nat} {l : List Mem} (h : look σ.m b = some (.own (LMem.cells l))) : rbE σ (.agg [.int .i64 v.kind, .int .i64 v.n, .str v.s, .vsl (v.l.map V.enc) none, .sl b 0 l.length 6 none]) = some (V.mk v.kind v.n v.s v.l l).enc := by
  have hcl : (AV.vsl (v.l.map V.enc) none).closed = true := by simp only [AV.closed, closedL_mapV]
  have hce : (AV.vsl (v.l.map V.enc) none).er = .vsl (v.l.map V.enc) none := by simp only [AV.er, erL_mapV]
  have hb := RbL.agg (σ := σ) (RbL.clo (x := .int .i64 v.kind) rfl (RbL.clo (x := .int .i64 v.n) rfl (RbL.clo (x := .str v.s) rfl (RbL.clo (x := .vsl (v.l.map V.enc) none) hcl (RbL.rp (L := LMem) (l := l) (v := .sl b 0 l.length 6 none) (.inr ⟨b, [], rfl, by rw [List.append_nil]; exact h⟩) (RbL.nil σ 23))))))
  simp only [er_int, er_str, hce] at hb
  rw [V.enc_eq]
  exact hb
theorem rbE_ownN {σ : Store} (v : V) {b n : Nat} {l : List Mem} (hn : l.length = n) (h : look σ.m b = some (.own (LMem.cells l))) : rbE σ (.agg [.int .i64 v.kind, .int .i64 v.n, .str v.s, .vsl (v.l.map V.enc) none, .sl b 0 n 6 none]) = some (V.mk v.kind v.n v.s v.l l).enc := by
  subst hn; exact rbE_own v h
theorem r_Set (v : V) (k : Bs) (x : V) (hlen : v.m.length < lim) : cR 142 [v.enc, .str k, x.enc] = some (setV v k x).enc := by
  have hlen' := hlen
  unfold lim at hlen'
  have hp := r_place v k (by unfold big; omega)
  have hple := placeV_le v k
  have hplt := fun h => placeV_lt (v := v) (k := k) h
  refine cR_of (F := F142) rfl ?_
  obtain ⟨r, hr⟩ : ∃ r, r = (setV v k x).enc := ⟨_, rfl⟩
  rw [← hr]
  unfold setV at hr
  cases h5 : v.kind != 5 with
  | true =>
    have hk5 : v.kind ≠ 5 := by simpa using h5
    rw [if_neg hk5] at hr
    simp only [U10Fa, EXA, Nat.reduceEqDiff, reduceIte, reduceCtorEq, Nat.reduceAdd, Nat.reduceLeDiff, Nat.reduceSub, Nat.reduceMul, Int.reduceEq, Int.reduceBEq, Int.reduceBNe, Int.reduceLT, Int.reduceLE, Nat.reduceLT, VX, readAt_some, h5, hr]
  | false =>
    have hk5 : v.kind = 5 := by simpa using h5
    rw [if_pos hk5] at hr
    generalize placeV v k = pl at hp hple hplt hr
    obtain ⟨i, ok⟩ := pl
    simp only at hp hple hplt hr
    cases hm : v.m with
    | nil =>
      have hi : i = 0 := by rw [hm] at hple; simpa using hple
      subst hi
      have hok : ok = false := by
        cases ok with
        | false => rfl
        | true => have := hplt rfl; rw [hm] at this; simp at this
      subst hok
      have c1 : callM ipU gU .split (.fn 38 [] []) [.vsl (v.m.map memE) none] ⟨2, [(1, .own [.int .i64 0, .int .i64 0, .str [], .nils, .nils]), (0, .own (vCs v))]⟩ = some (.vsl [] (some 0), ⟨2, [(1, .own [.int .i64 0, .int .i64 0, .str [], .nils, .nils]), (0, .own (vCs v))]⟩) := by
        have := c_cloneM0 none ⟨2, [(1, .own [.int .i64 0, .int .i64 0, .str [], .nils, .nils]), (0, .own (vCs v))]⟩
        rw [hm]; exact this
      have c2 := c_insert (ins_to0 2 ⟨3, [(2, .own (zK k)), (0, .own [.int .i64 v.kind, .int .i64 v.n, .str v.s, .vsl (v.l.map V.enc) none, .vsl [] (some 0)]), (1, .own [.int .i64 0, .int .i64 0, .str [], .nils, .nils]), (0, .own (vCs v))]⟩ k rfl)
      simp only [Store.alloc, zK, vCs] at c1 c2
      have hspl := splice_val [] k x []
      have i0 := idx_sl (b := 3) (n := 1) (j := 0) (σ := .empty) (by omega)
      simp only [V.enc_cells, memE_cells, zK, splice, List.nil_append, List.append_nil, List.length_nil, List.length_cons, Nat.zero_add, Nat.reduceAdd] at hspl
      rw [hm] at hr
      simp only [setM, List.take_nil, List.drop_nil, List.nil_append, Bool.false_eq_true, if_false] at hr
      simp only [U10Fa, EXA, Nat.reduceEqDiff, reduceIte, reduceCtorEq, Nat.reduceAdd, Nat.reduceLeDiff, Nat.reduceSub, Nat.reduceMul, Int.reduceEq, Int.reduceBEq, Int.reduceBNe, Int.reduceLT, Int.reduceLE, Nat.reduceLT, VX, readAt_some, h5, hp, c1, c2, i0, hspl]
      rw [hr]
      exact rbE_own v (l := [(k, x)]) (by simp [look, Lay.cells, LMem, memE_cells])
    | cons y0 m0 =>
      have hn : 0 < v.m.length := by rw [hm]; simp
      have c1 : callM ipU gU .split (.fn 38 [] []) [.vsl (v.m.map memE) none] ⟨2, [(1, .own [.int .i64 0, .int .i64 0, .str [], .nils, .nils]), (0, .own (vCs v))]⟩ = some (.sl 2 0 v.m.length 6 none, ⟨3, [(2, .own (LMem.cells v.m)), (1, .own [.int .i64 0, .int .i64 0, .str [], .nils, .nils]), (0, .own (vCs v))]⟩) := by
        have := c_cloneM1 y0 m0 none ⟨2, [(1, .own [.int .i64 0, .int .i64 0, .str [], .nils, .nils]), (0, .own (vCs v))]⟩ (by rw [← hm]; exact hlen)
        rw [hm]; exact this
      simp only [vCs] at c1
      clear hm
      have hcl := LMem.cells_len v.m
      have hsz : LMem.sz = 6 := rfl
      rw [hsz] at hcl
      have hxl : x.enc.cells.length = 5 := by rw [V.enc_cells]; rfl
      have hxo : x.enc.cells.all AV.one = true := LV.one x
      cases ok with
      | true =>
        have hlt := hplt rfl
        obtain ⟨y, hy⟩ := get_lt hlt
        simp only [setM, hy, if_true] at hr
        have i0 := idx_sl (b := 2) (n := v.m.length) (j := i) (σ := .empty) hlt
        have hspl : splice (LMem.cells v.m) (i * 6 + 1) x.enc.cells = LMem.cells (v.m.set i (y.1, x)) := by
          have e : v.m = v.m.take i ++ y :: v.m.drop (i + 1) := by rw [← drop_cons hy, List.take_append_drop]
          have e2 : v.m.set i (y.1, x) = v.m.take i ++ (y.1, x) :: v.m.drop (i + 1) := List.set_eq_take_append_cons_drop.trans (by rw [if_pos hlt])
          have h1 := take_cells v.m (j := i) (by omega)
          have := splice_valM (LMem.cells (v.m.take i)) y x (LMem.cells (v.m.drop (i + 1)))
          rw [h1] at this
          rw [e2, Lay.cells_append, Lay.cells_cons, ← List.append_assoc]
          have e3 : LMem.cells v.m = LMem.cells (v.m.take i) ++ (memE y).cells ++ LMem.cells (v.m.drop (i + 1)) := by
            rw [List.append_assoc]
            have : LMem.cells v.m = LMem.cells (v.m.take i ++ y :: v.m.drop (i + 1)) := by rw [← e]
            rw [this, Lay.cells_append, Lay.cells_cons]; rfl
          rw [e3]; exact this
        have hle : i * 6 + 1 + 5 ≤ (LMem.cells v.m).length := by rw [hcl]; omega
        generalize LMem.cells v.m = C at c1 hspl hle
        simp only [V.enc_cells, splice, List.length_nil, List.length_cons, Nat.zero_add, Nat.reduceAdd] at hspl hxo
        simp only [U10Fa, EXA, Nat.reduceEqDiff, reduceIte, reduceCtorEq, Nat.reduceAdd, Nat.reduceLeDiff, Nat.reduceSub, Nat.reduceMul, Int.reduceEq, Int.reduceBEq, Int.reduceBNe, Int.reduceLT, Int.reduceLE, Nat.reduceLT, VX, readAt_some, h5, hp, c1, i0, hspl, hle, hxo]
        rw [hr]
        exact rbE_ownN v List.length_set rfl
      | false =>
        simp only [setM, Bool.false_eq_true, if_false] at hr
        have c2 := c_insert (ins_to v.m 2 3 ⟨4, [(3, .own (zK k)), (0, .own [.int .i64 v.kind, .int .i64 v.n, .str v.s, .vsl (v.l.map V.enc) none, .sl 2 0 v.m.length 6 none]), (2, .own (LMem.cells v.m)), (1, .own [.int .i64 0, .int .i64 0, .str [], .nils, .nils]), (0, .own (vCs v))]⟩ i k hlen hple rfl rfl (by omega) hn)
        have i0 := idx_sl (b := 4) (n := v.m.length + 1) (j := i) (σ := .empty) (by omega)
        have hspl : splice (LMem.cells (v.m.take i) ++ zK k ++ LMem.cells (v.m.drop i)) (i * 6 + 1) x.enc.cells = LMem.cells (v.m.take i ++ (k, x) :: v.m.drop i) := by
          have := splice_val (LMem.cells (v.m.take i)) k x (LMem.cells (v.m.drop i))
          rw [take_cells v.m hple] at this
          rw [Lay.cells_append, Lay.cells_cons, ← List.append_assoc]
          exact this
        have hle : i * 6 + 1 + 5 ≤ (LMem.cells (v.m.take i) ++ zK k ++ LMem.cells (v.m.drop i)).length := by rw [insC_len v.m i hple k]; omega
        generalize LMem.cells (v.m.take i) ++ zK k ++ LMem.cells (v.m.drop i) = D at c2 hspl hle
        generalize LMem.cells v.m = C at c1 c2
        simp only [V.enc_cells, splice, List.length_nil, List.length_cons, Nat.zero_add, Nat.reduceAdd] at hspl hxo
        simp only [Store.alloc, Store.set, zK, vCs] at c2
        simp only [U10Fa, EXA, Nat.reduceEqDiff, reduceIte, reduceCtorEq, Nat.reduceAdd, Nat.reduceLeDiff, Nat.reduceSub, Nat.reduceMul, Int.reduceEq, Int.reduceBEq, Int.reduceBNe, Int.reduceLT, Int.reduceLE, Nat.reduceLT, VX, readAt_some, h5, hp, c1, c2, i0, hspl, hle, hxo]
        rw [hr]
        exact rbE_ownN v (by simp; omega) rfl
end Go.Ab
/- The document's: the slots that an event needs. -/
namespace Go.Ab
set_option maxHeartbeats 1000000
set_option maxRecDepth 100000
/-- A part of such a slice that is a struct, by its number. -/
theorem Gr.idxA {α : Type} {L : Lay α} {σ : Store} {v : AV} {l : List α} (h : Gr L σ v l) (hs : L.sz ≠ 1) {j : Nat} {a : α} (hj : l[j]? = some a) : ∃ p, idxOf L.sz none v (.int .i64 (j : Int)) = some p ∧ readPtr σ p (some L.sz) = some (L.f a) := by
  have hlt := lt_of_get hj
  have hag := L.agg a
  rw [if_neg hs] at hag
  obtain ⟨cs, hcs⟩ := hag
  have hl := L.len a
  rw [hcs] at hl
  simp only [AV.cells] at hl
  rcases h with ⟨rfl, rfl⟩ | ⟨b, rfl, h⟩ | rfl
  · simp at hj
  · refine ⟨.ptr b (j * L.sz), ?_, ?_⟩
    · have h2 : ((j : Int) < (l.length : Int)) := by omega
      simp [Go.Ab.idxOf, h2]
    · have h1 := h.1
      have e : ∀ (l : List α) (j : Nat), l[j]? = some a → (L.cells l).drop (j * L.sz) = cs ++ L.cells (l.drop (j + 1)) := by
        intro l
        induction l with
        | nil => intro j hj; simp at hj
        | cons x l ih =>
          intro j hj
          have hx := L.len x
          have e1 : L.cells (x :: l) = (L.f x).cells ++ L.cells l := by simp [Lay.cells]
          cases j with
          | zero =>
            simp only [List.getElem?_cons_zero, Option.some.injEq] at hj
            subst hj
            rw [e1, hcs, Nat.zero_mul]; rfl
          | succ j =>
            simp only [List.getElem?_cons_succ] at hj
            rw [e1, List.drop_append, hx]
            have e2 : (j + 1) * L.sz - L.sz = j * L.sz := by rw [Nat.add_mul]; omega
            have e3 : (L.f x).cells.drop ((j + 1) * L.sz) = [] := List.drop_eq_nil_of_le (by rw [hx, Nat.add_mul]; omega)
            rw [e2, e3, ih j hj]
            simp
      have h3 := e l j hj
      have h4 := L.cells_len l
      have h5 : j * L.sz + L.sz ≤ (L.cells l).length := by
        rw [h4]
        calc j * L.sz + L.sz = (j + 1) * L.sz := by rw [Nat.add_mul]; omega
          _ ≤ l.length * L.sz := Nat.mul_le_mul_right _ hlt
      simp only [readPtr, Store.cells, h1, readAt]
      rw [if_pos h5, h3, List.take_append_of_le_length (by omega), List.take_of_length_le (by omega), hcs]
  · refine ⟨.vptr (L.f a).cells 0, idx_map (f := L.f) hj (L.len a), ?_⟩
    simp only [readPtr, hcs, AV.cells, readAt]
    rw [if_pos (by omega), List.drop_zero, List.take_of_length_le (by omega)]
end Go.Ab
/- The document's: the slots that an event needs, as the program's. -/
namespace Go.Ab
set_option maxHeartbeats 1000000
set_option maxRecDepth 100000
end Go.Ab
/- The document's: what is picked of a state. -/
namespace Go.Ab
set_option maxHeartbeats 1000000
set_option maxRecDepth 100000
end Go.Ab
/- PickSays: true of any state and any event. -/
namespace Go.Ab
set_option maxHeartbeats 1000000
set_option maxRecDepth 100000
theorem evE_eta0 (e : Ev) : evE ⟨e.v, e.id, e.room, e.type, e.sender, e.key, e.isState, e.ts, e.depth, e.prev, e.auth, e.content⟩ = evE e := rfl
end Go.Ab
/- Drafts of members, of the program and of the document. -/
namespace Go.Ab
set_option maxHeartbeats 1000000
def U11Fc := @F126.eq_1
set_option maxRecDepth 100000
def contentP (to by_ : Bs) : V := if by_ = [] then mapOf [(kMembership, tV3 to)] else setV (mapOf [(kMembership, tV3 to)]) kAuthd (tV3 by_)
def contentL (to by_ : Bs) : List Mem := if by_ = [] then [(kMembership, tV3 to)] else [(kMembership, tV3 to), (kAuthd, tV3 by_)]
theorem map_one1 (k : Bs) (x : V) : mapOf [(k, x)] = V.mk 5 0 [] [] [(k, x)] := rfl
theorem place_mem (to : Bs) : placeV (V.mk 5 0 [] [] [(kMembership, tV3 to)]) kAuthd = (0, false) := by
  have hb : bsF [(kMembership, tV3 to)] kAuthd 0 1 = 0 := by
    rw [bsF, if_pos (by omega)]
    have : bytesLess (keyAt [(kMembership, tV3 to)] ((0 + 1) / 2)) kAuthd = false := by
      show bytesLess kMembership kAuthd = false
      decide
    rw [if_neg (by simp [this]), bsF, if_neg (by simp)]
  have hne : (kMembership == kAuthd) = false := by decide
  show (bsF [(kMembership, tV3 to)] kAuthd 0 1, decide (bsF [(kMembership, tV3 to)] kAuthd 0 1 < 1) && (keyAt [(kMembership, tV3 to)] (bsF [(kMembership, tV3 to)] kAuthd 0 1) == kAuthd)) = _
  rw [hb]
  show (0, true && (kMembership == kAuthd)) = _
  rw [hne]; rfl
theorem content_eq (to by_ : Bs) : contentP to by_ = V.mk 5 0 [] [] (refMapL (contentL to by_)) := by
  unfold contentP contentL
  by_cases h : by_ = []
  · rw [if_pos h, if_pos h]; rfl
  · rw [if_neg h, if_neg h, map_one1]
    unfold setV
    rw [if_pos (show (V.mk 5 0 [] [] [(kMembership, tV3 to)]).kind = 5 from rfl)]
    simp only [place_mem]
    have h1 : bytesLess kMembership kAuthd = false := by decide
    have h2 : (kMembership == kAuthd) = false := by decide
    show V.mk 5 0 [] [] (setM [(kMembership, tV3 to)] 0 false kAuthd (tV3 by_)) = V.mk 5 0 [] [] (insM (insM [] (kMembership, tV3 to)) (kAuthd, tV3 by_))
    have e1 : insM [] (kMembership, tV3 to) = [(kMembership, tV3 to)] := rfl
    rw [e1]
    have hp : posM [(kMembership, tV3 to)] kAuthd = 0 := by
      unfold posM
      rw [List.takeWhile_cons]
      simp [h1]
    have hh : hitM [(kMembership, tV3 to)] kAuthd = false := by
      unfold hitM
      rw [hp]
      exact h2
    unfold insM
    simp only [hp, hh]
    rfl
theorem r_content (to by_ : Bs) : cR 126 [.str to, .str by_] = some (contentP to by_).enc := by
  have h18 : ∀ s, cR 18 [.str s] = some (tV3 s).enc := r_Text
  have h20 := r_Map [(kMembership, tV3 to)] (by simp)
  have h142 := r_Set (mapOf [(kMembership, tV3 to)]) kAuthd (tV3 by_) (by rw [map_one1]; simp [V.m_mk, lim])
  obtain ⟨r, hr⟩ : ∃ r, r = (contentP to by_).enc := ⟨_, rfl⟩
  rw [← hr]
  unfold contentP at hr
  simp only [List.map_cons, List.map_nil] at h20
  generalize mapOf [(kMembership, tV3 to)] = M at h20 h142 hr
  refine cR_of (F := F126) rfl ?_
  cases hb : by_ == [] with
  | true =>
    have hb' : by_ = [] := by simpa using hb
    rw [if_pos hb'] at hr
    simp only [U11Fc, EXA, Nat.reduceEqDiff, reduceIte, reduceCtorEq, Nat.reduceAdd, Nat.reduceLeDiff, Nat.reduceSub, Nat.reduceMul, Int.reduceEq, Int.reduceBEq, Int.reduceBNe, Int.reduceLT, Int.reduceLE, Nat.reduceLT, VX, readAt_some, h18, h20, hb, hr]
  | false =>
    have hb' : by_ ≠ [] := by simpa using hb
    rw [if_neg hb'] at hr
    simp only [U11Fc, EXA, Nat.reduceEqDiff, reduceIte, reduceCtorEq, Nat.reduceAdd, Nat.reduceLeDiff, Nat.reduceSub, Nat.reduceMul, Int.reduceEq, Int.reduceBEq, Int.reduceBNe, Int.reduceLT, Int.reduceLE, Nat.reduceLT, VX, readAt_some, h18, h20, h142, hb, hr]
theorem contentP_sz (to by_ : Bs) : (contentP to by_).sz ≤ to.length + by_.length + 1000 := by
  rw [content_eq]
  unfold contentL
  by_cases h : by_ = []
  · rw [if_pos h]
    show (V.mk 5 0 [] [] [(kMembership, tV3 to)]).sz ≤ _
    simp only [V.sz, szL, szM, tV3, List.length_nil, List.length_cons]
    omega
  · rw [if_neg h]
    have h1 : bytesLess kMembership kAuthd = false := by decide
    have h2 : (kMembership == kAuthd) = false := by decide
    have hp : posM [(kMembership, tV3 to)] kAuthd = 0 := by
      unfold posM
      rw [List.takeWhile_cons]
      simp [h1]
    have hh : hitM [(kMembership, tV3 to)] kAuthd = false := by
      unfold hitM
      rw [hp]
      exact h2
    have e : refMapL [(kMembership, tV3 to), (kAuthd, tV3 by_)] = [(kAuthd, tV3 by_), (kMembership, tV3 to)] := by
      show insM (insM [] (kMembership, tV3 to)) (kAuthd, tV3 by_) = _
      have e1 : insM [] (kMembership, tV3 to) = [(kMembership, tV3 to)] := rfl
      rw [e1]
      unfold insM
      simp only [hp, hh]
      rfl
    rw [e]
    simp only [V.sz, szL, szM, tV3, List.length_nil, List.length_cons]
    omega
end Go.Ab
/- What is replied of a draft; TmplDrafts: true of any state and any names. -/
namespace Go.Ab
set_option maxHeartbeats 1000000
set_option maxRecDepth 100000
abbrev kEvent : Bs := [101, 118, 101, 110, 116]
abbrev kVersion : Bs := [114, 111, 111, 109, 95, 118, 101, 114, 115, 105, 111, 110]
abbrev sTen : Bs := [49, 48]
/- How great they are. -/
end Go.Ab
/- tmpl.Take. -/
namespace Go.Ab
set_option maxHeartbeats 1000000
def W7Fa := J @F121_23.eq_1 (J @F121_26.eq_1 (J @F121_28.eq_1 (J @F121_31.eq_1 (J @F121_32.eq_1 (@F121.eq_1)))))
set_option maxRecDepth 100000
def evT (room user : Bs) (d : Int) (p a : List Bs) (c : V) : Ev := ⟨V.zero, [], room, kMember, user, user, true, 0, d, p, a, c⟩
abbrev z20 : List AV := [.int .i64 0, .int .i64 0, .str [], .nils, .nils, .str [], .str [], .str [], .str [], .str [], .bool false, .int .i64 0, .int .i64 0, .nils, .nils, .int .i64 0, .int .i64 0, .str [], .nils, .nils]
theorem r_isC (e : V) (k x : Bs) (he : e.sz < big) : callR ipU gU (.fn 134 [e.enc] []) [.str k, .str x] = some (.bool (isV e k x)) := r_is e k x he
section
variable {room user to by_ : Bs} {p a' : List Bs} {d : Int} {e c' : V} {b15 b17 b19 b21 b23 b25 : Bool} {σ : Store} {i j : Nat} {c : ICode} {k : List Item} {Q : Fr → Store → Prop}
abbrev tkT (n : Nat) : List IOper := (opsOf F121_23).drop n
theorem tk1  : Ex ipU gU (.ops (opsOf F121_23) :: .code (.keep [1, 2, 3, 10, 18, 20, 22, 24, 135] c) :: k) [(1, .str room), (2, .str user), (3, .str to), (10, .ptr i 0), (15, .bool b15), (16, .ptr j 0), (17, .bool b17), (18, .str by_), (19, .bool b19), (20, .vsl (p.map .str) none), (21, .bool b21), (22, .vsl (a'.map .str) none), (23, .bool b23), (24, .int .i64 d), (25, .bool b25), (26, .fn 134 [e.enc] [])] σ Q ↔ Ex ipU gU (.ops (tkT 3) :: .code (.keep [1, 2, 3, 10, 18, 20, 22, 24, 135] c) :: k) [(1, .str room), (2, .str user), (3, .str to), (10, .ptr i 0), (16, .ptr j 0), (17, .bool b17), (18, .str by_), (19, .bool b19), (20, .vsl (p.map .str) none), (21, .bool b21), (22, .vsl (a'.map .str) none), (23, .bool b23), (24, .int .i64 d), (25, .bool b25), (26, .fn 134 [e.enc] []), (83, .bool (!b15))] σ Q := by
  rw [ex_cut 3]
  have hl : (liveIn [1, 2, 3, 10, 18, 20, 22, 24, 135] (tkT 3)).all (([1, 2, 3, 10, 16, 17, 18, 19, 20, 21, 22, 23, 24, 25, 26, 83] : List Nat).contains ·) = true := by kernel_rfl
  unfold tkT at hl ⊢
  generalize (opsOf F121_23).drop 3 = tl at hl ⊢
  simp only [opsOf, W7Fa, EXA, Nat.reduceEqDiff, reduceIte, reduceCtorEq, Nat.reduceAdd, Nat.reduceLeDiff, Nat.reduceSub, Nat.reduceMul, Int.reduceEq, Int.reduceBEq, Int.reduceBNe, Int.reduceLT, Int.reduceLE, Nat.reduceLT, VX, readAt_some]
  rw [ex_prune [1, 2, 3, 10, 16, 17, 18, 19, 20, 21, 22, 23, 24, 25, 26, 83] hl]
  simp only [EXA, Nat.reduceEqDiff, reduceIte, reduceCtorEq, Nat.reduceAdd, Nat.reduceLeDiff, Nat.reduceSub, Nat.reduceMul, Int.reduceEq, Int.reduceBEq, Int.reduceBNe, Int.reduceLT, Int.reduceLE, Nat.reduceLT]
theorem tk2  (a : Bool) : Ex ipU gU (.ops (tkT 3) :: .code (.keep [1, 2, 3, 10, 18, 20, 22, 24, 135] c) :: k) [(1, .str room), (2, .str user), (3, .str to), (10, .ptr i 0), (16, .ptr j 0), (17, .bool b17), (18, .str by_), (19, .bool b19), (20, .vsl (p.map .str) none), (21, .bool b21), (22, .vsl (a'.map .str) none), (23, .bool b23), (24, .int .i64 d), (25, .bool b25), (26, .fn 134 [e.enc] []), (83, .bool a)] σ Q ↔ Ex ipU gU (.ops (tkT 7) :: .code (.keep [1, 2, 3, 10, 18, 20, 22, 24, 135] c) :: k) [(1, .str room), (2, .str user), (3, .str to), (10, .ptr i 0), (16, .ptr j 0), (18, .str by_), (19, .bool b19), (20, .vsl (p.map .str) none), (21, .bool b21), (22, .vsl (a'.map .str) none), (23, .bool b23), (24, .int .i64 d), (25, .bool b25), (26, .fn 134 [e.enc] []), (87, .bool (a || !b17))] σ Q := by
  have hd : tkT 7 = (tkT 3).drop 4 := rfl
  rw [ex_cut 4, hd]
  have hl : (liveIn [1, 2, 3, 10, 18, 20, 22, 24, 135] ((tkT 3).drop 4)).all (([1, 2, 3, 10, 16, 18, 19, 20, 21, 22, 23, 24, 25, 26, 87] : List Nat).contains ·) = true := by kernel_rfl
  generalize (tkT 3).drop 4 = tl at hl ⊢
  cases a
  · simp only [tkT, opsOf, W7Fa, EXA, Nat.reduceEqDiff, reduceIte, reduceCtorEq, Nat.reduceAdd, Nat.reduceLeDiff, Nat.reduceSub, Nat.reduceMul, Int.reduceEq, Int.reduceBEq, Int.reduceBNe, Int.reduceLT, Int.reduceLE, Nat.reduceLT, VX, readAt_some, Bool.false_or]
    rw [ex_prune [1, 2, 3, 10, 16, 18, 19, 20, 21, 22, 23, 24, 25, 26, 87] hl]
    simp only [EXA, Nat.reduceEqDiff, reduceIte, reduceCtorEq, Nat.reduceAdd, Nat.reduceLeDiff, Nat.reduceSub, Nat.reduceMul, Int.reduceEq, Int.reduceBEq, Int.reduceBNe, Int.reduceLT, Int.reduceLE, Nat.reduceLT, Bool.false_or]
  · simp only [tkT, opsOf, W7Fa, EXA, Nat.reduceEqDiff, reduceIte, reduceCtorEq, Nat.reduceAdd, Nat.reduceLeDiff, Nat.reduceSub, Nat.reduceMul, Int.reduceEq, Int.reduceBEq, Int.reduceBNe, Int.reduceLT, Int.reduceLE, Nat.reduceLT, VX, readAt_some, Bool.true_or]
    rw [ex_prune [1, 2, 3, 10, 16, 18, 19, 20, 21, 22, 23, 24, 25, 26, 87] hl]
    simp only [EXA, Nat.reduceEqDiff, reduceIte, reduceCtorEq, Nat.reduceAdd, Nat.reduceLeDiff, Nat.reduceSub, Nat.reduceMul, Int.reduceEq, Int.reduceBEq, Int.reduceBNe, Int.reduceLT, Int.reduceLE, Nat.reduceLT, Bool.true_or]
theorem tk3  (a : Bool) : Ex ipU gU (.ops (tkT 7) :: .code (.keep [1, 2, 3, 10, 18, 20, 22, 24, 135] c) :: k) [(1, .str room), (2, .str user), (3, .str to), (10, .ptr i 0), (16, .ptr j 0), (18, .str by_), (19, .bool b19), (20, .vsl (p.map .str) none), (21, .bool b21), (22, .vsl (a'.map .str) none), (23, .bool b23), (24, .int .i64 d), (25, .bool b25), (26, .fn 134 [e.enc] []), (87, .bool a)] σ Q ↔ Ex ipU gU (.ops (tkT 11) :: .code (.keep [1, 2, 3, 10, 18, 20, 22, 24, 135] c) :: k) [(1, .str room), (2, .str user), (3, .str to), (10, .ptr i 0), (16, .ptr j 0), (18, .str by_), (20, .vsl (p.map .str) none), (21, .bool b21), (22, .vsl (a'.map .str) none), (23, .bool b23), (24, .int .i64 d), (25, .bool b25), (26, .fn 134 [e.enc] []), (91, .bool (a || !b19))] σ Q := by
  have hd : tkT 11 = (tkT 7).drop 4 := rfl
  rw [ex_cut 4, hd]
  have hl : (liveIn [1, 2, 3, 10, 18, 20, 22, 24, 135] ((tkT 7).drop 4)).all (([1, 2, 3, 10, 16, 18, 20, 21, 22, 23, 24, 25, 26, 91] : List Nat).contains ·) = true := by kernel_rfl
  generalize (tkT 7).drop 4 = tl at hl ⊢
  cases a
  · simp only [tkT, opsOf, W7Fa, EXA, Nat.reduceEqDiff, reduceIte, reduceCtorEq, Nat.reduceAdd, Nat.reduceLeDiff, Nat.reduceSub, Nat.reduceMul, Int.reduceEq, Int.reduceBEq, Int.reduceBNe, Int.reduceLT, Int.reduceLE, Nat.reduceLT, VX, readAt_some, Bool.false_or]
    rw [ex_prune [1, 2, 3, 10, 16, 18, 20, 21, 22, 23, 24, 25, 26, 91] hl]
    simp only [EXA, Nat.reduceEqDiff, reduceIte, reduceCtorEq, Nat.reduceAdd, Nat.reduceLeDiff, Nat.reduceSub, Nat.reduceMul, Int.reduceEq, Int.reduceBEq, Int.reduceBNe, Int.reduceLT, Int.reduceLE, Nat.reduceLT, Bool.false_or]
  · simp only [tkT, opsOf, W7Fa, EXA, Nat.reduceEqDiff, reduceIte, reduceCtorEq, Nat.reduceAdd, Nat.reduceLeDiff, Nat.reduceSub, Nat.reduceMul, Int.reduceEq, Int.reduceBEq, Int.reduceBNe, Int.reduceLT, Int.reduceLE, Nat.reduceLT, VX, readAt_some, Bool.true_or]
    rw [ex_prune [1, 2, 3, 10, 16, 18, 20, 21, 22, 23, 24, 25, 26, 91] hl]
    simp only [EXA, Nat.reduceEqDiff, reduceIte, reduceCtorEq, Nat.reduceAdd, Nat.reduceLeDiff, Nat.reduceSub, Nat.reduceMul, Int.reduceEq, Int.reduceBEq, Int.reduceBNe, Int.reduceLT, Int.reduceLE, Nat.reduceLT, Bool.true_or]
theorem tk4  (a : Bool) : Ex ipU gU (.ops (tkT 11) :: .code (.keep [1, 2, 3, 10, 18, 20, 22, 24, 135] c) :: k) [(1, .str room), (2, .str user), (3, .str to), (10, .ptr i 0), (16, .ptr j 0), (18, .str by_), (20, .vsl (p.map .str) none), (21, .bool b21), (22, .vsl (a'.map .str) none), (23, .bool b23), (24, .int .i64 d), (25, .bool b25), (26, .fn 134 [e.enc] []), (91, .bool a)] σ Q ↔ Ex ipU gU (.ops (tkT 15) :: .code (.keep [1, 2, 3, 10, 18, 20, 22, 24, 135] c) :: k) [(1, .str room), (2, .str user), (3, .str to), (10, .ptr i 0), (16, .ptr j 0), (18, .str by_), (20, .vsl (p.map .str) none), (22, .vsl (a'.map .str) none), (23, .bool b23), (24, .int .i64 d), (25, .bool b25), (26, .fn 134 [e.enc] []), (95, .bool (a || !b21))] σ Q := by
  have hd : tkT 15 = (tkT 11).drop 4 := rfl
  rw [ex_cut 4, hd]
  have hl : (liveIn [1, 2, 3, 10, 18, 20, 22, 24, 135] ((tkT 11).drop 4)).all (([1, 2, 3, 10, 16, 18, 20, 22, 23, 24, 25, 26, 95] : List Nat).contains ·) = true := by kernel_rfl
  generalize (tkT 11).drop 4 = tl at hl ⊢
  cases a
  · simp only [tkT, opsOf, W7Fa, EXA, Nat.reduceEqDiff, reduceIte, reduceCtorEq, Nat.reduceAdd, Nat.reduceLeDiff, Nat.reduceSub, Nat.reduceMul, Int.reduceEq, Int.reduceBEq, Int.reduceBNe, Int.reduceLT, Int.reduceLE, Nat.reduceLT, VX, readAt_some, Bool.false_or]
    rw [ex_prune [1, 2, 3, 10, 16, 18, 20, 22, 23, 24, 25, 26, 95] hl]
    simp only [EXA, Nat.reduceEqDiff, reduceIte, reduceCtorEq, Nat.reduceAdd, Nat.reduceLeDiff, Nat.reduceSub, Nat.reduceMul, Int.reduceEq, Int.reduceBEq, Int.reduceBNe, Int.reduceLT, Int.reduceLE, Nat.reduceLT, Bool.false_or]
  · simp only [tkT, opsOf, W7Fa, EXA, Nat.reduceEqDiff, reduceIte, reduceCtorEq, Nat.reduceAdd, Nat.reduceLeDiff, Nat.reduceSub, Nat.reduceMul, Int.reduceEq, Int.reduceBEq, Int.reduceBNe, Int.reduceLT, Int.reduceLE, Nat.reduceLT, VX, readAt_some, Bool.true_or]
    rw [ex_prune [1, 2, 3, 10, 16, 18, 20, 22, 23, 24, 25, 26, 95] hl]
    simp only [EXA, Nat.reduceEqDiff, reduceIte, reduceCtorEq, Nat.reduceAdd, Nat.reduceLeDiff, Nat.reduceSub, Nat.reduceMul, Int.reduceEq, Int.reduceBEq, Int.reduceBNe, Int.reduceLT, Int.reduceLE, Nat.reduceLT, Bool.true_or]
theorem tk5  (a : Bool) : Ex ipU gU (.ops (tkT 15) :: .code (.keep [1, 2, 3, 10, 18, 20, 22, 24, 135] c) :: k) [(1, .str room), (2, .str user), (3, .str to), (10, .ptr i 0), (16, .ptr j 0), (18, .str by_), (20, .vsl (p.map .str) none), (22, .vsl (a'.map .str) none), (23, .bool b23), (24, .int .i64 d), (25, .bool b25), (26, .fn 134 [e.enc] []), (95, .bool a)] σ Q ↔ Ex ipU gU (.ops (tkT 19) :: .code (.keep [1, 2, 3, 10, 18, 20, 22, 24, 135] c) :: k) [(1, .str room), (2, .str user), (3, .str to), (10, .ptr i 0), (16, .ptr j 0), (18, .str by_), (20, .vsl (p.map .str) none), (22, .vsl (a'.map .str) none), (24, .int .i64 d), (25, .bool b25), (26, .fn 134 [e.enc] []), (99, .bool (a || !b23))] σ Q := by
  have hd : tkT 19 = (tkT 15).drop 4 := rfl
  rw [ex_cut 4, hd]
  have hl : (liveIn [1, 2, 3, 10, 18, 20, 22, 24, 135] ((tkT 15).drop 4)).all (([1, 2, 3, 10, 16, 18, 20, 22, 24, 25, 26, 99] : List Nat).contains ·) = true := by kernel_rfl
  generalize (tkT 15).drop 4 = tl at hl ⊢
  cases a
  · simp only [tkT, opsOf, W7Fa, EXA, Nat.reduceEqDiff, reduceIte, reduceCtorEq, Nat.reduceAdd, Nat.reduceLeDiff, Nat.reduceSub, Nat.reduceMul, Int.reduceEq, Int.reduceBEq, Int.reduceBNe, Int.reduceLT, Int.reduceLE, Nat.reduceLT, VX, readAt_some, Bool.false_or]
    rw [ex_prune [1, 2, 3, 10, 16, 18, 20, 22, 24, 25, 26, 99] hl]
    simp only [EXA, Nat.reduceEqDiff, reduceIte, reduceCtorEq, Nat.reduceAdd, Nat.reduceLeDiff, Nat.reduceSub, Nat.reduceMul, Int.reduceEq, Int.reduceBEq, Int.reduceBNe, Int.reduceLT, Int.reduceLE, Nat.reduceLT, Bool.false_or]
  · simp only [tkT, opsOf, W7Fa, EXA, Nat.reduceEqDiff, reduceIte, reduceCtorEq, Nat.reduceAdd, Nat.reduceLeDiff, Nat.reduceSub, Nat.reduceMul, Int.reduceEq, Int.reduceBEq, Int.reduceBNe, Int.reduceLT, Int.reduceLE, Nat.reduceLT, VX, readAt_some, Bool.true_or]
    rw [ex_prune [1, 2, 3, 10, 16, 18, 20, 22, 24, 25, 26, 99] hl]
    simp only [EXA, Nat.reduceEqDiff, reduceIte, reduceCtorEq, Nat.reduceAdd, Nat.reduceLeDiff, Nat.reduceSub, Nat.reduceMul, Int.reduceEq, Int.reduceBEq, Int.reduceBNe, Int.reduceLT, Int.reduceLE, Nat.reduceLT, Bool.true_or]
theorem tk6  (a : Bool) : Ex ipU gU (.ops (tkT 19) :: .code (.keep [1, 2, 3, 10, 18, 20, 22, 24, 135] c) :: k) [(1, .str room), (2, .str user), (3, .str to), (10, .ptr i 0), (16, .ptr j 0), (18, .str by_), (20, .vsl (p.map .str) none), (22, .vsl (a'.map .str) none), (24, .int .i64 d), (25, .bool b25), (26, .fn 134 [e.enc] []), (99, .bool a)] σ Q ↔ Ex ipU gU (.ops (tkT 23) :: .code (.keep [1, 2, 3, 10, 18, 20, 22, 24, 135] c) :: k) [(1, .str room), (2, .str user), (3, .str to), (10, .ptr i 0), (16, .ptr j 0), (18, .str by_), (20, .vsl (p.map .str) none), (22, .vsl (a'.map .str) none), (24, .int .i64 d), (26, .fn 134 [e.enc] []), (103, .bool (a || !b25))] σ Q := by
  have hd : tkT 23 = (tkT 19).drop 4 := rfl
  rw [ex_cut 4, hd]
  have hl : (liveIn [1, 2, 3, 10, 18, 20, 22, 24, 135] ((tkT 19).drop 4)).all (([1, 2, 3, 10, 16, 18, 20, 22, 24, 26, 103] : List Nat).contains ·) = true := by kernel_rfl
  generalize (tkT 19).drop 4 = tl at hl ⊢
  cases a
  · simp only [tkT, opsOf, W7Fa, EXA, Nat.reduceEqDiff, reduceIte, reduceCtorEq, Nat.reduceAdd, Nat.reduceLeDiff, Nat.reduceSub, Nat.reduceMul, Int.reduceEq, Int.reduceBEq, Int.reduceBNe, Int.reduceLT, Int.reduceLE, Nat.reduceLT, VX, readAt_some, Bool.false_or]
    rw [ex_prune [1, 2, 3, 10, 16, 18, 20, 22, 24, 26, 103] hl]
    simp only [EXA, Nat.reduceEqDiff, reduceIte, reduceCtorEq, Nat.reduceAdd, Nat.reduceLeDiff, Nat.reduceSub, Nat.reduceMul, Int.reduceEq, Int.reduceBEq, Int.reduceBNe, Int.reduceLT, Int.reduceLE, Nat.reduceLT, Bool.false_or]
  · simp only [tkT, opsOf, W7Fa, EXA, Nat.reduceEqDiff, reduceIte, reduceCtorEq, Nat.reduceAdd, Nat.reduceLeDiff, Nat.reduceSub, Nat.reduceMul, Int.reduceEq, Int.reduceBEq, Int.reduceBNe, Int.reduceLT, Int.reduceLE, Nat.reduceLT, VX, readAt_some, Bool.true_or]
    rw [ex_prune [1, 2, 3, 10, 16, 18, 20, 22, 24, 26, 103] hl]
    simp only [EXA, Nat.reduceEqDiff, reduceIte, reduceCtorEq, Nat.reduceAdd, Nat.reduceLeDiff, Nat.reduceSub, Nat.reduceMul, Int.reduceEq, Int.reduceBEq, Int.reduceBNe, Int.reduceLT, Int.reduceLE, Nat.reduceLT, Bool.true_or]
theorem tk7  (a : Bool) : Ex ipU gU (.ops (tkT 23) :: .code (.keep [1, 2, 3, 10, 18, 20, 22, 24, 135] c) :: k) [(1, .str room), (2, .str user), (3, .str to), (10, .ptr i 0), (16, .ptr j 0), (18, .str by_), (20, .vsl (p.map .str) none), (22, .vsl (a'.map .str) none), (24, .int .i64 d), (26, .fn 134 [e.enc] []), (103, .bool a)] σ Q ↔ Ex ipU gU (.ops (tkT 27) :: .code (.keep [1, 2, 3, 10, 18, 20, 22, 24, 135] c) :: k) [(1, .str room), (2, .str user), (3, .str to), (10, .ptr i 0), (16, .ptr j 0), (18, .str by_), (20, .vsl (p.map .str) none), (22, .vsl (a'.map .str) none), (24, .int .i64 d), (26, .fn 134 [e.enc] []), (107, .bool (a || decide (d < 0)))] σ Q := by
  have hd : tkT 27 = (tkT 23).drop 4 := rfl
  rw [ex_cut 4, hd]
  have hl : (liveIn [1, 2, 3, 10, 18, 20, 22, 24, 135] ((tkT 23).drop 4)).all (([1, 2, 3, 10, 16, 18, 20, 22, 24, 26, 107] : List Nat).contains ·) = true := by kernel_rfl
  generalize (tkT 23).drop 4 = tl at hl ⊢
  cases a
  · simp only [tkT, opsOf, W7Fa, EXA, Nat.reduceEqDiff, reduceIte, reduceCtorEq, Nat.reduceAdd, Nat.reduceLeDiff, Nat.reduceSub, Nat.reduceMul, Int.reduceEq, Int.reduceBEq, Int.reduceBNe, Int.reduceLT, Int.reduceLE, Nat.reduceLT, VX, readAt_some, Bool.false_or]
    rw [ex_prune [1, 2, 3, 10, 16, 18, 20, 22, 24, 26, 107] hl]
    simp only [EXA, Nat.reduceEqDiff, reduceIte, reduceCtorEq, Nat.reduceAdd, Nat.reduceLeDiff, Nat.reduceSub, Nat.reduceMul, Int.reduceEq, Int.reduceBEq, Int.reduceBNe, Int.reduceLT, Int.reduceLE, Nat.reduceLT, Bool.false_or]
  · simp only [tkT, opsOf, W7Fa, EXA, Nat.reduceEqDiff, reduceIte, reduceCtorEq, Nat.reduceAdd, Nat.reduceLeDiff, Nat.reduceSub, Nat.reduceMul, Int.reduceEq, Int.reduceBEq, Int.reduceBNe, Int.reduceLT, Int.reduceLE, Nat.reduceLT, VX, readAt_some, Bool.true_or]
    rw [ex_prune [1, 2, 3, 10, 16, 18, 20, 22, 24, 26, 107] hl]
    simp only [EXA, Nat.reduceEqDiff, reduceIte, reduceCtorEq, Nat.reduceAdd, Nat.reduceLeDiff, Nat.reduceSub, Nat.reduceMul, Int.reduceEq, Int.reduceBEq, Int.reduceBNe, Int.reduceLT, Int.reduceLE, Nat.reduceLT, Bool.true_or]
theorem tk8  (he : e.sz < big) (a : Bool) : Ex ipU gU (.ops (tkT 27) :: .code (.keep [1, 2, 3, 10, 18, 20, 22, 24, 135] c) :: k) [(1, .str room), (2, .str user), (3, .str to), (10, .ptr i 0), (16, .ptr j 0), (18, .str by_), (20, .vsl (p.map .str) none), (22, .vsl (a'.map .str) none), (24, .int .i64 d), (26, .fn 134 [e.enc] []), (107, .bool a)] σ Q ↔ Ex ipU gU (.ops (tkT 32) :: .code (.keep [1, 2, 3, 10, 18, 20, 22, 24, 135] c) :: k) [(1, .str room), (2, .str user), (3, .str to), (10, .ptr i 0), (16, .ptr j 0), (18, .str by_), (20, .vsl (p.map .str) none), (22, .vsl (a'.map .str) none), (24, .int .i64 d), (26, .fn 134 [e.enc] []), (112, .bool (a || !isV e kT kMember))] σ Q := by
  have q := r_isC e kT kMember he
  have hd : tkT 32 = (tkT 27).drop 5 := rfl
  rw [ex_cut 5, hd]
  have hl : (liveIn [1, 2, 3, 10, 18, 20, 22, 24, 135] ((tkT 27).drop 5)).all (([1, 2, 3, 10, 16, 18, 20, 22, 24, 26, 112] : List Nat).contains ·) = true := by kernel_rfl
  generalize (tkT 27).drop 5 = tl at hl ⊢
  cases a
  · simp only [tkT, opsOf, W7Fa, EXA, Nat.reduceEqDiff, reduceIte, reduceCtorEq, Nat.reduceAdd, Nat.reduceLeDiff, Nat.reduceSub, Nat.reduceMul, Int.reduceEq, Int.reduceBEq, Int.reduceBNe, Int.reduceLT, Int.reduceLE, Nat.reduceLT, VX, readAt_some, q, Bool.false_or]
    rw [ex_prune [1, 2, 3, 10, 16, 18, 20, 22, 24, 26, 112] hl]
    simp only [EXA, Nat.reduceEqDiff, reduceIte, reduceCtorEq, Nat.reduceAdd, Nat.reduceLeDiff, Nat.reduceSub, Nat.reduceMul, Int.reduceEq, Int.reduceBEq, Int.reduceBNe, Int.reduceLT, Int.reduceLE, Nat.reduceLT, Bool.false_or]
  · simp only [tkT, opsOf, W7Fa, EXA, Nat.reduceEqDiff, reduceIte, reduceCtorEq, Nat.reduceAdd, Nat.reduceLeDiff, Nat.reduceSub, Nat.reduceMul, Int.reduceEq, Int.reduceBEq, Int.reduceBNe, Int.reduceLT, Int.reduceLE, Nat.reduceLT, VX, readAt_some, Bool.true_or]
    rw [ex_prune [1, 2, 3, 10, 16, 18, 20, 22, 24, 26, 112] hl]
    simp only [EXA, Nat.reduceEqDiff, reduceIte, reduceCtorEq, Nat.reduceAdd, Nat.reduceLeDiff, Nat.reduceSub, Nat.reduceMul, Int.reduceEq, Int.reduceBEq, Int.reduceBNe, Int.reduceLT, Int.reduceLE, Nat.reduceLT, Bool.true_or]
theorem tk9  (he : e.sz < big) (a : Bool) : Ex ipU gU (.ops (tkT 32) :: .code (.keep [1, 2, 3, 10, 18, 20, 22, 24, 135] c) :: k) [(1, .str room), (2, .str user), (3, .str to), (10, .ptr i 0), (16, .ptr j 0), (18, .str by_), (20, .vsl (p.map .str) none), (22, .vsl (a'.map .str) none), (24, .int .i64 d), (26, .fn 134 [e.enc] []), (112, .bool a)] σ Q ↔ Ex ipU gU (.ops (tkT 38) :: .code (.keep [1, 2, 3, 10, 18, 20, 22, 24, 135] c) :: k) [(1, .str room), (2, .str user), (3, .str to), (10, .ptr i 0), (16, .ptr j 0), (18, .str by_), (20, .vsl (p.map .str) none), (22, .vsl (a'.map .str) none), (24, .int .i64 d), (26, .fn 134 [e.enc] []), (118, .bool (a || !isV e kRoom room))] σ Q := by
  have q := r_isC e kRoom room he
  have hd : tkT 38 = (tkT 32).drop 6 := rfl
  rw [ex_cut 6, hd]
  have hl : (liveIn [1, 2, 3, 10, 18, 20, 22, 24, 135] ((tkT 32).drop 6)).all (([1, 2, 3, 10, 16, 18, 20, 22, 24, 26, 118] : List Nat).contains ·) = true := by kernel_rfl
  generalize (tkT 32).drop 6 = tl at hl ⊢
  cases a
  · simp only [tkT, opsOf, W7Fa, EXA, Nat.reduceEqDiff, reduceIte, reduceCtorEq, Nat.reduceAdd, Nat.reduceLeDiff, Nat.reduceSub, Nat.reduceMul, Int.reduceEq, Int.reduceBEq, Int.reduceBNe, Int.reduceLT, Int.reduceLE, Nat.reduceLT, VX, readAt_some, q, Bool.false_or]
    rw [ex_prune [1, 2, 3, 10, 16, 18, 20, 22, 24, 26, 118] hl]
    simp only [EXA, Nat.reduceEqDiff, reduceIte, reduceCtorEq, Nat.reduceAdd, Nat.reduceLeDiff, Nat.reduceSub, Nat.reduceMul, Int.reduceEq, Int.reduceBEq, Int.reduceBNe, Int.reduceLT, Int.reduceLE, Nat.reduceLT, Bool.false_or]
  · simp only [tkT, opsOf, W7Fa, EXA, Nat.reduceEqDiff, reduceIte, reduceCtorEq, Nat.reduceAdd, Nat.reduceLeDiff, Nat.reduceSub, Nat.reduceMul, Int.reduceEq, Int.reduceBEq, Int.reduceBNe, Int.reduceLT, Int.reduceLE, Nat.reduceLT, VX, readAt_some, Bool.true_or]
    rw [ex_prune [1, 2, 3, 10, 16, 18, 20, 22, 24, 26, 118] hl]
    simp only [EXA, Nat.reduceEqDiff, reduceIte, reduceCtorEq, Nat.reduceAdd, Nat.reduceLeDiff, Nat.reduceSub, Nat.reduceMul, Int.reduceEq, Int.reduceBEq, Int.reduceBNe, Int.reduceLT, Int.reduceLE, Nat.reduceLT, Bool.true_or]
theorem tk10  (he : e.sz < big) (a : Bool) : Ex ipU gU (.ops (tkT 38) :: .code (.keep [1, 2, 3, 10, 18, 20, 22, 24, 135] c) :: k) [(1, .str room), (2, .str user), (3, .str to), (10, .ptr i 0), (16, .ptr j 0), (18, .str by_), (20, .vsl (p.map .str) none), (22, .vsl (a'.map .str) none), (24, .int .i64 d), (26, .fn 134 [e.enc] []), (118, .bool a)] σ Q ↔ Ex ipU gU (.ops (tkT 44) :: .code (.keep [1, 2, 3, 10, 18, 20, 22, 24, 135] c) :: k) [(1, .str room), (2, .str user), (3, .str to), (10, .ptr i 0), (16, .ptr j 0), (18, .str by_), (20, .vsl (p.map .str) none), (22, .vsl (a'.map .str) none), (24, .int .i64 d), (26, .fn 134 [e.enc] []), (124, .bool (a || !isV e kSender user))] σ Q := by
  have q := r_isC e kSender user he
  have hd : tkT 44 = (tkT 38).drop 6 := rfl
  rw [ex_cut 6, hd]
  have hl : (liveIn [1, 2, 3, 10, 18, 20, 22, 24, 135] ((tkT 38).drop 6)).all (([1, 2, 3, 10, 16, 18, 20, 22, 24, 26, 124] : List Nat).contains ·) = true := by kernel_rfl
  generalize (tkT 38).drop 6 = tl at hl ⊢
  cases a
  · simp only [tkT, opsOf, W7Fa, EXA, Nat.reduceEqDiff, reduceIte, reduceCtorEq, Nat.reduceAdd, Nat.reduceLeDiff, Nat.reduceSub, Nat.reduceMul, Int.reduceEq, Int.reduceBEq, Int.reduceBNe, Int.reduceLT, Int.reduceLE, Nat.reduceLT, VX, readAt_some, q, Bool.false_or]
    rw [ex_prune [1, 2, 3, 10, 16, 18, 20, 22, 24, 26, 124] hl]
    simp only [EXA, Nat.reduceEqDiff, reduceIte, reduceCtorEq, Nat.reduceAdd, Nat.reduceLeDiff, Nat.reduceSub, Nat.reduceMul, Int.reduceEq, Int.reduceBEq, Int.reduceBNe, Int.reduceLT, Int.reduceLE, Nat.reduceLT, Bool.false_or]
  · simp only [tkT, opsOf, W7Fa, EXA, Nat.reduceEqDiff, reduceIte, reduceCtorEq, Nat.reduceAdd, Nat.reduceLeDiff, Nat.reduceSub, Nat.reduceMul, Int.reduceEq, Int.reduceBEq, Int.reduceBNe, Int.reduceLT, Int.reduceLE, Nat.reduceLT, VX, readAt_some, Bool.true_or]
    rw [ex_prune [1, 2, 3, 10, 16, 18, 20, 22, 24, 26, 124] hl]
    simp only [EXA, Nat.reduceEqDiff, reduceIte, reduceCtorEq, Nat.reduceAdd, Nat.reduceLeDiff, Nat.reduceSub, Nat.reduceMul, Int.reduceEq, Int.reduceBEq, Int.reduceBNe, Int.reduceLT, Int.reduceLE, Nat.reduceLT, Bool.true_or]
theorem tk11  (he : e.sz < big) (a : Bool) : Ex ipU gU (.ops (tkT 44) :: .code (.keep [1, 2, 3, 10, 18, 20, 22, 24, 135] c) :: k) [(1, .str room), (2, .str user), (3, .str to), (10, .ptr i 0), (16, .ptr j 0), (18, .str by_), (20, .vsl (p.map .str) none), (22, .vsl (a'.map .str) none), (24, .int .i64 d), (26, .fn 134 [e.enc] []), (124, .bool a)] σ Q ↔ Ex ipU gU (.ops (tkT 50) :: .code (.keep [1, 2, 3, 10, 18, 20, 22, 24, 135] c) :: k) [(1, .str room), (2, .str user), (3, .str to), (10, .ptr i 0), (16, .ptr j 0), (18, .str by_), (20, .vsl (p.map .str) none), (22, .vsl (a'.map .str) none), (24, .int .i64 d), (130, .bool (a || !isV e kStateKey user))] σ Q := by
  have q := r_isC e kStateKey user he
  have hd : tkT 50 = (tkT 44).drop 6 := rfl
  rw [ex_cut 6, hd]
  have hl : (liveIn [1, 2, 3, 10, 18, 20, 22, 24, 135] ((tkT 44).drop 6)).all (([1, 2, 3, 10, 16, 18, 20, 22, 24, 130] : List Nat).contains ·) = true := by kernel_rfl
  generalize (tkT 44).drop 6 = tl at hl ⊢
  cases a
  · simp only [tkT, opsOf, W7Fa, EXA, Nat.reduceEqDiff, reduceIte, reduceCtorEq, Nat.reduceAdd, Nat.reduceLeDiff, Nat.reduceSub, Nat.reduceMul, Int.reduceEq, Int.reduceBEq, Int.reduceBNe, Int.reduceLT, Int.reduceLE, Nat.reduceLT, VX, readAt_some, q, Bool.false_or]
    rw [ex_prune [1, 2, 3, 10, 16, 18, 20, 22, 24, 130] hl]
    simp only [EXA, Nat.reduceEqDiff, reduceIte, reduceCtorEq, Nat.reduceAdd, Nat.reduceLeDiff, Nat.reduceSub, Nat.reduceMul, Int.reduceEq, Int.reduceBEq, Int.reduceBNe, Int.reduceLT, Int.reduceLE, Nat.reduceLT, Bool.false_or]
  · simp only [tkT, opsOf, W7Fa, EXA, Nat.reduceEqDiff, reduceIte, reduceCtorEq, Nat.reduceAdd, Nat.reduceLeDiff, Nat.reduceSub, Nat.reduceMul, Int.reduceEq, Int.reduceBEq, Int.reduceBNe, Int.reduceLT, Int.reduceLE, Nat.reduceLT, VX, readAt_some, Bool.true_or]
    rw [ex_prune [1, 2, 3, 10, 16, 18, 20, 22, 24, 130] hl]
    simp only [EXA, Nat.reduceEqDiff, reduceIte, reduceCtorEq, Nat.reduceAdd, Nat.reduceLeDiff, Nat.reduceSub, Nat.reduceMul, Int.reduceEq, Int.reduceBEq, Int.reduceBNe, Int.reduceLT, Int.reduceLE, Nat.reduceLT, Bool.true_or]
theorem tk12  (hc : c'.sz < big) (h16 : look σ.m j = some (.own [.int .i64 c'.kind, .int .i64 c'.n, .str c'.s, .vsl (c'.l.map V.enc) none, .vsl (c'.m.map memE) none])) (a : Bool) : Ex ipU gU (.ops (tkT 50) :: .code (.keep [1, 2, 3, 10, 18, 20, 22, 24, 135] c) :: k) [(1, .str room), (2, .str user), (3, .str to), (10, .ptr i 0), (16, .ptr j 0), (18, .str by_), (20, .vsl (p.map .str) none), (22, .vsl (a'.map .str) none), (24, .int .i64 d), (130, .bool a)] σ Q ↔ Ex ipU gU (.ops (tkT 55) :: .code (.keep [1, 2, 3, 10, 18, 20, 22, 24, 135] c) :: k) [(1, .str room), (2, .str user), (3, .str to), (10, .ptr i 0), (18, .str by_), (20, .vsl (p.map .str) none), (22, .vsl (a'.map .str) none), (24, .int .i64 d), (135, .bool (a || !isV c' kMembership to))] σ Q := by
  have q := r_is c' kMembership to hc
  have hd : tkT 55 = (tkT 50).drop 5 := rfl
  rw [ex_cut 5, hd]
  have hl : (liveIn [1, 2, 3, 10, 18, 20, 22, 24, 135] ((tkT 50).drop 5)).all (([1, 2, 3, 10, 18, 20, 22, 24, 135] : List Nat).contains ·) = true := by kernel_rfl
  generalize (tkT 50).drop 5 = tl at hl ⊢
  cases a
  · simp only [tkT, opsOf, W7Fa, EXA, Nat.reduceEqDiff, reduceIte, reduceCtorEq, Nat.reduceAdd, Nat.reduceLeDiff, Nat.reduceSub, Nat.reduceMul, Int.reduceEq, Int.reduceBEq, Int.reduceBNe, Int.reduceLT, Int.reduceLE, Nat.reduceLT, VX, readAt_some, q, h16, Bool.false_or]
    rw [ex_prune [1, 2, 3, 10, 18, 20, 22, 24, 135] hl]
    simp only [EXA, Nat.reduceEqDiff, reduceIte, reduceCtorEq, Nat.reduceAdd, Nat.reduceLeDiff, Nat.reduceSub, Nat.reduceMul, Int.reduceEq, Int.reduceBEq, Int.reduceBNe, Int.reduceLT, Int.reduceLE, Nat.reduceLT, Bool.false_or]
  · simp only [tkT, opsOf, W7Fa, EXA, Nat.reduceEqDiff, reduceIte, reduceCtorEq, Nat.reduceAdd, Nat.reduceLeDiff, Nat.reduceSub, Nat.reduceMul, Int.reduceEq, Int.reduceBEq, Int.reduceBNe, Int.reduceLT, Int.reduceLE, Nat.reduceLT, VX, readAt_some, Bool.true_or]
    rw [ex_prune [1, 2, 3, 10, 18, 20, 22, 24, 135] hl]
    simp only [EXA, Nat.reduceEqDiff, reduceIte, reduceCtorEq, Nat.reduceAdd, Nat.reduceLeDiff, Nat.reduceSub, Nat.reduceMul, Int.reduceEq, Int.reduceBEq, Int.reduceBNe, Int.reduceLT, Int.reduceLE, Nat.reduceLT, Bool.true_or]
end
/-- The last part: whether all fits. -/
theorem tk_cond {room user to by_ : Bs} {p a : List Bs} {d : Int} {e c : V} {b15 b17 b19 b21 b23 b25 : Bool} {σ : Store} {i j : Nat} {r : AV} (he : e.sz < big) (hc : c.sz < big)
    (h10 : look σ.m i = some (.own z20)) (h16 : look σ.m j = some (.own [.int .i64 c.kind, .int .i64 c.n, .str c.s, .vsl (c.l.map V.enc) none, .vsl (c.m.map memE) none]))
    (hr : r = if (((((((((((!b15 || !b17) || !b19) || !b21) || !b23) || !b25) || decide (d < 0)) || !isV e kT kMember) || !isV e kRoom room) || !isV e kSender user) || !isV e kStateKey user) || !isV c kMembership to) = true then .tup [evE Ev.zero, .int .i64 19] else .tup [evE (evT room user d p a (contentP to by_)), .int .i64 0]) :
    Ex ipU gU [.code F121_32] [(1, .str room), (2, .str user), (3, .str to), (10, .ptr i 0), (15, .bool b15), (16, .ptr j 0), (17, .bool b17), (18, .str by_), (19, .bool b19), (20, .vsl (p.map .str) none), (21, .bool b21), (22, .vsl (a.map .str) none), (23, .bool b23), (24, .int .i64 d), (25, .bool b25), (26, .fn 134 [e.enc] [])] σ
      fun fr' σ1 => (resAll fr' σ1 F121.res).bind (rbE σ1) = some r := by
  have h126 := r_content to by_
  have e0 : ∀ K Q fr, Ex ipU gU (.code F121_32 :: K) fr σ Q ↔ Ex ipU gU (.ops (opsOf F121_23) :: .code (.keep [1, 2, 3, 10, 18, 20, 22, 24, 135] F121_26) :: .code F121_31 :: K) fr σ Q := fun K Q fr => by
    simp only [F121_32, F121_28, ex_seq]
    generalize h : F121_23 = x
    rw [← h]
    show Ex ipU gU (.code (.region (opsOf F121_23)) :: _) fr σ Q ↔ _
    rw [ex_region]
  rw [e0, tk1, tk2, tk3, tk4, tk5, tk6, tk7, tk8 he, tk9 he, tk10 he, tk11 he, tk12 hc h16]
  generalize (((((((((((!b15 || !b17) || !b19) || !b21) || !b23) || !b25) || decide (d < 0)) || !isV e kT kMember) || !isV e kRoom room) || !isV e kSender user) || !isV e kStateKey user) || !isV c kMembership to) = w at hr ⊢
  cases w with
  | true =>
    simp only [if_true] at hr
    simp only [tkT, opsOf, W7Fa, EXA, Nat.reduceEqDiff, reduceIte, reduceCtorEq, Nat.reduceAdd, Nat.reduceLeDiff, Nat.reduceSub, Nat.reduceMul, Int.reduceEq, Int.reduceBEq, Int.reduceBNe, Int.reduceLT, Int.reduceLE, Nat.reduceLT, VX, readAt_some, h10, hr, evE_zero]
  | false =>
    simp only [Bool.false_eq_true, if_false] at hr
    simp only [tkT, opsOf, W7Fa, EXA, Nat.reduceEqDiff, reduceIte, reduceCtorEq, Nat.reduceAdd, Nat.reduceLeDiff, Nat.reduceSub, Nat.reduceMul, Int.reduceEq, Int.reduceBEq, Int.reduceBNe, Int.reduceLT, Int.reduceLE, Nat.reduceLT, VX, readAt_some, h10, h126, hr, evE_zero]
    rfl
end Go.Ab
/- tmpl.Take, as a whole. -/
namespace Go.Ab
set_option maxHeartbeats 1000000
def W8Fa := J @F121_23.eq_1 (J @F121_26.eq_1 (J @F121_28.eq_1 (J @F121_31.eq_1 (@F121.eq_1))))
set_option maxRecDepth 100000
def takeP (v : V) (room user to server : Bs) : Ev × Int :=
  if (!v.good || (v.kind != 5)) = true then (Ev.zero, 1) else if isV v kVersion sTen = false then (Ev.zero, 15) else
  let e := tabV v kEvent; let c := tabV e.1 kContent; let b := byP c.1 to server; let p := eventsV e.1 kPrev 20; let a := eventsV e.1 kAuth 10; let d := intV (getV e.1 kDepth)
  if (((((((((((!e.2 || !c.2) || !b.2) || !p.2) || !a.2) || !d.2) || decide (d.1 < 0)) || !isV e.1 kT kMember) || !isV e.1 kRoom room) || !isV e.1 kSender user) || !isV e.1 kStateKey user) || !isV c.1 kMembership to) = true then (Ev.zero, 19)
  else (evT room user d.1 p.1 a.1 (contentP to b.1), 0)
theorem tabV_sz (v : V) (k : Bs) : (tabV v k).1.sz ≤ v.sz := getV_sz v k
theorem r_Take (v : V) (room user to server : Bs) (hb : v.sz < lim) : cR 121 [v.enc, .str room, .str user, .str to, .str server] = some (.tup [evE (takeP v room user to server).1, .int .i64 (takeP v room user to server).2]) := by
  unfold lim at hb
  have hbb : v.sz < big := by unfold big; omega
  have h25 := r_good v hbb
  have his := r_isC v kVersion sTen hbb
  have hte := r_tabAt v kEvent hbb
  have z1 := tabV_sz v kEvent
  have z2 := tabV_sz (tabV v kEvent).1 kContent
  have htc := r_tabAt (tabV v kEvent).1 kContent (by unfold big; omega)
  have hby := r_by (tabV (tabV v kEvent).1 kContent).1 to server (by unfold big; omega)
  have hep := r_events (tabV v kEvent).1 kPrev 20 (by unfold lim; omega)
  have hea := r_events (tabV v kEvent).1 kAuth 10 (by unfold lim; omega)
  have hid := r_intAt (tabV v kEvent).1 kDepth (by unfold big; omega)
  obtain ⟨r, hr⟩ : ∃ r, r = AV.tup [evE (takeP v room user to server).1, .int .i64 (takeP v room user to server).2] := ⟨_, rfl⟩
  rw [← hr]
  unfold takeP at hr
  refine cR_of (F := F121) rfl ?_
  cases hg : v.good with
  | false =>
    rw [hg] at h25 hr
    simp only [Bool.not_false, Bool.true_or, if_true] at hr
    simp only [W8Fa, EXA, Nat.reduceEqDiff, reduceIte, reduceCtorEq, Nat.reduceAdd, Nat.reduceLeDiff, Nat.reduceSub, Nat.reduceMul, Int.reduceEq, Int.reduceBEq, Int.reduceBNe, Int.reduceLT, Int.reduceLE, Nat.reduceLT, VX, readAt_some, h25, hr, evE_zero]
  | true =>
    rw [hg] at h25 hr
    cases h5 : v.kind != 5 with
    | true =>
      rw [h5] at hr
      simp only [Bool.or_true, if_true] at hr
      simp only [W8Fa, EXA, Nat.reduceEqDiff, reduceIte, reduceCtorEq, Nat.reduceAdd, Nat.reduceLeDiff, Nat.reduceSub, Nat.reduceMul, Int.reduceEq, Int.reduceBEq, Int.reduceBNe, Int.reduceLT, Int.reduceLE, Nat.reduceLT, VX, readAt_some, h25, h5, hr, evE_zero]
    | false =>
      rw [h5] at hr
      simp only [Bool.not_true, Bool.or_self, Bool.false_eq_true, if_false] at hr
      cases hi : isV v kVersion sTen with
      | false =>
        rw [hi] at his hr
        simp only [if_true] at hr
        simp only [W8Fa, EXA, Nat.reduceEqDiff, reduceIte, reduceCtorEq, Nat.reduceAdd, Nat.reduceLeDiff, Nat.reduceSub, Nat.reduceMul, Int.reduceEq, Int.reduceBEq, Int.reduceBNe, Int.reduceLT, Int.reduceLE, Nat.reduceLT, VX, readAt_some, h25, h5, his, hr, evE_zero]
      | true =>
        rw [hi] at his hr
        simp only [Bool.true_eq_false, if_false] at hr
        generalize tabV v kEvent = e at *
        generalize tabV e.1 kContent = c at *
        generalize byP c.1 to server = b at *
        generalize eventsV e.1 kPrev 20 = p at *
        generalize eventsV e.1 kAuth 10 = a at *
        generalize intV (getV e.1 kDepth) = d at *
        simp only [W8Fa, EXA, Nat.reduceEqDiff, reduceIte, reduceCtorEq, Nat.reduceAdd, Nat.reduceLeDiff, Nat.reduceSub, Nat.reduceMul, Int.reduceEq, Int.reduceBEq, Int.reduceBNe, Int.reduceLT, Int.reduceLE, Nat.reduceLT, VX, readAt_some, h25, h5, his, hte, htc, hby, hep, hea, hid]
        refine tk_cond (e := e.1) (c := c.1) (by unfold big; omega) (by unfold big; omega) rfl rfl ?_
        rw [hr]
        split <;> rfl
end Go.Ab
/- The document's Take: its chains of conditions. -/
namespace Go.Ab
set_option maxHeartbeats 1000000
def W9Fa := J @F122_18.eq_1 (J @F122_21.eq_1 (J @F122_23.eq_1 (J @F122_24.eq_1 (J @F122_30.eq_1 (J @F122_44.eq_1 (J @F122_45.eq_1 (J @F122_54.eq_1 (J @F122_57.eq_1 (J @F122_58.eq_1 (J @F122_59.eq_1 (J @F122_63.eq_1 (J @F122_66.eq_1 (J @F122_67.eq_1 (J @F122_68.eq_1 (J @F122_75.eq_1 (J @F122_78.eq_1 (J @F122_79.eq_1 (J @F122_80.eq_1 (J @F122_81.eq_1 (J @F122_94.eq_1 (J @F122_95.eq_1 (J @F122_96.eq_1 (J @F122_97.eq_1 (@F122.eq_1))))))))))))))))))))))))
set_option maxRecDepth 100000
section
variable {room user to server m1 s34 : Bs} {p a' : List Bs} {d : Int} {e c' x : V} {b15 b17 b24 b26 b28 b30 b35 : Bool} {σ : Store} {i j h g : Nat} {c : ICode} {k : List Item} {Q : Fr → Store → Prop}
abbrev raT (n : Nat) : List IOper := (opsOf F122_18).drop n
theorem ra1  : Ex ipU gU (.ops (opsOf F122_18) :: .code (.keep [1, 2, 3, 4, 10, 14, 16, 82] c) :: k) [(1, .str room), (2, .str user), (3, .str to), (4, .str server), (10, .ptr i 0), (14, .ptr j 0), (15, .bool b15), (16, .ptr h 0), (17, .bool b17)] σ Q ↔ Ex ipU gU (.ops (raT 3) :: .code (.keep [1, 2, 3, 4, 10, 14, 16, 82] c) :: k) [(1, .str room), (2, .str user), (3, .str to), (4, .str server), (10, .ptr i 0), (14, .ptr j 0), (16, .ptr h 0), (17, .bool b17), (69, .bool (!b15))] σ Q := by
  rw [ex_cut 3]
  have hl : (liveIn [1, 2, 3, 4, 10, 14, 16, 82] (raT 3)).all (([1, 2, 3, 4, 10, 14, 16, 17, 69] : List Nat).contains ·) = true := by kernel_rfl
  unfold raT at hl ⊢
  generalize (opsOf F122_18).drop 3 = tl at hl ⊢
  simp only [opsOf, W9Fa, EXA, Nat.reduceEqDiff, reduceIte, reduceCtorEq, Nat.reduceAdd, Nat.reduceLeDiff, Nat.reduceSub, Nat.reduceMul, Int.reduceEq, Int.reduceBEq, Int.reduceBNe, Int.reduceLT, Int.reduceLE, Nat.reduceLT, VX, readAt_some]
  rw [ex_prune [1, 2, 3, 4, 10, 14, 16, 17, 69] hl]
  simp only [EXA, Nat.reduceEqDiff, reduceIte, reduceCtorEq, Nat.reduceAdd, Nat.reduceLeDiff, Nat.reduceSub, Nat.reduceMul, Int.reduceEq, Int.reduceBEq, Int.reduceBNe, Int.reduceLT, Int.reduceLE, Nat.reduceLT]
theorem ra2  (a : Bool) : Ex ipU gU (.ops (raT 3) :: .code (.keep [1, 2, 3, 4, 10, 14, 16, 82] c) :: k) [(1, .str room), (2, .str user), (3, .str to), (4, .str server), (10, .ptr i 0), (14, .ptr j 0), (16, .ptr h 0), (17, .bool b17), (69, .bool a)] σ Q ↔ Ex ipU gU (.ops (raT 7) :: .code (.keep [1, 2, 3, 4, 10, 14, 16, 82] c) :: k) [(1, .str room), (2, .str user), (3, .str to), (4, .str server), (10, .ptr i 0), (14, .ptr j 0), (16, .ptr h 0), (73, .bool (a || !b17))] σ Q := by
  have hd : raT 7 = (raT 3).drop 4 := rfl
  rw [ex_cut 4, hd]
  have hl : (liveIn [1, 2, 3, 4, 10, 14, 16, 82] ((raT 3).drop 4)).all (([1, 2, 3, 4, 10, 14, 16, 73] : List Nat).contains ·) = true := by kernel_rfl
  generalize (raT 3).drop 4 = tl at hl ⊢
  cases a
  · simp only [raT, opsOf, W9Fa, EXA, Nat.reduceEqDiff, reduceIte, reduceCtorEq, Nat.reduceAdd, Nat.reduceLeDiff, Nat.reduceSub, Nat.reduceMul, Int.reduceEq, Int.reduceBEq, Int.reduceBNe, Int.reduceLT, Int.reduceLE, Nat.reduceLT, VX, readAt_some, Bool.false_or]
    rw [ex_prune [1, 2, 3, 4, 10, 14, 16, 73] hl]
    simp only [EXA, Nat.reduceEqDiff, reduceIte, reduceCtorEq, Nat.reduceAdd, Nat.reduceLeDiff, Nat.reduceSub, Nat.reduceMul, Int.reduceEq, Int.reduceBEq, Int.reduceBNe, Int.reduceLT, Int.reduceLE, Nat.reduceLT, Bool.false_or]
  · simp only [raT, opsOf, W9Fa, EXA, Nat.reduceEqDiff, reduceIte, reduceCtorEq, Nat.reduceAdd, Nat.reduceLeDiff, Nat.reduceSub, Nat.reduceMul, Int.reduceEq, Int.reduceBEq, Int.reduceBNe, Int.reduceLT, Int.reduceLE, Nat.reduceLT, VX, readAt_some, Bool.true_or]
    rw [ex_prune [1, 2, 3, 4, 10, 14, 16, 73] hl]
    simp only [EXA, Nat.reduceEqDiff, reduceIte, reduceCtorEq, Nat.reduceAdd, Nat.reduceLeDiff, Nat.reduceSub, Nat.reduceMul, Int.reduceEq, Int.reduceBEq, Int.reduceBNe, Int.reduceLT, Int.reduceLE, Nat.reduceLT, Bool.true_or]
theorem ra3  (h14 : look σ.m j = some (.own [.int .i64 e.kind, .int .i64 e.n, .str e.s, .vsl (e.l.map V.enc) none, .vsl (e.m.map memE) none])) (a : Bool) : Ex ipU gU (.ops (raT 7) :: .code (.keep [1, 2, 3, 4, 10, 14, 16, 82] c) :: k) [(1, .str room), (2, .str user), (3, .str to), (4, .str server), (10, .ptr i 0), (14, .ptr j 0), (16, .ptr h 0), (73, .bool a)] σ Q ↔ Ex ipU gU (.ops (raT 12) :: .code (.keep [1, 2, 3, 4, 10, 14, 16, 82] c) :: k) [(1, .str room), (2, .str user), (3, .str to), (4, .str server), (10, .ptr i 0), (14, .ptr j 0), (16, .ptr h 0), (78, .bool (a || (e.kind != 5)))] σ Q := by
  have hd : raT 12 = (raT 7).drop 5 := rfl
  rw [ex_cut 5, hd]
  have hl : (liveIn [1, 2, 3, 4, 10, 14, 16, 82] ((raT 7).drop 5)).all (([1, 2, 3, 4, 10, 14, 16, 78] : List Nat).contains ·) = true := by kernel_rfl
  generalize (raT 7).drop 5 = tl at hl ⊢
  cases a
  · simp only [raT, opsOf, W9Fa, EXA, Nat.reduceEqDiff, reduceIte, reduceCtorEq, Nat.reduceAdd, Nat.reduceLeDiff, Nat.reduceSub, Nat.reduceMul, Int.reduceEq, Int.reduceBEq, Int.reduceBNe, Int.reduceLT, Int.reduceLE, Nat.reduceLT, VX, readAt_some, h14, Bool.false_or]
    rw [ex_prune [1, 2, 3, 4, 10, 14, 16, 78] hl]
    simp only [EXA, Nat.reduceEqDiff, reduceIte, reduceCtorEq, Nat.reduceAdd, Nat.reduceLeDiff, Nat.reduceSub, Nat.reduceMul, Int.reduceEq, Int.reduceBEq, Int.reduceBNe, Int.reduceLT, Int.reduceLE, Nat.reduceLT, Bool.false_or]
  · simp only [raT, opsOf, W9Fa, EXA, Nat.reduceEqDiff, reduceIte, reduceCtorEq, Nat.reduceAdd, Nat.reduceLeDiff, Nat.reduceSub, Nat.reduceMul, Int.reduceEq, Int.reduceBEq, Int.reduceBNe, Int.reduceLT, Int.reduceLE, Nat.reduceLT, VX, readAt_some, Bool.true_or]
    rw [ex_prune [1, 2, 3, 4, 10, 14, 16, 78] hl]
    simp only [EXA, Nat.reduceEqDiff, reduceIte, reduceCtorEq, Nat.reduceAdd, Nat.reduceLeDiff, Nat.reduceSub, Nat.reduceMul, Int.reduceEq, Int.reduceBEq, Int.reduceBNe, Int.reduceLT, Int.reduceLE, Nat.reduceLT, Bool.true_or]
theorem ra4  (h16 : look σ.m h = some (.own [.int .i64 c'.kind, .int .i64 c'.n, .str c'.s, .vsl (c'.l.map V.enc) none, .vsl (c'.m.map memE) none])) (a : Bool) : Ex ipU gU (.ops (raT 12) :: .code (.keep [1, 2, 3, 4, 10, 14, 16, 82] c) :: k) [(1, .str room), (2, .str user), (3, .str to), (4, .str server), (10, .ptr i 0), (14, .ptr j 0), (16, .ptr h 0), (78, .bool a)] σ Q ↔ Ex ipU gU (.ops (raT 16) :: .code (.keep [1, 2, 3, 4, 10, 14, 16, 82] c) :: k) [(1, .str room), (2, .str user), (3, .str to), (4, .str server), (10, .ptr i 0), (14, .ptr j 0), (16, .ptr h 0), (82, .bool (a || (c'.kind != 5)))] σ Q := by
  have hd : raT 16 = (raT 12).drop 4 := rfl
  rw [ex_cut 4, hd]
  have hl : (liveIn [1, 2, 3, 4, 10, 14, 16, 82] ((raT 12).drop 4)).all (([1, 2, 3, 4, 10, 14, 16, 82] : List Nat).contains ·) = true := by kernel_rfl
  generalize (raT 12).drop 4 = tl at hl ⊢
  cases a
  · simp only [raT, opsOf, W9Fa, EXA, Nat.reduceEqDiff, reduceIte, reduceCtorEq, Nat.reduceAdd, Nat.reduceLeDiff, Nat.reduceSub, Nat.reduceMul, Int.reduceEq, Int.reduceBEq, Int.reduceBNe, Int.reduceLT, Int.reduceLE, Nat.reduceLT, VX, readAt_some, h16, Bool.false_or]
    rw [ex_prune [1, 2, 3, 4, 10, 14, 16, 82] hl]
    simp only [EXA, Nat.reduceEqDiff, reduceIte, reduceCtorEq, Nat.reduceAdd, Nat.reduceLeDiff, Nat.reduceSub, Nat.reduceMul, Int.reduceEq, Int.reduceBEq, Int.reduceBNe, Int.reduceLT, Int.reduceLE, Nat.reduceLT, Bool.false_or]
  · simp only [raT, opsOf, W9Fa, EXA, Nat.reduceEqDiff, reduceIte, reduceCtorEq, Nat.reduceAdd, Nat.reduceLeDiff, Nat.reduceSub, Nat.reduceMul, Int.reduceEq, Int.reduceBEq, Int.reduceBNe, Int.reduceLT, Int.reduceLE, Nat.reduceLT, VX, readAt_some, Bool.true_or]
    rw [ex_prune [1, 2, 3, 4, 10, 14, 16, 82] hl]
    simp only [EXA, Nat.reduceEqDiff, reduceIte, reduceCtorEq, Nat.reduceAdd, Nat.reduceLeDiff, Nat.reduceSub, Nat.reduceMul, Int.reduceEq, Int.reduceBEq, Int.reduceBNe, Int.reduceLT, Int.reduceLE, Nat.reduceLT, Bool.true_or]
abbrev rb_T (n : Nat) : List IOper := (opsOf F122_54).drop n
theorem rb_1  : Ex ipU gU (.ops (opsOf F122_54) :: .code (.keep [1, 2, 3, 4, 10, 16, 25, 27, 29, 165] c) :: k) [(1, .str room), (2, .str user), (3, .str to), (4, .str server), (10, .ptr i 0), (16, .ptr h 0), (23, .str m1), (24, .bool b24), (25, .vsl (p.map .str) none), (26, .bool b26), (27, .vsl (a'.map .str) none), (28, .bool b28), (29, .int .i64 d), (30, .bool b30)] σ Q ↔ Ex ipU gU (.ops (rb_T 3) :: .code (.keep [1, 2, 3, 4, 10, 16, 25, 27, 29, 165] c) :: k) [(1, .str room), (2, .str user), (3, .str to), (4, .str server), (10, .ptr i 0), (16, .ptr h 0), (23, .str m1), (25, .vsl (p.map .str) none), (26, .bool b26), (27, .vsl (a'.map .str) none), (28, .bool b28), (29, .int .i64 d), (30, .bool b30), (135, .bool (!b24))] σ Q := by
  rw [ex_cut 3]
  have hl : (liveIn [1, 2, 3, 4, 10, 16, 25, 27, 29, 165] (rb_T 3)).all (([1, 2, 3, 4, 10, 16, 23, 25, 26, 27, 28, 29, 30, 135] : List Nat).contains ·) = true := by kernel_rfl
  unfold rb_T at hl ⊢
  generalize (opsOf F122_54).drop 3 = tl at hl ⊢
  simp only [opsOf, W9Fa, EXA, Nat.reduceEqDiff, reduceIte, reduceCtorEq, Nat.reduceAdd, Nat.reduceLeDiff, Nat.reduceSub, Nat.reduceMul, Int.reduceEq, Int.reduceBEq, Int.reduceBNe, Int.reduceLT, Int.reduceLE, Nat.reduceLT, VX, readAt_some]
  rw [ex_prune [1, 2, 3, 4, 10, 16, 23, 25, 26, 27, 28, 29, 30, 135] hl]
  simp only [EXA, Nat.reduceEqDiff, reduceIte, reduceCtorEq, Nat.reduceAdd, Nat.reduceLeDiff, Nat.reduceSub, Nat.reduceMul, Int.reduceEq, Int.reduceBEq, Int.reduceBNe, Int.reduceLT, Int.reduceLE, Nat.reduceLT]
theorem rb_2  (a : Bool) : Ex ipU gU (.ops (rb_T 3) :: .code (.keep [1, 2, 3, 4, 10, 16, 25, 27, 29, 165] c) :: k) [(1, .str room), (2, .str user), (3, .str to), (4, .str server), (10, .ptr i 0), (16, .ptr h 0), (23, .str m1), (25, .vsl (p.map .str) none), (26, .bool b26), (27, .vsl (a'.map .str) none), (28, .bool b28), (29, .int .i64 d), (30, .bool b30), (135, .bool a)] σ Q ↔ Ex ipU gU (.ops (rb_T 8) :: .code (.keep [1, 2, 3, 4, 10, 16, 25, 27, 29, 165] c) :: k) [(1, .str room), (2, .str user), (3, .str to), (4, .str server), (10, .ptr i 0), (16, .ptr h 0), (25, .vsl (p.map .str) none), (26, .bool b26), (27, .vsl (a'.map .str) none), (28, .bool b28), (29, .int .i64 d), (30, .bool b30), (140, .bool (a || !(m1 == to)))] σ Q := by
  have hd : rb_T 8 = (rb_T 3).drop 5 := rfl
  rw [ex_cut 5, hd]
  have hl : (liveIn [1, 2, 3, 4, 10, 16, 25, 27, 29, 165] ((rb_T 3).drop 5)).all (([1, 2, 3, 4, 10, 16, 25, 26, 27, 28, 29, 30, 140] : List Nat).contains ·) = true := by kernel_rfl
  generalize (rb_T 3).drop 5 = tl at hl ⊢
  cases a
  · simp only [rb_T, opsOf, W9Fa, EXA, Nat.reduceEqDiff, reduceIte, reduceCtorEq, Nat.reduceAdd, Nat.reduceLeDiff, Nat.reduceSub, Nat.reduceMul, Int.reduceEq, Int.reduceBEq, Int.reduceBNe, Int.reduceLT, Int.reduceLE, Nat.reduceLT, VX, readAt_some, Bool.false_or]
    rw [ex_prune [1, 2, 3, 4, 10, 16, 25, 26, 27, 28, 29, 30, 140] hl]
    simp only [EXA, Nat.reduceEqDiff, reduceIte, reduceCtorEq, Nat.reduceAdd, Nat.reduceLeDiff, Nat.reduceSub, Nat.reduceMul, Int.reduceEq, Int.reduceBEq, Int.reduceBNe, Int.reduceLT, Int.reduceLE, Nat.reduceLT, Bool.false_or]
  · simp only [rb_T, opsOf, W9Fa, EXA, Nat.reduceEqDiff, reduceIte, reduceCtorEq, Nat.reduceAdd, Nat.reduceLeDiff, Nat.reduceSub, Nat.reduceMul, Int.reduceEq, Int.reduceBEq, Int.reduceBNe, Int.reduceLT, Int.reduceLE, Nat.reduceLT, VX, readAt_some, Bool.true_or]
    rw [ex_prune [1, 2, 3, 4, 10, 16, 25, 26, 27, 28, 29, 30, 140] hl]
    simp only [EXA, Nat.reduceEqDiff, reduceIte, reduceCtorEq, Nat.reduceAdd, Nat.reduceLeDiff, Nat.reduceSub, Nat.reduceMul, Int.reduceEq, Int.reduceBEq, Int.reduceBNe, Int.reduceLT, Int.reduceLE, Nat.reduceLT, Bool.true_or]
theorem rb_3  (a : Bool) : Ex ipU gU (.ops (rb_T 8) :: .code (.keep [1, 2, 3, 4, 10, 16, 25, 27, 29, 165] c) :: k) [(1, .str room), (2, .str user), (3, .str to), (4, .str server), (10, .ptr i 0), (16, .ptr h 0), (25, .vsl (p.map .str) none), (26, .bool b26), (27, .vsl (a'.map .str) none), (28, .bool b28), (29, .int .i64 d), (30, .bool b30), (140, .bool a)] σ Q ↔ Ex ipU gU (.ops (rb_T 12) :: .code (.keep [1, 2, 3, 4, 10, 16, 25, 27, 29, 165] c) :: k) [(1, .str room), (2, .str user), (3, .str to), (4, .str server), (10, .ptr i 0), (16, .ptr h 0), (25, .vsl (p.map .str) none), (27, .vsl (a'.map .str) none), (28, .bool b28), (29, .int .i64 d), (30, .bool b30), (144, .bool (a || !b26))] σ Q := by
  have hd : rb_T 12 = (rb_T 8).drop 4 := rfl
  rw [ex_cut 4, hd]
  have hl : (liveIn [1, 2, 3, 4, 10, 16, 25, 27, 29, 165] ((rb_T 8).drop 4)).all (([1, 2, 3, 4, 10, 16, 25, 27, 28, 29, 30, 144] : List Nat).contains ·) = true := by kernel_rfl
  generalize (rb_T 8).drop 4 = tl at hl ⊢
  cases a
  · simp only [rb_T, opsOf, W9Fa, EXA, Nat.reduceEqDiff, reduceIte, reduceCtorEq, Nat.reduceAdd, Nat.reduceLeDiff, Nat.reduceSub, Nat.reduceMul, Int.reduceEq, Int.reduceBEq, Int.reduceBNe, Int.reduceLT, Int.reduceLE, Nat.reduceLT, VX, readAt_some, Bool.false_or]
    rw [ex_prune [1, 2, 3, 4, 10, 16, 25, 27, 28, 29, 30, 144] hl]
    simp only [EXA, Nat.reduceEqDiff, reduceIte, reduceCtorEq, Nat.reduceAdd, Nat.reduceLeDiff, Nat.reduceSub, Nat.reduceMul, Int.reduceEq, Int.reduceBEq, Int.reduceBNe, Int.reduceLT, Int.reduceLE, Nat.reduceLT, Bool.false_or]
  · simp only [rb_T, opsOf, W9Fa, EXA, Nat.reduceEqDiff, reduceIte, reduceCtorEq, Nat.reduceAdd, Nat.reduceLeDiff, Nat.reduceSub, Nat.reduceMul, Int.reduceEq, Int.reduceBEq, Int.reduceBNe, Int.reduceLT, Int.reduceLE, Nat.reduceLT, VX, readAt_some, Bool.true_or]
    rw [ex_prune [1, 2, 3, 4, 10, 16, 25, 27, 28, 29, 30, 144] hl]
    simp only [EXA, Nat.reduceEqDiff, reduceIte, reduceCtorEq, Nat.reduceAdd, Nat.reduceLeDiff, Nat.reduceSub, Nat.reduceMul, Int.reduceEq, Int.reduceBEq, Int.reduceBNe, Int.reduceLT, Int.reduceLE, Nat.reduceLT, Bool.true_or]
theorem rb_4  (a : Bool) : Ex ipU gU (.ops (rb_T 12) :: .code (.keep [1, 2, 3, 4, 10, 16, 25, 27, 29, 165] c) :: k) [(1, .str room), (2, .str user), (3, .str to), (4, .str server), (10, .ptr i 0), (16, .ptr h 0), (25, .vsl (p.map .str) none), (27, .vsl (a'.map .str) none), (28, .bool b28), (29, .int .i64 d), (30, .bool b30), (144, .bool a)] σ Q ↔ Ex ipU gU (.ops (rb_T 16) :: .code (.keep [1, 2, 3, 4, 10, 16, 25, 27, 29, 165] c) :: k) [(1, .str room), (2, .str user), (3, .str to), (4, .str server), (10, .ptr i 0), (16, .ptr h 0), (25, .vsl (p.map .str) none), (27, .vsl (a'.map .str) none), (29, .int .i64 d), (30, .bool b30), (148, .bool (a || !b28))] σ Q := by
  have hd : rb_T 16 = (rb_T 12).drop 4 := rfl
  rw [ex_cut 4, hd]
  have hl : (liveIn [1, 2, 3, 4, 10, 16, 25, 27, 29, 165] ((rb_T 12).drop 4)).all (([1, 2, 3, 4, 10, 16, 25, 27, 29, 30, 148] : List Nat).contains ·) = true := by kernel_rfl
  generalize (rb_T 12).drop 4 = tl at hl ⊢
  cases a
  · simp only [rb_T, opsOf, W9Fa, EXA, Nat.reduceEqDiff, reduceIte, reduceCtorEq, Nat.reduceAdd, Nat.reduceLeDiff, Nat.reduceSub, Nat.reduceMul, Int.reduceEq, Int.reduceBEq, Int.reduceBNe, Int.reduceLT, Int.reduceLE, Nat.reduceLT, VX, readAt_some, Bool.false_or]
    rw [ex_prune [1, 2, 3, 4, 10, 16, 25, 27, 29, 30, 148] hl]
    simp only [EXA, Nat.reduceEqDiff, reduceIte, reduceCtorEq, Nat.reduceAdd, Nat.reduceLeDiff, Nat.reduceSub, Nat.reduceMul, Int.reduceEq, Int.reduceBEq, Int.reduceBNe, Int.reduceLT, Int.reduceLE, Nat.reduceLT, Bool.false_or]
  · simp only [rb_T, opsOf, W9Fa, EXA, Nat.reduceEqDiff, reduceIte, reduceCtorEq, Nat.reduceAdd, Nat.reduceLeDiff, Nat.reduceSub, Nat.reduceMul, Int.reduceEq, Int.reduceBEq, Int.reduceBNe, Int.reduceLT, Int.reduceLE, Nat.reduceLT, VX, readAt_some, Bool.true_or]
    rw [ex_prune [1, 2, 3, 4, 10, 16, 25, 27, 29, 30, 148] hl]
    simp only [EXA, Nat.reduceEqDiff, reduceIte, reduceCtorEq, Nat.reduceAdd, Nat.reduceLeDiff, Nat.reduceSub, Nat.reduceMul, Int.reduceEq, Int.reduceBEq, Int.reduceBNe, Int.reduceLT, Int.reduceLE, Nat.reduceLT, Bool.true_or]
theorem rb_5  (a : Bool) : Ex ipU gU (.ops (rb_T 16) :: .code (.keep [1, 2, 3, 4, 10, 16, 25, 27, 29, 165] c) :: k) [(1, .str room), (2, .str user), (3, .str to), (4, .str server), (10, .ptr i 0), (16, .ptr h 0), (25, .vsl (p.map .str) none), (27, .vsl (a'.map .str) none), (29, .int .i64 d), (30, .bool b30), (148, .bool a)] σ Q ↔ Ex ipU gU (.ops (rb_T 20) :: .code (.keep [1, 2, 3, 4, 10, 16, 25, 27, 29, 165] c) :: k) [(1, .str room), (2, .str user), (3, .str to), (4, .str server), (10, .ptr i 0), (16, .ptr h 0), (25, .vsl (p.map .str) none), (27, .vsl (a'.map .str) none), (29, .int .i64 d), (152, .bool (a || !b30))] σ Q := by
  have hd : rb_T 20 = (rb_T 16).drop 4 := rfl
  rw [ex_cut 4, hd]
  have hl : (liveIn [1, 2, 3, 4, 10, 16, 25, 27, 29, 165] ((rb_T 16).drop 4)).all (([1, 2, 3, 4, 10, 16, 25, 27, 29, 152] : List Nat).contains ·) = true := by kernel_rfl
  generalize (rb_T 16).drop 4 = tl at hl ⊢
  cases a
  · simp only [rb_T, opsOf, W9Fa, EXA, Nat.reduceEqDiff, reduceIte, reduceCtorEq, Nat.reduceAdd, Nat.reduceLeDiff, Nat.reduceSub, Nat.reduceMul, Int.reduceEq, Int.reduceBEq, Int.reduceBNe, Int.reduceLT, Int.reduceLE, Nat.reduceLT, VX, readAt_some, Bool.false_or]
    rw [ex_prune [1, 2, 3, 4, 10, 16, 25, 27, 29, 152] hl]
    simp only [EXA, Nat.reduceEqDiff, reduceIte, reduceCtorEq, Nat.reduceAdd, Nat.reduceLeDiff, Nat.reduceSub, Nat.reduceMul, Int.reduceEq, Int.reduceBEq, Int.reduceBNe, Int.reduceLT, Int.reduceLE, Nat.reduceLT, Bool.false_or]
  · simp only [rb_T, opsOf, W9Fa, EXA, Nat.reduceEqDiff, reduceIte, reduceCtorEq, Nat.reduceAdd, Nat.reduceLeDiff, Nat.reduceSub, Nat.reduceMul, Int.reduceEq, Int.reduceBEq, Int.reduceBNe, Int.reduceLT, Int.reduceLE, Nat.reduceLT, VX, readAt_some, Bool.true_or]
    rw [ex_prune [1, 2, 3, 4, 10, 16, 25, 27, 29, 152] hl]
    simp only [EXA, Nat.reduceEqDiff, reduceIte, reduceCtorEq, Nat.reduceAdd, Nat.reduceLeDiff, Nat.reduceSub, Nat.reduceMul, Int.reduceEq, Int.reduceBEq, Int.reduceBNe, Int.reduceLT, Int.reduceLE, Nat.reduceLT, Bool.true_or]
theorem rb_6  (a : Bool) : Ex ipU gU (.ops (rb_T 20) :: .code (.keep [1, 2, 3, 4, 10, 16, 25, 27, 29, 165] c) :: k) [(1, .str room), (2, .str user), (3, .str to), (4, .str server), (10, .ptr i 0), (16, .ptr h 0), (25, .vsl (p.map .str) none), (27, .vsl (a'.map .str) none), (29, .int .i64 d), (152, .bool a)] σ Q ↔ Ex ipU gU (.ops (rb_T 24) :: .code (.keep [1, 2, 3, 4, 10, 16, 25, 27, 29, 165] c) :: k) [(1, .str room), (2, .str user), (3, .str to), (4, .str server), (10, .ptr i 0), (16, .ptr h 0), (25, .vsl (p.map .str) none), (27, .vsl (a'.map .str) none), (29, .int .i64 d), (156, .bool (a || decide (d < 0)))] σ Q := by
  have hd : rb_T 24 = (rb_T 20).drop 4 := rfl
  rw [ex_cut 4, hd]
  have hl : (liveIn [1, 2, 3, 4, 10, 16, 25, 27, 29, 165] ((rb_T 20).drop 4)).all (([1, 2, 3, 4, 10, 16, 25, 27, 29, 156] : List Nat).contains ·) = true := by kernel_rfl
  generalize (rb_T 20).drop 4 = tl at hl ⊢
  cases a
  · simp only [rb_T, opsOf, W9Fa, EXA, Nat.reduceEqDiff, reduceIte, reduceCtorEq, Nat.reduceAdd, Nat.reduceLeDiff, Nat.reduceSub, Nat.reduceMul, Int.reduceEq, Int.reduceBEq, Int.reduceBNe, Int.reduceLT, Int.reduceLE, Nat.reduceLT, VX, readAt_some, Bool.false_or]
    rw [ex_prune [1, 2, 3, 4, 10, 16, 25, 27, 29, 156] hl]
    simp only [EXA, Nat.reduceEqDiff, reduceIte, reduceCtorEq, Nat.reduceAdd, Nat.reduceLeDiff, Nat.reduceSub, Nat.reduceMul, Int.reduceEq, Int.reduceBEq, Int.reduceBNe, Int.reduceLT, Int.reduceLE, Nat.reduceLT, Bool.false_or]
  · simp only [rb_T, opsOf, W9Fa, EXA, Nat.reduceEqDiff, reduceIte, reduceCtorEq, Nat.reduceAdd, Nat.reduceLeDiff, Nat.reduceSub, Nat.reduceMul, Int.reduceEq, Int.reduceBEq, Int.reduceBNe, Int.reduceLT, Int.reduceLE, Nat.reduceLT, VX, readAt_some, Bool.true_or]
    rw [ex_prune [1, 2, 3, 4, 10, 16, 25, 27, 29, 156] hl]
    simp only [EXA, Nat.reduceEqDiff, reduceIte, reduceCtorEq, Nat.reduceAdd, Nat.reduceLeDiff, Nat.reduceSub, Nat.reduceMul, Int.reduceEq, Int.reduceBEq, Int.reduceBNe, Int.reduceLT, Int.reduceLE, Nat.reduceLT, Bool.true_or]
theorem rb_7  (a : Bool) : Ex ipU gU (.ops (rb_T 24) :: .code (.keep [1, 2, 3, 4, 10, 16, 25, 27, 29, 165] c) :: k) [(1, .str room), (2, .str user), (3, .str to), (4, .str server), (10, .ptr i 0), (16, .ptr h 0), (25, .vsl (p.map .str) none), (27, .vsl (a'.map .str) none), (29, .int .i64 d), (156, .bool a)] σ Q ↔ Ex ipU gU (.ops (rb_T 29) :: .code (.keep [1, 2, 3, 4, 10, 16, 25, 27, 29, 165] c) :: k) [(1, .str room), (2, .str user), (3, .str to), (4, .str server), (10, .ptr i 0), (16, .ptr h 0), (25, .vsl (p.map .str) none), (27, .vsl (a'.map .str) none), (29, .int .i64 d), (161, .bool (a || decide ((p.length : Int) < 1)))] σ Q := by
  have hd : rb_T 29 = (rb_T 24).drop 5 := rfl
  rw [ex_cut 5, hd]
  have hl : (liveIn [1, 2, 3, 4, 10, 16, 25, 27, 29, 165] ((rb_T 24).drop 5)).all (([1, 2, 3, 4, 10, 16, 25, 27, 29, 161] : List Nat).contains ·) = true := by kernel_rfl
  generalize (rb_T 24).drop 5 = tl at hl ⊢
  cases a
  · simp only [rb_T, opsOf, W9Fa, EXA, Nat.reduceEqDiff, reduceIte, reduceCtorEq, Nat.reduceAdd, Nat.reduceLeDiff, Nat.reduceSub, Nat.reduceMul, Int.reduceEq, Int.reduceBEq, Int.reduceBNe, Int.reduceLT, Int.reduceLE, Nat.reduceLT, VX, readAt_some, List.length_map, Bool.false_or]
    rw [ex_prune [1, 2, 3, 4, 10, 16, 25, 27, 29, 161] hl]
    simp only [EXA, Nat.reduceEqDiff, reduceIte, reduceCtorEq, Nat.reduceAdd, Nat.reduceLeDiff, Nat.reduceSub, Nat.reduceMul, Int.reduceEq, Int.reduceBEq, Int.reduceBNe, Int.reduceLT, Int.reduceLE, Nat.reduceLT, Bool.false_or]
  · simp only [rb_T, opsOf, W9Fa, EXA, Nat.reduceEqDiff, reduceIte, reduceCtorEq, Nat.reduceAdd, Nat.reduceLeDiff, Nat.reduceSub, Nat.reduceMul, Int.reduceEq, Int.reduceBEq, Int.reduceBNe, Int.reduceLT, Int.reduceLE, Nat.reduceLT, VX, readAt_some, Bool.true_or]
    rw [ex_prune [1, 2, 3, 4, 10, 16, 25, 27, 29, 161] hl]
    simp only [EXA, Nat.reduceEqDiff, reduceIte, reduceCtorEq, Nat.reduceAdd, Nat.reduceLeDiff, Nat.reduceSub, Nat.reduceMul, Int.reduceEq, Int.reduceBEq, Int.reduceBNe, Int.reduceLT, Int.reduceLE, Nat.reduceLT, Bool.true_or]
theorem rb_8  (a : Bool) : Ex ipU gU (.ops (rb_T 29) :: .code (.keep [1, 2, 3, 4, 10, 16, 25, 27, 29, 165] c) :: k) [(1, .str room), (2, .str user), (3, .str to), (4, .str server), (10, .ptr i 0), (16, .ptr h 0), (25, .vsl (p.map .str) none), (27, .vsl (a'.map .str) none), (29, .int .i64 d), (161, .bool a)] σ Q ↔ Ex ipU gU (.ops (rb_T 33) :: .code (.keep [1, 2, 3, 4, 10, 16, 25, 27, 29, 165] c) :: k) [(1, .str room), (2, .str user), (3, .str to), (4, .str server), (10, .ptr i 0), (16, .ptr h 0), (25, .vsl (p.map .str) none), (27, .vsl (a'.map .str) none), (29, .int .i64 d), (165, .bool (a || decide ((a'.length : Int) < 1)))] σ Q := by
  have hd : rb_T 33 = (rb_T 29).drop 4 := rfl
  rw [ex_cut 4, hd]
  have hl : (liveIn [1, 2, 3, 4, 10, 16, 25, 27, 29, 165] ((rb_T 29).drop 4)).all (([1, 2, 3, 4, 10, 16, 25, 27, 29, 165] : List Nat).contains ·) = true := by kernel_rfl
  generalize (rb_T 29).drop 4 = tl at hl ⊢
  cases a
  · simp only [rb_T, opsOf, W9Fa, EXA, Nat.reduceEqDiff, reduceIte, reduceCtorEq, Nat.reduceAdd, Nat.reduceLeDiff, Nat.reduceSub, Nat.reduceMul, Int.reduceEq, Int.reduceBEq, Int.reduceBNe, Int.reduceLT, Int.reduceLE, Nat.reduceLT, VX, readAt_some, List.length_map, Bool.false_or]
    rw [ex_prune [1, 2, 3, 4, 10, 16, 25, 27, 29, 165] hl]
    simp only [EXA, Nat.reduceEqDiff, reduceIte, reduceCtorEq, Nat.reduceAdd, Nat.reduceLeDiff, Nat.reduceSub, Nat.reduceMul, Int.reduceEq, Int.reduceBEq, Int.reduceBNe, Int.reduceLT, Int.reduceLE, Nat.reduceLT, Bool.false_or]
  · simp only [rb_T, opsOf, W9Fa, EXA, Nat.reduceEqDiff, reduceIte, reduceCtorEq, Nat.reduceAdd, Nat.reduceLeDiff, Nat.reduceSub, Nat.reduceMul, Int.reduceEq, Int.reduceBEq, Int.reduceBNe, Int.reduceLT, Int.reduceLE, Nat.reduceLT, VX, readAt_some, Bool.true_or]
    rw [ex_prune [1, 2, 3, 4, 10, 16, 25, 27, 29, 165] hl]
    simp only [EXA, Nat.reduceEqDiff, reduceIte, reduceCtorEq, Nat.reduceAdd, Nat.reduceLeDiff, Nat.reduceSub, Nat.reduceMul, Int.reduceEq, Int.reduceBEq, Int.reduceBNe, Int.reduceLT, Int.reduceLE, Nat.reduceLT, Bool.true_or]
abbrev rcT (n : Nat) : List IOper := (opsOf F122_63).drop n
theorem rc1  : Ex ipU gU (.ops (opsOf F122_63) :: .code (.keep [1, 2, 10, 16, 25, 27, 29, 195] c) :: k) [(1, .str room), (2, .str user), (3, .str to), (4, .str server), (10, .ptr i 0), (16, .ptr h 0), (25, .vsl (p.map .str) none), (27, .vsl (a'.map .str) none), (29, .int .i64 d), (31, .ptr g 0), (34, .str s34), (35, .bool b35)] σ Q ↔ Ex ipU gU (.ops (rcT 3) :: .code (.keep [1, 2, 10, 16, 25, 27, 29, 195] c) :: k) [(1, .str room), (2, .str user), (4, .str server), (10, .ptr i 0), (16, .ptr h 0), (25, .vsl (p.map .str) none), (27, .vsl (a'.map .str) none), (29, .int .i64 d), (31, .ptr g 0), (34, .str s34), (35, .bool b35), (182, .bool (!(to == kJoin4)))] σ Q := by
  rw [ex_cut 3]
  have hl : (liveIn [1, 2, 10, 16, 25, 27, 29, 195] (rcT 3)).all (([1, 2, 4, 10, 16, 25, 27, 29, 31, 34, 35, 182] : List Nat).contains ·) = true := by kernel_rfl
  unfold rcT at hl ⊢
  generalize (opsOf F122_63).drop 3 = tl at hl ⊢
  simp only [opsOf, W9Fa, EXA, Nat.reduceEqDiff, reduceIte, reduceCtorEq, Nat.reduceAdd, Nat.reduceLeDiff, Nat.reduceSub, Nat.reduceMul, Int.reduceEq, Int.reduceBEq, Int.reduceBNe, Int.reduceLT, Int.reduceLE, Nat.reduceLT, VX, readAt_some]
  rw [ex_prune [1, 2, 4, 10, 16, 25, 27, 29, 31, 34, 35, 182] hl]
  simp only [EXA, Nat.reduceEqDiff, reduceIte, reduceCtorEq, Nat.reduceAdd, Nat.reduceLeDiff, Nat.reduceSub, Nat.reduceMul, Int.reduceEq, Int.reduceBEq, Int.reduceBNe, Int.reduceLT, Int.reduceLE, Nat.reduceLT]
theorem rc2  (h31 : look σ.m g = some (.own [.int .i64 x.kind, .int .i64 x.n, .str x.s, .vsl (x.l.map V.enc) none, .vsl (x.m.map memE) none])) (a : Bool) : Ex ipU gU (.ops (rcT 3) :: .code (.keep [1, 2, 10, 16, 25, 27, 29, 195] c) :: k) [(1, .str room), (2, .str user), (4, .str server), (10, .ptr i 0), (16, .ptr h 0), (25, .vsl (p.map .str) none), (27, .vsl (a'.map .str) none), (29, .int .i64 d), (31, .ptr g 0), (34, .str s34), (35, .bool b35), (182, .bool a)] σ Q ↔ Ex ipU gU (.ops (rcT 8) :: .code (.keep [1, 2, 10, 16, 25, 27, 29, 195] c) :: k) [(1, .str room), (2, .str user), (4, .str server), (10, .ptr i 0), (16, .ptr h 0), (25, .vsl (p.map .str) none), (27, .vsl (a'.map .str) none), (29, .int .i64 d), (34, .str s34), (35, .bool b35), (187, .bool (a || (x.kind != 3)))] σ Q := by
  have hd : rcT 8 = (rcT 3).drop 5 := rfl
  rw [ex_cut 5, hd]
  have hl : (liveIn [1, 2, 10, 16, 25, 27, 29, 195] ((rcT 3).drop 5)).all (([1, 2, 4, 10, 16, 25, 27, 29, 34, 35, 187] : List Nat).contains ·) = true := by kernel_rfl
  generalize (rcT 3).drop 5 = tl at hl ⊢
  cases a
  · simp only [rcT, opsOf, W9Fa, EXA, Nat.reduceEqDiff, reduceIte, reduceCtorEq, Nat.reduceAdd, Nat.reduceLeDiff, Nat.reduceSub, Nat.reduceMul, Int.reduceEq, Int.reduceBEq, Int.reduceBNe, Int.reduceLT, Int.reduceLE, Nat.reduceLT, VX, readAt_some, h31, Bool.false_or]
    rw [ex_prune [1, 2, 4, 10, 16, 25, 27, 29, 34, 35, 187] hl]
    simp only [EXA, Nat.reduceEqDiff, reduceIte, reduceCtorEq, Nat.reduceAdd, Nat.reduceLeDiff, Nat.reduceSub, Nat.reduceMul, Int.reduceEq, Int.reduceBEq, Int.reduceBNe, Int.reduceLT, Int.reduceLE, Nat.reduceLT, Bool.false_or]
  · simp only [rcT, opsOf, W9Fa, EXA, Nat.reduceEqDiff, reduceIte, reduceCtorEq, Nat.reduceAdd, Nat.reduceLeDiff, Nat.reduceSub, Nat.reduceMul, Int.reduceEq, Int.reduceBEq, Int.reduceBNe, Int.reduceLT, Int.reduceLE, Nat.reduceLT, VX, readAt_some, Bool.true_or]
    rw [ex_prune [1, 2, 4, 10, 16, 25, 27, 29, 34, 35, 187] hl]
    simp only [EXA, Nat.reduceEqDiff, reduceIte, reduceCtorEq, Nat.reduceAdd, Nat.reduceLeDiff, Nat.reduceSub, Nat.reduceMul, Int.reduceEq, Int.reduceBEq, Int.reduceBNe, Int.reduceLT, Int.reduceLE, Nat.reduceLT, Bool.true_or]
theorem rc3  (a : Bool) : Ex ipU gU (.ops (rcT 8) :: .code (.keep [1, 2, 10, 16, 25, 27, 29, 195] c) :: k) [(1, .str room), (2, .str user), (4, .str server), (10, .ptr i 0), (16, .ptr h 0), (25, .vsl (p.map .str) none), (27, .vsl (a'.map .str) none), (29, .int .i64 d), (34, .str s34), (35, .bool b35), (187, .bool a)] σ Q ↔ Ex ipU gU (.ops (rcT 12) :: .code (.keep [1, 2, 10, 16, 25, 27, 29, 195] c) :: k) [(1, .str room), (2, .str user), (4, .str server), (10, .ptr i 0), (16, .ptr h 0), (25, .vsl (p.map .str) none), (27, .vsl (a'.map .str) none), (29, .int .i64 d), (34, .str s34), (191, .bool (a || !b35))] σ Q := by
  have hd : rcT 12 = (rcT 8).drop 4 := rfl
  rw [ex_cut 4, hd]
  have hl : (liveIn [1, 2, 10, 16, 25, 27, 29, 195] ((rcT 8).drop 4)).all (([1, 2, 4, 10, 16, 25, 27, 29, 34, 191] : List Nat).contains ·) = true := by kernel_rfl
  generalize (rcT 8).drop 4 = tl at hl ⊢
  cases a
  · simp only [rcT, opsOf, W9Fa, EXA, Nat.reduceEqDiff, reduceIte, reduceCtorEq, Nat.reduceAdd, Nat.reduceLeDiff, Nat.reduceSub, Nat.reduceMul, Int.reduceEq, Int.reduceBEq, Int.reduceBNe, Int.reduceLT, Int.reduceLE, Nat.reduceLT, VX, readAt_some, Bool.false_or]
    rw [ex_prune [1, 2, 4, 10, 16, 25, 27, 29, 34, 191] hl]
    simp only [EXA, Nat.reduceEqDiff, reduceIte, reduceCtorEq, Nat.reduceAdd, Nat.reduceLeDiff, Nat.reduceSub, Nat.reduceMul, Int.reduceEq, Int.reduceBEq, Int.reduceBNe, Int.reduceLT, Int.reduceLE, Nat.reduceLT, Bool.false_or]
  · simp only [rcT, opsOf, W9Fa, EXA, Nat.reduceEqDiff, reduceIte, reduceCtorEq, Nat.reduceAdd, Nat.reduceLeDiff, Nat.reduceSub, Nat.reduceMul, Int.reduceEq, Int.reduceBEq, Int.reduceBNe, Int.reduceLT, Int.reduceLE, Nat.reduceLT, VX, readAt_some, Bool.true_or]
    rw [ex_prune [1, 2, 4, 10, 16, 25, 27, 29, 34, 191] hl]
    simp only [EXA, Nat.reduceEqDiff, reduceIte, reduceCtorEq, Nat.reduceAdd, Nat.reduceLeDiff, Nat.reduceSub, Nat.reduceMul, Int.reduceEq, Int.reduceBEq, Int.reduceBNe, Int.reduceLT, Int.reduceLE, Nat.reduceLT, Bool.true_or]
theorem rc4  (a : Bool) : Ex ipU gU (.ops (rcT 12) :: .code (.keep [1, 2, 10, 16, 25, 27, 29, 195] c) :: k) [(1, .str room), (2, .str user), (4, .str server), (10, .ptr i 0), (16, .ptr h 0), (25, .vsl (p.map .str) none), (27, .vsl (a'.map .str) none), (29, .int .i64 d), (34, .str s34), (191, .bool a)] σ Q ↔ Ex ipU gU (.ops (rcT 16) :: .code (.keep [1, 2, 10, 16, 25, 27, 29, 195] c) :: k) [(1, .str room), (2, .str user), (10, .ptr i 0), (16, .ptr h 0), (25, .vsl (p.map .str) none), (27, .vsl (a'.map .str) none), (29, .int .i64 d), (195, .bool (a || !(s34 == server)))] σ Q := by
  have hd : rcT 16 = (rcT 12).drop 4 := rfl
  rw [ex_cut 4, hd]
  have hl : (liveIn [1, 2, 10, 16, 25, 27, 29, 195] ((rcT 12).drop 4)).all (([1, 2, 10, 16, 25, 27, 29, 195] : List Nat).contains ·) = true := by kernel_rfl
  generalize (rcT 12).drop 4 = tl at hl ⊢
  cases a
  · simp only [rcT, opsOf, W9Fa, EXA, Nat.reduceEqDiff, reduceIte, reduceCtorEq, Nat.reduceAdd, Nat.reduceLeDiff, Nat.reduceSub, Nat.reduceMul, Int.reduceEq, Int.reduceBEq, Int.reduceBNe, Int.reduceLT, Int.reduceLE, Nat.reduceLT, VX, readAt_some, Bool.false_or]
    rw [ex_prune [1, 2, 10, 16, 25, 27, 29, 195] hl]
    simp only [EXA, Nat.reduceEqDiff, reduceIte, reduceCtorEq, Nat.reduceAdd, Nat.reduceLeDiff, Nat.reduceSub, Nat.reduceMul, Int.reduceEq, Int.reduceBEq, Int.reduceBNe, Int.reduceLT, Int.reduceLE, Nat.reduceLT, Bool.false_or]
  · simp only [rcT, opsOf, W9Fa, EXA, Nat.reduceEqDiff, reduceIte, reduceCtorEq, Nat.reduceAdd, Nat.reduceLeDiff, Nat.reduceSub, Nat.reduceMul, Int.reduceEq, Int.reduceBEq, Int.reduceBNe, Int.reduceLT, Int.reduceLE, Nat.reduceLT, VX, readAt_some, Bool.true_or]
    rw [ex_prune [1, 2, 10, 16, 25, 27, 29, 195] hl]
    simp only [EXA, Nat.reduceEqDiff, reduceIte, reduceCtorEq, Nat.reduceAdd, Nat.reduceLeDiff, Nat.reduceSub, Nat.reduceMul, Int.reduceEq, Int.reduceBEq, Int.reduceBNe, Int.reduceLT, Int.reduceLE, Nat.reduceLT, Bool.true_or]
end
end Go.Ab
