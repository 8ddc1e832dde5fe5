/- What functions of the program, and of the library, answer. Conditions: none. -/
import Derived.Test.YtgckcnggblomgaaGreatDoorLaw8
import Derived.Test.YtgckcnggblomgaaGreatDoorLaw4
set_option linter.unusedVariables false
set_option linter.unusedSimpArgs false
set_option linter.defProp false
/- Drafts of members, of the program and of the document. -/
namespace Go.Ab
set_option maxHeartbeats 1000000
def U11Fb := @F117.eq_1
def U11Fc := @F126.eq_1
set_option maxRecDepth 100000
def contentP (to by_ : Bs) : V := if by_ = [] then mapOf [(kMembership, tV3 to)] else setV (mapOf [(kMembership, tV3 to)]) kAuthd (tV3 by_)
def contentL (to by_ : Bs) : List Mem := if by_ = [] then [(kMembership, tV3 to)] else [(kMembership, tV3 to), (kAuthd, tV3 by_)]
theorem map_one1 (k : Bs) (x : V) : mapOf [(k, x)] = V.mk 5 0 [] [] [(k, x)] := rfl
theorem place_mem (to : Bs) : placeV (V.mk 5 0 [] [] [(kMembership, tV3 to)]) kAuthd = (0, false) := by
  have hb : bsF [(kMembership, tV3 to)] kAuthd 0 1 = 0 := by
    rw [bsF, if_pos (by omega)]
    have : bytesLess (keyAt [(kMembership, tV3 to)] ((0 + 1) / 2)) kAuthd = false := by
      show bytesLess kMembership kAuthd = false
      decide
    rw [if_neg (by simp [this]), bsF, if_neg (by simp)]
  have hne : (kMembership == kAuthd) = false := by decide
  show (bsF [(kMembership, tV3 to)] kAuthd 0 1, decide (bsF [(kMembership, tV3 to)] kAuthd 0 1 < 1) && (keyAt [(kMembership, tV3 to)] (bsF [(kMembership, tV3 to)] kAuthd 0 1) == kAuthd)) = _
  rw [hb]
  show (0, true && (kMembership == kAuthd)) = _
  rw [hne]; rfl
theorem content_eq (to by_ : Bs) : contentP to by_ = V.mk 5 0 [] [] (refMapL (contentL to by_)) := by
  unfold contentP contentL
  by_cases h : by_ = []
  · rw [if_pos h, if_pos h]; rfl
  · rw [if_neg h, if_neg h, map_one1]
    unfold setV
    rw [if_pos (show (V.mk 5 0 [] [] [(kMembership, tV3 to)]).kind = 5 from rfl)]
    simp only [place_mem]
    have h1 : bytesLess kMembership kAuthd = false := by decide
    have h2 : (kMembership == kAuthd) = false := by decide
    show V.mk 5 0 [] [] (setM [(kMembership, tV3 to)] 0 false kAuthd (tV3 by_)) = V.mk 5 0 [] [] (insM (insM [] (kMembership, tV3 to)) (kAuthd, tV3 by_))
    have e1 : insM [] (kMembership, tV3 to) = [(kMembership, tV3 to)] := rfl
    rw [e1]
    have hp : posM [(kMembership, tV3 to)] kAuthd = 0 := by
      unfold posM
      rw [List.takeWhile_cons]
      simp [h1]
    have hh : hitM [(kMembership, tV3 to)] kAuthd = false := by
      unfold hitM
      rw [hp]
      exact h2
    unfold insM
    simp only [hp, hh]
    rfl
theorem r_content (to by_ : Bs) : cR 126 [.str to, .str by_] = some (contentP to by_).enc := by
  have h18 : ∀ s, cR 18 [.str s] = some (tV3 s).enc := r_Text
  have h20 := r_Map [(kMembership, tV3 to)] (by simp)
  have h142 := r_Set (mapOf [(kMembership, tV3 to)]) kAuthd (tV3 by_) (by rw [map_one1]; simp [V.m_mk, lim])
  obtain ⟨r, hr⟩ : ∃ r, r = (contentP to by_).enc := ⟨_, rfl⟩
  rw [← hr]
  unfold contentP at hr
  simp only [List.map_cons, List.map_nil] at h20
  generalize mapOf [(kMembership, tV3 to)] = M at h20 h142 hr
  refine cR_of (F := F126) rfl ?_
  cases hb : by_ == [] with
  | true =>
    have hb' : by_ = [] := by simpa using hb
    rw [if_pos hb'] at hr
    simp only [U11Fc, EXA, Nat.reduceEqDiff, reduceIte, reduceCtorEq, Nat.reduceAdd, Nat.reduceLeDiff, Nat.reduceSub, Nat.reduceMul, Int.reduceEq, Int.reduceBEq, Int.reduceBNe, Int.reduceLT, Int.reduceLE, Nat.reduceLT, VX, readAt_some, h18, h20, hb, hr]
  | false =>
    have hb' : by_ ≠ [] := by simpa using hb
    rw [if_neg hb'] at hr
    simp only [U11Fc, EXA, Nat.reduceEqDiff, reduceIte, reduceCtorEq, Nat.reduceAdd, Nat.reduceLeDiff, Nat.reduceSub, Nat.reduceMul, Int.reduceEq, Int.reduceBEq, Int.reduceBNe, Int.reduceLT, Int.reduceLE, Nat.reduceLT, VX, readAt_some, h18, h20, h142, hb, hr]
theorem contentP_sz (to by_ : Bs) : (contentP to by_).sz ≤ to.length + by_.length + 1000 := by
  rw [content_eq]
  unfold contentL
  by_cases h : by_ = []
  · rw [if_pos h]
    show (V.mk 5 0 [] [] [(kMembership, tV3 to)]).sz ≤ _
    simp only [V.sz, szL, szM, tV3, List.length_nil, List.length_cons]
    omega
  · rw [if_neg h]
    have h1 : bytesLess kMembership kAuthd = false := by decide
    have h2 : (kMembership == kAuthd) = false := by decide
    have hp : posM [(kMembership, tV3 to)] kAuthd = 0 := by
      unfold posM
      rw [List.takeWhile_cons]
      simp [h1]
    have hh : hitM [(kMembership, tV3 to)] kAuthd = false := by
      unfold hitM
      rw [hp]
      exact h2
    have e : refMapL [(kMembership, tV3 to), (kAuthd, tV3 by_)] = [(kAuthd, tV3 by_), (kMembership, tV3 to)] := by
      show insM (insM [] (kMembership, tV3 to)) (kAuthd, tV3 by_) = _
      have e1 : insM [] (kMembership, tV3 to) = [(kMembership, tV3 to)] := rfl
      rw [e1]
      unfold insM
      simp only [hp, hh]
      rfl
    rw [e]
    simp only [V.sz, szL, szM, tV3, List.length_nil, List.length_cons]
    omega
def draft0 (l : List Ev) (last : List Bs) (room sender key to by_ : Bs) : Ev := ⟨V.zero, [], room, kMember, sender, key, true, 0, deeper l, last, [], contentP to by_⟩
def draftE (l : List Ev) (last : List Bs) (room sender key to by_ : Bs) : Ev := { draft0 l last room sender key to by_ with auth := pickF l (needs (draft0 l last room sender key to by_)) }
theorem r_Draft (l : List Ev) (last : List Bs) (room sender key to by_ : Bs) (hl : l.length < big) (hla : last.length < lim) (hs : ∀ x ∈ l, x.prev.length < lim ∧ x.auth.length < lim) (ht : to.length < lim) (hb : by_.length < lim) :
    cR 116 [.vsl (l.map evE) none, .vsl (last.map .str) none, .str room, .str sender, .str key, .str to, .str by_] = some (evE (draftE l last room sender key to by_)) := by
  have h125 := r_deeper l hl
  have h66 := c_cloneS last
  have h126 := r_content to by_
  have hsz := contentP_sz to by_
  have h8 := r_pick l (draft0 l last room sender key to by_) (by show (contentP to by_).sz < big; unfold lim at ht hb; unfold big; omega) hl hs
  unfold draftE
  generalize hps : pickF l (needs (draft0 l last room sender key to by_)) = ps at h8 ⊢
  have h8' : cR 8 [.vsl (l.map evE) none, .agg [.int .i64 0, .int .i64 0, .str [], .vsl [] none, .vsl [] none, .str [], .str room, .str [109, 46, 114, 111, 111, 109, 46, 109, 101, 109, 98, 101, 114], .str sender, .str key, .bool true, .int .i64 0, .int .i64 (deeper l),
      .vsl (last.map .str) none, .vsl [] none, .int .i64 (contentP to by_).kind, .int .i64 (contentP to by_).n, .str (contentP to by_).s, .vsl ((contentP to by_).l.map V.enc) none, .vsl ((contentP to by_).m.map memE) none]] = some (.vsl (ps.map .str) none) := h8
  obtain ⟨r, hr⟩ : ∃ r, r = evE { draft0 l last room sender key to by_ with auth := ps } := ⟨_, rfl⟩
  rw [← hr]
  clear h8 hps
  unfold draft0 at hr
  generalize contentP to by_ = C at h126 h8' hr
  refine cR_of (F := F116) rfl ?_
  simp only [F116, EXA, Nat.reduceEqDiff, reduceIte, reduceCtorEq, Nat.reduceAdd, Nat.reduceLeDiff, Nat.reduceSub, Nat.reduceMul, Int.reduceEq, Int.reduceBEq, Int.reduceBNe, Int.reduceLT, Int.reduceLE, Nat.reduceLT, VX, readAt_some, h125, h66 _ hla, h126, h8']
  rw [hr]
  rfl
theorem r_refDraft (l : List Ev) (last : List Bs) (room sender key to by_ : Bs) (hl : l.length < big) (ht : to.length < lim) (hb : by_.length < lim) :
    cR 117 [.vsl (l.map evE) none, .vsl (last.map .str) none, .str room, .str sender, .str key, .str to, .str by_] = some (evE (draftE l last room sender key to by_)) := by
  have h129 := r_refDeeper l hl
  have hsz := contentP_sz to by_
  have h9 := r_refPick l (draft0 l last room sender key to by_) (by show (contentP to by_).sz < big; unfold lim at ht hb; unfold big; omega) hl
  have h127 : ∀ k s, cR 127 [.str k, .str s] = some (memE (k, tV3 s)) := r_textM
  have h128 := r_refMap (contentL to by_) (by unfold contentL; split <;> simp [lim])
  rw [← content_eq] at h128
  unfold draftE
  generalize hps : pickF l (needs (draft0 l last room sender key to by_)) = ps at h9 ⊢
  have h9' : cR 9 [.vsl (l.map evE) none, .agg [.int .i64 0, .int .i64 0, .str [], .vsl [] none, .vsl [] none, .str [], .str room, .str [109, 46, 114, 111, 111, 109, 46, 109, 101, 109, 98, 101, 114], .str sender, .str key, .bool true, .int .i64 0, .int .i64 (deeper l),
      .vsl (last.map .str) none, .vsl [] none, .int .i64 (contentP to by_).kind, .int .i64 (contentP to by_).n, .str (contentP to by_).s, .vsl ((contentP to by_).l.map V.enc) none, .vsl ((contentP to by_).m.map memE) none]] = some (.vsl (ps.map .str) none) := h9
  obtain ⟨r, hr⟩ : ∃ r, r = evE { draft0 l last room sender key to by_ with auth := ps } := ⟨_, rfl⟩
  rw [← hr]
  clear h9 hps
  unfold draft0 at hr
  generalize contentP to by_ = C at h128 h9' hr
  unfold contentL at h128
  refine cR_of (F := F117) rfl ?_
  cases hbb : by_ == [] with
  | true =>
    have hb' : by_ = [] := by simpa using hbb
    rw [if_pos hb'] at h128
    simp only [List.map_cons, List.map_nil] at h128
    simp only [U11Fb, EXA, Nat.reduceEqDiff, reduceIte, reduceCtorEq, Nat.reduceAdd, Nat.reduceLeDiff, Nat.reduceSub, Nat.reduceMul, Int.reduceEq, Int.reduceBEq, Int.reduceBNe, Int.reduceLT, Int.reduceLE, Nat.reduceLT, EXF, VX, readAt_some, h127, hbb, h128, h129, h9']
    rw [hr]
    rfl
  | false =>
    have hb' : by_ ≠ [] := by simpa using hbb
    rw [if_neg hb'] at h128
    have happ : appendTo ⟨1, [(0, .own [.int .i64 0, .int .i64 0, .str [], .nils, .nils, .str [], .str [], .str [], .str [], .str [], .bool false, .int .i64 0, .int .i64 0, .nils, .nils, .int .i64 0, .int .i64 0, .str [], .nils, .nils])]⟩ 6 96 (.vsl [memE (kMembership, tV3 to)] (some 1)) (memE (kAuthd, tV3 by_)).cells 1 =
        some (.sl 1 0 2 6 none, ⟨2, [(1, .own (LMem.cells [(kMembership, tV3 to), (kAuthd, tV3 by_)])), (0, .own [.int .i64 0, .int .i64 0, .str [], .nils, .nils, .str [], .str [], .str [], .str [], .str [], .bool false, .int .i64 0, .int .i64 0, .nils, .nils, .int .i64 0, .int .i64 0, .str [], .nils, .nils])]⟩) := by
      have h := (Gr.lit LMem ⟨1, [(0, .own [.int .i64 0, .int .i64 0, .str [], .nils, .nils, .str [], .str [], .str [], .str [], .str [], .bool false, .int .i64 0, .int .i64 0, .nils, .nils, .int .i64 0, .int .i64 0, .str [], .nils, .nils])]⟩ [(kMembership, tV3 to)]).push (a := (kAuthd, tV3 by_)) (bytes := 96) (by omega) (by simp [maxBytes])
      have hn : grNext LMem ⟨1, [(0, .own [.int .i64 0, .int .i64 0, .str [], .nils, .nils, .str [], .str [], .str [], .str [], .str [], .bool false, .int .i64 0, .int .i64 0, .nils, .nils, .int .i64 0, .int .i64 0, .str [], .nils, .nils])]⟩ (.vsl ([(kMembership, tV3 to)].map LMem.f) (some [(kMembership, tV3 to)].length)) [(kMembership, tV3 to)] [(kAuthd, tV3 by_)] = ⟨2, [(1, .own (LMem.cells [(kMembership, tV3 to), (kAuthd, tV3 by_)])), (0, .own [.int .i64 0, .int .i64 0, .str [], .nils, .nils, .str [], .str [], .str [], .str [], .str [], .bool false, .int .i64 0, .int .i64 0, .nils, .nils, .int .i64 0, .int .i64 0, .str [], .nils, .nils])]⟩ := by
        unfold grNext
        rw [← Lay.cells_append]; rfl
      rw [hn] at h
      exact h
    have hv : ∀ (n : Nat) (m : List (Nat × Blk)), readPtrF ⟨n, (1, .frz (LMem.cells [(kMembership, tV3 to), (kAuthd, tV3 by_)])) :: m⟩ (.sl 1 0 2 6 none) (some 0) = some (.vsl [memE (kMembership, tV3 to), memE (kAuthd, tV3 by_)] none) := fun n m =>
      view_row (L := LMem) (l := [(kMembership, tV3 to), (kAuthd, tV3 by_)]) rfl
    have hlo := memE_lo (kAuthd, tV3 by_)
    have hro := memE_ro (kAuthd, tV3 by_)
    generalize LMem.cells [(kMembership, tV3 to), (kAuthd, tV3 by_)] = D at happ hv
    simp only [List.map_cons, List.map_nil] at h128
    simp only [memE_cells] at happ hro
    simp only [U11Fb, EXA, Nat.reduceEqDiff, reduceIte, reduceCtorEq, Nat.reduceAdd, Nat.reduceLeDiff, Nat.reduceSub, Nat.reduceMul, Int.reduceEq, Int.reduceBEq, Int.reduceBNe, Int.reduceLT, Int.reduceLE, Nat.reduceLT, EXF, VX, readAt_some, h127, hbb, hlo, hro, happ, hv, h128, h129, h9']
    rw [hr]
    rfl
end Go.Ab
/- What is replied of a draft; TmplDrafts: true of any state and any names. -/
namespace Go.Ab
set_option maxHeartbeats 1000000
set_option maxRecDepth 100000
abbrev kEvent : Bs := [101, 118, 101, 110, 116]
abbrev kVersion : Bs := [114, 111, 111, 109, 95, 118, 101, 114, 115, 105, 111, 110]
abbrev sTen : Bs := [49, 48]
def replyP (e : Ev) : V := mapOf [(kEvent, dropV (mapOf (makeL e)) [kTs]), (kVersion, tV3 sTen)]
def replyR (e : Ev) : V := V.mk 5 0 [] [] (refMapL [(kVersion, tV3 sTen), (kEvent, keepV (V.mk 5 0 [] [] (refMapL (makeL e))) [kTs] false)])
theorem drop_keep (m : List Mem) (keys : List Bs) : dropV (V.mk 5 0 [] [] m) keys = keepV (V.mk 5 0 [] [] m) keys false := by
  unfold dropV withoutV keepV
  have h : (V.mk 5 0 [] [] m).kind = 5 := rfl
  rw [if_pos h, if_pos h]
  show V.mk 5 0 [] [] (m.filter fun x => !hasS keys x.1) = V.mk 5 0 [] [] (m.filter fun x => hasS keys x.1 == false)
  congr 1
  congr 1
  funext x
  cases hasS keys x.1 <;> rfl
theorem two_eq (X Y : V) : mapOf [(kEvent, X), (kVersion, Y)] = V.mk 5 0 [] [] (refMapL [(kVersion, Y), (kEvent, X)]) := by kernel_rfl
theorem reply_eq (e : Ev) : replyP e = replyR e := by
  unfold replyP replyR
  rw [two_eq, make_eq, drop_keep]
theorem makeL_len (e : Ev) : (makeL e).length ≤ 9 := by unfold makeL make8; split <;> simp
theorem mapOf_m (l : List Mem) : (mapOf l).m.length ≤ l.length := by
  have h1 := dedupM_len (sortM l)
  have h2 := sortM_len l
  show (dedupM (sortM l)).length ≤ _
  omega
theorem foldl_ins_len : ∀ (l acc : List Mem), (l.foldl insM acc).length ≤ acc.length + l.length
  | [], acc => by simp
  | m :: l, acc => by
    have h1 := foldl_ins_len l (insM acc m)
    have h2 := insM_len acc m
    simp only [List.foldl_cons, List.length_cons]
    omega
theorem refMapL_len (l : List Mem) : (refMapL l).length ≤ l.length := by
  have := foldl_ins_len l []
  unfold refMapL
  simpa using this
/- How great they are. -/
theorem szM_append : ∀ (l m : List Mem), szM (l ++ m) = szM l + szM m
  | [], m => by simp [szM]
  | (k, v) :: l, m => by simp only [List.cons_append, szM, szM_append l m]; omega
theorem szM_set : ∀ (l : List Mem) (i : Nat) (m : Mem), szM (l.set i m) ≤ szM l + (m.1.length + m.2.sz)
  | [], i, m => by simp [szM]
  | (k, v) :: l, 0, m => by obtain ⟨a, b⟩ := m; simp only [List.set_cons_zero, szM]; omega
  | (k, v) :: l, i + 1, m => by have := szM_set l i m; simp only [List.set_cons_succ, szM]; omega
theorem szM_ins (acc : List Mem) (m : Mem) : szM (insM acc m) ≤ szM acc + (m.1.length + m.2.sz) := by
  unfold insM
  split
  · exact szM_set acc _ m
  · have e : szM acc = szM (acc.take (posM acc m.1)) + szM (acc.drop (posM acc m.1)) := by rw [← szM_append, List.take_append_drop]
    obtain ⟨a, b⟩ := m
    rw [szM_append]
    simp only [szM]
    simp only at e
    omega
theorem szM_foldl : ∀ (l acc : List Mem), szM (l.foldl insM acc) ≤ szM acc + szM l
  | [], acc => by simp [szM]
  | (k, v) :: l, acc => by
    have h1 := szM_foldl l (insM acc (k, v))
    have h2 := szM_ins acc (k, v)
    simp only [List.foldl_cons, szM]
    simp only at h2
    omega
theorem szM_refMap (l : List Mem) : szM (refMapL l) ≤ szM l := by
  have := szM_foldl l []
  unfold refMapL
  simpa [szM] using this
theorem szM_filter (p : Mem → Bool) : ∀ l : List Mem, szM (l.filter p) ≤ szM l
  | [] => by simp [szM]
  | (k, v) :: l => by
    have := szM_filter p l
    rw [List.filter_cons]
    split <;> simp only [szM] <;> omega
theorem szL_texts : ∀ l : List Bs, szL (l.map tV3) = strsSz l + l.length
  | [] => by simp [szL, strsSz]
  | s :: l => by
    have h := szL_texts l
    have e : (tV3 s).sz = s.length + 1 := by simp [tV3, V.sz, szL, szM]
    simp only [List.map_cons, szL, strsSz, List.length_cons, h, e]; omega
theorem lV_sz (l : List Bs) : (lV l).sz = strsSz l + l.length + 1 := by
  simp only [lV, V.sz, szL_texts, szM, List.length_nil]; omega
theorem makeL_sz (e : Ev) : szM (makeL e) ≤ e.sz + e.key.length + 200 := by
  have h1 : ∀ s, (tV3 s).sz = s.length + 1 := fun s => by simp [tV3, V.sz, szL, szM]
  have h2 : ∀ n, (iV2 n).sz = 1 := fun n => by simp [iV2, V.sz, szL, szM]
  have h3 : szM (make8 e) ≤ e.sz + 150 := by
    unfold make8 Ev.sz
    simp only [szM, h1, h2, lV_sz, List.length_cons, List.length_nil]
    omega
  unfold makeL
  split
  · rw [szM_append]
    simp only [szM, h1, List.length_cons, List.length_nil]
    omega
  · omega
theorem replyR_sz (e : Ev) : (replyR e).sz ≤ e.sz + e.key.length + 300 := by
  have h1 := szM_refMap [(kVersion, tV3 sTen), (kEvent, keepV (V.mk 5 0 [] [] (refMapL (makeL e))) [kTs] false)]
  have h2 := szM_refMap (makeL e)
  have h3 := makeL_sz e
  have h4 : (keepV (V.mk 5 0 [] [] (refMapL (makeL e))) [kTs] false).sz ≤ szM (refMapL (makeL e)) + 1 := by
    unfold keepV
    rw [if_pos (show (V.mk 5 0 [] [] (refMapL (makeL e))).kind = 5 from rfl)]
    have := szM_filter (fun x => hasS [kTs] x.1 == false) (refMapL (makeL e))
    have e1 : (V.mk 5 0 [] [] ((V.mk 5 0 [] [] (refMapL (makeL e))).m.filter fun x => hasS [kTs] x.1 == false)).sz = szM ((refMapL (makeL e)).filter fun x => hasS [kTs] x.1 == false) + 1 := by simp [V.sz, szL, V.m]
    rw [e1]; exact Nat.succ_le_succ this
  unfold replyR
  generalize keepV (V.mk 5 0 [] [] (refMapL (makeL e))) [kTs] false = D at h1 h4 ⊢
  have e2 : (V.mk 5 0 [] [] (refMapL [(kVersion, tV3 sTen), (kEvent, D)])).sz = szM (refMapL [(kVersion, tV3 sTen), (kEvent, D)]) + 1 := by simp [V.sz, szL]
  have e3 : szM [(kVersion, tV3 sTen), (kEvent, D)] = D.sz + 20 := by simp only [szM, List.length_cons, List.length_nil, tV3, V.sz, szL]; omega
  rw [e2]
  rw [e3] at h1
  omega
theorem r_Reply (e : Ev) (h1 : e.prev.length < lim) (h2 : e.auth.length < lim) : cR 118 [evE e] = some (replyP e).enc := by
  have a1 := r_Make e h1 h2
  have a2 := r_Drop (mapOf (makeL e)) [kTs] (by have := mapOf_m (makeL e); have := makeL_len e; unfold lim; omega) (by simp [big])
  have a3 : ∀ s, cR 18 [.str s] = some (tV3 s).enc := r_Text
  have a4 := r_Map [(kEvent, dropV (mapOf (makeL e)) [kTs]), (kVersion, tV3 sTen)] (by simp)
  obtain ⟨r, hr⟩ : ∃ r, r = (replyP e).enc := ⟨_, rfl⟩
  rw [← hr]
  unfold replyP at hr
  simp only [List.map_cons, List.map_nil] at a2 a4
  generalize dropV (mapOf (makeL e)) [kTs] = D at a2 a4 hr
  generalize mapOf [(kEvent, D), (kVersion, tV3 sTen)] = R at a4 hr
  generalize mapOf (makeL e) = M at a1 a2
  refine cR_of (F := F118) rfl ?_
  simp only [F118, EXA, Nat.reduceEqDiff, reduceIte, reduceCtorEq, Nat.reduceAdd, Nat.reduceLeDiff, Nat.reduceSub, Nat.reduceMul, Int.reduceEq, Int.reduceBEq, Int.reduceBNe, Int.reduceLT, Int.reduceLE, Nat.reduceLT, VX, readAt_some, evE_eta0, a1, a2, a3, a4, hr]
theorem r_refReply (e : Ev) (h1 : e.prev.length < lim) (h2 : e.auth.length < lim) : cR 119 [evE e] = some (replyR e).enc := by
  have a1 := r_refMake e h1 h2
  have a2 := r_Keep (V.mk 5 0 [] [] (refMapL (makeL e))) [kTs] false (by simp [big]) (by have := refMapL_len (makeL e); have := makeL_len e; show (refMapL (makeL e)).length < lim; unfold lim; omega)
  have a3 : ∀ k s, cR 127 [.str k, .str s] = some (memE (k, tV3 s)) := r_textM
  have a4 := r_refMap [(kVersion, tV3 sTen), (kEvent, keepV (V.mk 5 0 [] [] (refMapL (makeL e))) [kTs] false)] (by simp [lim])
  obtain ⟨r, hr⟩ : ∃ r, r = (replyR e).enc := ⟨_, rfl⟩
  rw [← hr]
  unfold replyR at hr
  simp only [List.map_cons, List.map_nil] at a2 a4
  generalize keepV (V.mk 5 0 [] [] (refMapL (makeL e))) [kTs] false = D at a2 a4 hr
  generalize V.mk 5 0 [] [] (refMapL [(kVersion, tV3 sTen), (kEvent, D)]) = R at a4 hr
  generalize V.mk 5 0 [] [] (refMapL (makeL e)) = M at a1 a2
  refine cR_of (F := F119) rfl ?_
  simp only [F119, EXA, Nat.reduceEqDiff, reduceIte, reduceCtorEq, Nat.reduceAdd, Nat.reduceLeDiff, Nat.reduceSub, Nat.reduceMul, Int.reduceEq, Int.reduceBEq, Int.reduceBNe, Int.reduceLT, Int.reduceLE, Nat.reduceLT, VX, readAt_some, evE_eta0, a1, a2, a3, a4, hr]
end Go.Ab
/- What the document tells of a draft: it is so. -/
namespace Go.Ab
set_option maxHeartbeats 1000000
set_option maxRecDepth 100000
theorem r_awake27 : cR 115 [] = some (.bool true) := cR_closed 100000 (by kernel_rfl)
end Go.Ab
/- TmplDrafts: true of any state and any names. -/
namespace Go.Ab
set_option maxHeartbeats 1000000
def U14Fa := @F114.eq_1
set_option maxRecDepth 100000
structure Nms where
  room : Bs
  sender : Bs
  key : Bs
  to : Bs
  by_ : Bs
def nmsE (n : Nms) : AV := .agg [.str n.room, .str n.sender, .str n.key, .str n.to, .str n.by_]
theorem pickF_sz (l : List Ev) : ∀ ns : List Slt, (pickF l ns).length ≤ ns.length ∧ strsSz (pickF l ns) ≤ ns.length * evsSz l
  | [] => by simp [pickF, strsSz]
  | s :: ns => by
    have ih := pickF_sz l ns
    rw [pickF_cons]
    have e : (ns.length + 1) * evsSz l = ns.length * evsSz l + evsSz l := by rw [Nat.add_mul]; omega
    simp only [List.length_cons]
    cases hf : l.find? (isAt s) with
    | none => simp only; omega
    | some y =>
      have hm := evsSz_mem (List.mem_of_find?_eq_some hf)
      have : y.id.length ≤ y.sz := by unfold Ev.sz; omega
      simp only [List.length_cons, strsSz]
      omega
theorem r_TmplDrafts (l : List Ev) (last : List Bs) (n : Nms) (h1 : evsSz l ≤ 1048576) (h2 : last.length + strsSz last ≤ 1048576) (h3 : n.room.length + n.sender.length + n.key.length + n.to.length + n.by_.length ≤ 1048576) :
    cR 114 [.vsl (l.map evE) none, .vsl (last.map .str) none, nmsE n] = some (.bool true) := by
  have hlen := evsSz_len l
  have hmem : ∀ x ∈ l, x.sz ≤ 1048576 := fun x hx => by have := evsSz_mem hx; omega
  have hs : ∀ x ∈ l, x.prev.length < lim ∧ x.auth.length < lim := fun x hx => by
    have h := hmem x hx
    unfold Ev.sz at h
    unfold lim; omega
  have hbl : ∀ x ∈ l, x.content.sz < big := fun x hx => by
    have h := hmem x hx
    unfold Ev.sz at h
    unfold big; omega
  have c2 := r_light l 30 hbl (by unfold big; omega)
  have c116 := r_Draft l last n.room n.sender n.key n.to n.by_ (by unfold big; omega) (by unfold lim; omega) hs (by unfold lim; omega) (by unfold lim; omega)
  have c117 := r_refDraft l last n.room n.sender n.key n.to n.by_ (by unfold big; omega) (by unfold lim; omega) (by unfold lim; omega)
  have hcs := contentP_sz n.to n.by_
  have hns := needs_len (draft0 l last n.room n.sender n.key n.to n.by_)
  have hps := pickF_sz l (needs (draft0 l last n.room n.sender n.key n.to n.by_))
  obtain ⟨d, hd⟩ : ∃ d, d = draftE l last n.room n.sender n.key n.to n.by_ := ⟨_, rfl⟩
  have hdv : d.v.sz = 1 := by rw [hd]; rfl
  have hdc : d.content.sz ≤ 2200000 := by rw [hd]; show (contentP n.to n.by_).sz ≤ _; omega
  have hdp : d.prev = last := by rw [hd]; rfl
  have hda : d.auth = pickF l (needs (draft0 l last n.room n.sender n.key n.to n.by_)) := by rw [hd]; rfl
  have hal : d.auth.length ≤ 7 ∧ strsSz d.auth ≤ 7 * 1048576 := by
    rw [hda]
    refine ⟨by omega, Nat.le_trans hps.2 ?_⟩
    exact Nat.mul_le_mul hns h1
  have hdz : d.sz + d.key.length ≤ 100000000 := by
    have e1 : d.id.length = 0 := by rw [hd]; rfl
    have e2 : d.room = n.room := by rw [hd]; rfl
    have e3 : d.type.length = 13 := by rw [hd]; rfl
    have e4 : d.sender = n.sender := by rw [hd]; rfl
    have e5 : d.key = n.key := by rw [hd]; rfl
    unfold Ev.sz
    rw [hdv, e1, e2, e3, e4, e5, hdp]
    omega
  rw [← hd] at c116 c117
  have c11 := r_sameEvent d (by rw [hdv]; unfold big; omega) (by unfold big; omega) (by rw [hdp]; unfold big; omega) (by unfold big; omega)
  have c118 := r_Reply d (by rw [hdp]; unfold lim; omega) (by unfold lim; omega)
  have c119 := r_refReply d (by rw [hdp]; unfold lim; omega) (by unfold lim; omega)
  have hrz := replyR_sz d
  have c35 := r_same (replyR d) (by unfold big; omega)
  rw [reply_eq] at c118
  generalize replyR d = R at c118 c119 c35
  clear hd hdv hdc hdp hda hal hdz hrz hps hns hcs
  have w1 : IntKind.wrap .i64 ((n.room.length : Int) + (n.sender.length : Int)) = ((n.room.length + n.sender.length : Nat) : Int) := wadd (by omega)
  have w2 : IntKind.wrap .i64 (((n.room.length + n.sender.length : Nat) : Int) + (n.key.length : Int)) = ((n.room.length + n.sender.length + n.key.length : Nat) : Int) := wadd (by omega)
  have w3 : IntKind.wrap .i64 (((n.room.length + n.sender.length + n.key.length : Nat) : Int) + (n.to.length : Int)) = ((n.room.length + n.sender.length + n.key.length + n.to.length : Nat) : Int) := wadd (by omega)
  have w4 : IntKind.wrap .i64 (((n.room.length + n.sender.length + n.key.length + n.to.length : Nat) : Int) + (n.by_.length : Int)) = ((n.room.length + n.sender.length + n.key.length + n.to.length + n.by_.length : Nat) : Int) := wadd (by omega)
  refine cR_of (F := F114) rfl ?_
  obtain ⟨r, hr⟩ : ∃ r, r = AV.bool true := ⟨_, rfl⟩
  rw [← hr]
  unfold nmsE
  cases hl2 : (!(decide ((l.length : Int) > 30)) && l.all lightE) with
  | false =>
    rw [hl2] at c2
    simp only [U14Fa, EXA, Nat.reduceEqDiff, reduceIte, reduceCtorEq, Nat.reduceAdd, Nat.reduceLeDiff, Nat.reduceSub, Nat.reduceMul, Int.reduceEq, Int.reduceBEq, Int.reduceBNe, Int.reduceLT, Int.reduceLE, Nat.reduceLT, VX, readAt_some, r_awake27, c2, hr]
  | true =>
  rw [hl2] at c2
  cases hg1 : decide ((last.length : Int) > 30) with
  | true =>
    simp only [U14Fa, EXA, Nat.reduceEqDiff, reduceIte, reduceCtorEq, Nat.reduceAdd, Nat.reduceLeDiff, Nat.reduceSub, Nat.reduceMul, Int.reduceEq, Int.reduceBEq, Int.reduceBNe, Int.reduceLT, Int.reduceLE, Nat.reduceLT, VX, readAt_some, r_awake27, c2, hg1, hr]
  | false =>
  cases hg : decide (((n.room.length + n.sender.length + n.key.length + n.to.length + n.by_.length : Nat) : Int) > 1500) with
  | true =>
    simp only [U14Fa, EXA, Nat.reduceEqDiff, reduceIte, reduceCtorEq, Nat.reduceAdd, Nat.reduceLeDiff, Nat.reduceSub, Nat.reduceMul, Int.reduceEq, Int.reduceBEq, Int.reduceBNe, Int.reduceLT, Int.reduceLE, Nat.reduceLT, VX, readAt_some, r_awake27, c2, hg1, w1, w2, w3, w4, hg, hr]
  | false =>
    simp only [U14Fa, EXA, Nat.reduceEqDiff, reduceIte, reduceCtorEq, Nat.reduceAdd, Nat.reduceLeDiff, Nat.reduceSub, Nat.reduceMul, Int.reduceEq, Int.reduceBEq, Int.reduceBNe, Int.reduceLT, Int.reduceLE, Nat.reduceLT, VX, readAt_some, r_awake27, c2, hg1, w1, w2, w3, w4, hg, c116, c117, evE_eta0, c11, c118, c119, c35, hr]
end Go.Ab
