/- TmplBack: any state, any names that a draft follows: what is taken of the reply of a draft is the draft. For every input whose reading is of bulk at most 1048576 the call returns true and each argument reads as it read. Conditions: the row's own ('laid', the bound). -/
import Derived.Test.YtgckcnggblomgaaGreatDoorLaw4
import Derived.Test.YtgckcnggblomgaaGreatDoorLaw8
set_option linter.unusedVariables false
set_option linter.unusedSimpArgs false
set_option linter.defProp false
namespace Go.Ab.TB
open Go.Lib Go.Proofs Go.Proofs.YtgckcnggblomgaaGreatDoor Go.RowKit Go.ChangeShapes Go.WideShapes Go.Ab
set_option maxRecDepth 100000
def reach : List (Nat × Nat) := [(2, 7), (5, 51), (8, 23), (10, 28), (11, 10), (18, 18), (19, 61), (20, 29), (24, 14), (25, 17), (26, 50), (27, 82), (28, 84), (29, 85), (30, 86), (35, 11), (36, 80), (37, 83), (38, 55), (39, 56), (40, 57), (43, 112), (45, 60), (46, 66), (47, 34), (48, 46), (49, 47), (50, 79), (51, 78), (52, 81), (53, 111), (54, 113), (55, 68), (60, 91), (61, 92), (63, 67), (64, 95), (65, 74), (66, 21), (67, 134), (68, 96), (72, 117), (73, 118), (74, 76), (75, 120), (76, 121), (77, 122), (78, 123), (82, 135), (83, 108), (84, 101), (85, 102), (86, 103), (87, 104), (88, 130), (89, 105), (90, 131), (91, 132), (92, 106), (93, 136), (94, 137), (95, 138), (98, 145), (99, 142), (100, 143), (101, 146), (102, 147), (106, 148), (107, 149), (108, 150), (109, 151), (110, 152), (112, 154), (115, 6), (116, 8), (118, 12), (121, 15), (123, 5), (124, 19), (125, 20), (126, 22), (130, 31), (131, 30), (134, 35), (135, 36), (136, 37), (137, 38), (138, 39), (141, 48), (142, 49), (144, 59), (145, 58), (146, 62), (150, 69), (152, 75), (153, 77), (154, 94), (155, 93), (156, 97), (157, 98), (158, 107), (161, 119), (162, 124), (163, 126), (164, 125), (166, 139), (167, 140)]
theorem progOk : ProgOk Tryz.prog (fun i => look reach i) gmD ipU drawOk := progOk_of_all (by kernel_rfl)
theorem nms_of {H : Type} {enc : TypeId × Value → H} {w : World} {base : Nat} {sp : Nat → Bool} {held : Bool} {fuel : Nat} {cs : List Value} {x : DataW H × List MemPlace} (h : DataW.trod enc Tryz.prog w base sp held fuel 25 cs = some x) :
    ∃ s : Nms, encD x.1 = nmsE s ∧ s.room.length + s.sender.length + s.key.length + s.to.length + s.by_.length ≤ (bulkD H).B x.1 := by
  obtain ⟨ys, n', hn', hy', hl', hg'⟩ := struct_of unms tnms h
  obtain ⟨y0, y1, y2, y3, y4, rfl⟩ := five hl'
  obtain ⟨_, _, e0, k0⟩ := hg' 0 _ rfl
  obtain ⟨_, _, e1, k1⟩ := hg' 1 _ rfl
  obtain ⟨_, _, e2, k2⟩ := hg' 2 _ rfl
  obtain ⟨_, _, e3, k3⟩ := hg' 3 _ rfl
  obtain ⟨_, _, e4, k4⟩ := hg' 4 _ rfl
  obtain rfl := Option.some.inj e0
  obtain rfl := Option.some.inj e1
  obtain rfl := Option.some.inj e2
  obtain rfl := Option.some.inj e3
  obtain rfl := Option.some.inj e4
  obtain ⟨s0, q0, b0⟩ := str_of tysD (bulkD H) k0
  obtain ⟨s1, q1, b1⟩ := str_of tysD (bulkD H) k1
  obtain ⟨s2, q2, b2⟩ := str_of tysD (bulkD H) k2
  obtain ⟨s3, q3, b3⟩ := str_of tysD (bulkD H) k3
  obtain ⟨s4, q4, b4⟩ := str_of tysD (bulkD H) k4
  refine ⟨⟨s0, s1, s2, s3, s4⟩, ?_, ?_⟩
  · rw [hy']; simp only [List.map_cons, List.map_nil, encD, encC, q0, q1, q2, q3, q4]; rfl
  · rw [hy', (bulkD H).agg]; simp only [List.map_cons, List.map_nil, (bulkD H).cons, (bulkD H).nil]; omega
theorem contract (H : Type) (enc : TypeId × Value → H) (W : World) (base : Nat) (args : Array Value) (ds gs : List (DataW H)) (before : List MemPlace)
    (hval : ∀ (j : Nat) t v, Tryz.f5.params[j]? = some t → args[j]? = some v → Value.okWide Tryz.prog W .any base t v)
    (hk : Rows.uptoSmall H (ds ++ gs) = true)
    (hW : DataW.Whole enc Tryz.prog Tryz.f5.params.toList Rows.tmplBackSpec.vars false W args.toList ds gs before) (hL : laidMetH Tryz.prog Rows.tmplBackUptoRow.laid W) (hS : W.ShapedOpen Tryz.prog) :
    Calls Tryz.prog 5 args W fun e W' => ∃ v, e = .returned v ∧ Rows.tmplBackSpec.post enc Tryz.prog Tryz.f5 false true false false W args v W' := by
  have hW' := hW
  obtain ⟨p, q, hA, hV, rfl, _, _⟩ := hW'
  rw [Tryz.params5] at hA hval
  obtain ⟨v0, vs0, d0, ds0, p0, q0, hargs, rfl, rfl, ⟨_, h0⟩, r0⟩ := trodAll_cons hA
  obtain ⟨v1, vs1, d1, ds1, p1, q1, rfl, rfl, rfl, ⟨_, h1⟩, r1⟩ := trodAll_cons r0
  obtain ⟨v2, vs2, d2, ds2, p2, q2, rfl, rfl, rfl, ⟨_, h2⟩, r2⟩ := trodAll_cons r1
  obtain ⟨v3, vs3, d3, ds3, p3, q3, rfl, rfl, rfl, ⟨_, h3⟩, r3⟩ := trodAll_cons r2
  obtain ⟨v4, vs4, d4, ds4, p4, q4, rfl, rfl, rfl, ⟨_, h4⟩, r4⟩ := trodAll_cons r3
  obtain ⟨rfl, rfl, rfl⟩ := trodAll_nil r4
  obtain rfl : args = #[v0, v1, v2, v3, v4] := by cases args; simp_all
  obtain ⟨a0, n0, c0, rfl⟩ := okWide_slice (tysD.uevs) (hval 0 22 v0 rfl rfl)
  obtain ⟨a1, n1, c1, rfl⟩ := okWide_slice (tysD.ustrs) (hval 1 23 v1 rfl rfl)
  obtain ⟨st2, rfl⟩ := okWide_string (tysD.ustr) (hval 2 9 v2 rfl rfl)
  obtain ⟨st3, rfl⟩ := okWide_string (tysD.ustr) (hval 3 9 v3 rfl rfl)
  obtain ⟨bb, rfl⟩ := okWide_bool (tysD.ubool) (hval 4 4 v4 rfl rfl)
  have hb := upto_bound hk
  simp only [List.cons_append, Rows.uptoBulkAll] at hb
  obtain ⟨l, e0, b0⟩ := evs_of tysD (bulkD H) h0
  obtain ⟨e, e1, b1⟩ := strs_of tysD (bulkD H) h1
  obtain ⟨s, e2, b2⟩ := str_of tysD (bulkD H) h2
  obtain ⟨t, e3, b3⟩ := str_of tysD (bulkD H) h3
  obtain ⟨y, e4⟩ := bool_of tysD h4
  have w0 := arg_one (fm := fun i => look reach i) tyS_ok (t := 22) (by decide) rfl (by rw [e0]; rfl) h0
  have w1 := arg_one (fm := fun i => look reach i) tyS_ok (t := 23) (by decide) rfl (by rw [e1]; rfl) h1
  have w2 := arg_one (fm := fun i => look reach i) tyS_ok (t := 9) (by decide) rfl (by rw [e2]; rfl) h2
  have w3 := arg_one (fm := fun i => look reach i) tyS_ok (t := 9) (by decide) rfl (by rw [e3]; rfl) h3
  have w4 := arg_one (fm := fun i => look reach i) tyS_ok (t := 4) (by decide) rfl (by rw [e4]; rfl) h4
  rw [e0] at w0
  rw [e1] at w1
  rw [e2] at w2
  rw [e3] at w3
  rw [e4] at w4
  have b0' : evsSz l ≤ Rows.uptoBulk d0 := b0
  have b1' : e.length + strsSz e ≤ Rows.uptoBulk d1 := b1
  have b2' : s.length + 1 ≤ Rows.uptoBulk d2 := b2
  have b3' : t.length + 1 ≤ Rows.uptoBulk d3 := b3
  exact law_contract dMixed progOk (id := 123) rfl (globOK hL hS) (r_TmplBack l e s t y (by omega) (by omega) (by omega) (by omega))
    (.cons w0 (.cons w1 (.cons w2 (.cons w3 (.cons w4 .nil))))) rfl rfl (tb := 4) (by kernel_rfl) Tryz.underlying4 dLaidOut
    (by rw [Tryz.params5]; intro t ht
        have ht' : t = 22 ∨ t = 23 ∨ t = 9 ∨ t = 4 := by simpa using ht
        rcases ht' with rfl | rfl | rfl | rfl <;> exact ⟨by kernel_rfl, of_decide_eq_true (by kernel_rfl)⟩) hW
def wArgs : Array Value := #[.slice none 0 0, .slice none 0 0, .string ⟨#[]⟩, .string ⟨#[]⟩, .bool false]
def wData (H : Type) : List (DataW H) := [.nil, .nil, .lit (.string []), .lit (.string []), .lit (.bool false)]
theorem laid_met (os : Os) : laidMet Tryz.prog Rows.tmplBackUptoRow.laid ((laidWorld os).forCall (fun _ _ => 0) ⟨#[], wArgs, []⟩).memory :=
  laidMet_of_run' 8 (by kernel_rfl) (by kernel_rfl)
theorem reads (os : Os) {H : Type} (enc : TypeId × Value → H) : ∃ places, DataW.whole enc Tryz.prog ((laidWorld os).forCall (fun _ _ => 0) ⟨#[], wArgs, []⟩).memory Tryz.f5.params.toList Rows.tmplBackSpec.vars false wArgs.toList 8 = some (wData H, [], places) :=
  ⟨[], by kernel_rfl⟩
theorem lifted (os : Os) (started : os.Started) (H : Type) (enc : TypeId × Value → H) (F : Stop.Interp) :
    ReturnsInHanded {} Tryz.checked os 5 .any ((Rows.OpenSpec.upto Rows.tmplBackSpec).preRow enc Tryz.prog Tryz.f5 Rows.tmplBackUptoRow.domain false Rows.tmplBackUptoRow.laid) (((Rows.OpenSpec.upto Rows.tmplBackSpec).at F).post enc Tryz.prog Tryz.f5 false true false false) := by
  obtain ⟨places, hx⟩ := reads os enc
  refine returnsInHanded_of_row (C := Tryz.checked) (s := Rows.OpenSpec.upto Rows.tmplBackSpec) dOwn started (by kernel_rfl) Tryz.func5
    (witness_row_at (enc := enc) (C := Tryz.checked) false (laidWorld os) wArgs rfl (by kernel_rfl) (by kernel_rfl) (by kernel_rfl)
      (OpenSpec.preRow_of_cond 8 hx (by kernel_rfl) (fun k hk => by cases hk; kernel_rfl) (by kernel_rfl) (laid_met os))) ?_
  intro W base args ds gs before hval hW _ hk _ hL hS _
  exact contract H enc W base args ds gs before hval (hk _ rfl) hW hL hS
theorem said : Rows.TmplBackUptoSaid :=
  OpenClaim.holds_of_cond 5 Tryz.f5 rfl rfl rfl rfl rfl rfl rfl ⟨rfl, rfl, rfl, rfl, rfl⟩ rfl rfl rfl rfl rfl (by kernel_rfl) Tryz.func5 (by kernel_rfl)
    (of_decide_eq_true (by kernel_rfl)) (by unfold Func.isWrapper; first | (rw [if_pos (by decide +kernel)]; kernel_rfl) | (rw [if_neg (by decide +kernel)]; exact ⟨rfl, rfl⟩))
    (fun os started H enc _ F => by rw [OpenClaim.pre_eq_preRow]; exact lifted os started H enc F)
theorem plain (f : FuncId) (fn : Func) (hf : Tryz.pinned.checked.prog.funcNamed "introit/introitlaw27.TmplBack" = some f) (hfn : Tryz.pinned.checked.prog.funcs[f]? = some fn) :
    false = Tryz.pinned.checked.prog.looks [] ∧ ∀ (j : Nat) t, fn.params[j]? = some t → Tryz.pinned.checked.prog.wantsStandIn t = false := by
  obtain rfl : f = 5 := Option.some.inj ((show Tryz.prog.funcNamed "introit/introitlaw27.TmplBack" = some 5 by kernel_rfl).symm.trans hf) |>.symm
  obtain rfl : fn = Tryz.f5 := (Option.some.inj (Tryz.func5.symm.trans hfn)).symm
  refine ⟨by kernel_rfl, fun j t ht => ?_⟩
  rw [Tryz.params5] at ht
  have ht' : t = 22 ∨ t = 23 ∨ t = 9 ∨ t = 4 := by simpa using Array.mem_of_getElem? ht
  rcases ht' with rfl | rfl | rfl | rfl
  · exact (show Tryz.prog.wantsStandIn 22 = false by kernel_rfl)
  · exact (show Tryz.prog.wantsStandIn 23 = false by kernel_rfl)
  · exact (show Tryz.prog.wantsStandIn 9 = false by kernel_rfl)
  · exact (show Tryz.prog.wantsStandIn 4 = false by kernel_rfl)
theorem tmplBack_card : Rows.TmplBackUptoCardSaid :=
  Claim7.holds_tied_plain_at .later [] _ _ _ _ said (fun _ h => by cases h) (by kernel_rfl) (fun _ h => by cases h) tmplBackUpto_row_tie rfl ⟨rfl, rfl⟩ (by kernel_rfl) rfl plain (by kernel_rfl)
end Go.Ab.TB
namespace Go.Proofs.YtgckcnggblomgaaGreatDoor
theorem tmplBackUpto_holds : Rows.TmplBackUptoCardSaid := Go.Ab.TB.tmplBack_card
#print axioms tmplBackUpto_holds
end Go.Proofs.YtgckcnggblomgaaGreatDoor
