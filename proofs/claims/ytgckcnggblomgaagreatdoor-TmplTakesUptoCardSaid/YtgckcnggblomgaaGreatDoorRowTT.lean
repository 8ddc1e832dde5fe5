/- TmplTakes: any value, any names, any server: what of it is taken is what the document takes. For every input whose reading is of bulk at most 1048576 the call returns true and each argument reads as it read. Conditions: the row's own ('laid', the bound). -/
import Derived.Test.YtgckcnggblomgaaGreatDoorLaw4
import Derived.Test.YtgckcnggblomgaaGreatDoorLaw9
set_option linter.unusedVariables false
set_option linter.unusedSimpArgs false
set_option linter.defProp false
namespace Go.Ab.TT
open Go.Lib Go.Proofs Go.Proofs.YtgckcnggblomgaaGreatDoor Go.RowKit Go.ChangeShapes Go.WideShapes Go.Ab
set_option maxRecDepth 100000
def reach : List (Nat × Nat) := [(5, 51), (8, 23), (10, 28), (11, 10), (18, 18), (19, 61), (20, 29), (24, 14), (25, 17), (26, 50), (27, 82), (28, 84), (29, 85), (30, 86), (35, 11), (36, 80), (37, 83), (38, 55), (39, 56), (40, 57), (43, 112), (45, 60), (46, 66), (47, 34), (48, 46), (49, 47), (50, 79), (51, 78), (52, 81), (53, 111), (54, 113), (55, 68), (58, 41), (60, 91), (61, 92), (63, 67), (64, 95), (65, 74), (66, 21), (67, 134), (68, 96), (69, 40), (70, 42), (71, 45), (72, 117), (73, 118), (74, 76), (75, 120), (76, 121), (77, 122), (78, 123), (79, 70), (80, 71), (81, 73), (82, 135), (83, 108), (84, 101), (85, 102), (86, 103), (87, 104), (88, 130), (89, 105), (90, 131), (91, 132), (92, 106), (93, 136), (94, 137), (95, 138), (96, 99), (97, 100), (98, 145), (99, 142), (100, 143), (101, 146), (102, 147), (103, 127), (104, 128), (105, 129), (106, 148), (107, 149), (108, 150), (109, 151), (110, 152), (111, 141), (112, 154), (115, 6), (116, 8), (118, 12), (120, 4), (121, 15), (122, 16), (124, 19), (125, 20), (126, 22), (130, 31), (131, 30), (133, 32), (134, 35), (135, 36), (136, 37), (137, 38), (138, 39), (139, 43), (140, 44), (141, 48), (142, 49), (144, 59), (145, 58), (146, 62), (147, 63), (150, 69), (151, 72), (152, 75), (153, 77), (154, 94), (155, 93), (156, 97), (157, 98), (158, 107), (161, 119), (162, 124), (163, 126), (164, 125), (166, 139), (167, 140)]
theorem progOk : ProgOk Tryz.prog (fun i => look reach i) gmD ipU drawOk := progOk_of_all (by kernel_rfl)
theorem nms_of {H : Type} {enc : TypeId × Value → H} {w : World} {base : Nat} {sp : Nat → Bool} {held : Bool} {fuel : Nat} {cs : List Value} {x : DataW H × List MemPlace} (h : DataW.trod enc Tryz.prog w base sp held fuel 25 cs = some x) :
    ∃ s : Nms, encD x.1 = nmsE s ∧ s.room.length + s.sender.length + s.key.length + s.to.length + s.by_.length ≤ (bulkD H).B x.1 := by
  obtain ⟨ys, n', hn', hy', hl', hg'⟩ := struct_of unms tnms h
  obtain ⟨y0, y1, y2, y3, y4, rfl⟩ := five hl'
  obtain ⟨_, _, e0, k0⟩ := hg' 0 _ rfl
  obtain ⟨_, _, e1, k1⟩ := hg' 1 _ rfl
  obtain ⟨_, _, e2, k2⟩ := hg' 2 _ rfl
  obtain ⟨_, _, e3, k3⟩ := hg' 3 _ rfl
  obtain ⟨_, _, e4, k4⟩ := hg' 4 _ rfl
  obtain rfl := Option.some.inj e0
  obtain rfl := Option.some.inj e1
  obtain rfl := Option.some.inj e2
  obtain rfl := Option.some.inj e3
  obtain rfl := Option.some.inj e4
  obtain ⟨s0, q0, b0⟩ := str_of tysD (bulkD H) k0
  obtain ⟨s1, q1, b1⟩ := str_of tysD (bulkD H) k1
  obtain ⟨s2, q2, b2⟩ := str_of tysD (bulkD H) k2
  obtain ⟨s3, q3, b3⟩ := str_of tysD (bulkD H) k3
  obtain ⟨s4, q4, b4⟩ := str_of tysD (bulkD H) k4
  refine ⟨⟨s0, s1, s2, s3, s4⟩, ?_, ?_⟩
  · rw [hy']; simp only [List.map_cons, List.map_nil, encD, encC, q0, q1, q2, q3, q4]; rfl
  · rw [hy', (bulkD H).agg]; simp only [List.map_cons, List.map_nil, (bulkD H).cons, (bulkD H).nil]; omega
theorem contract (H : Type) (enc : TypeId × Value → H) (W : World) (base : Nat) (args : Array Value) (ds gs : List (DataW H)) (before : List MemPlace)
    (hval : ∀ (j : Nat) t v, Tryz.f4.params[j]? = some t → args[j]? = some v → Value.okWide Tryz.prog W .any base t v)
    (hk : Rows.uptoSmall H (ds ++ gs) = true)
    (hW : DataW.Whole enc Tryz.prog Tryz.f4.params.toList Rows.tmplTakesSpec.vars false W args.toList ds gs before) (hL : laidMetH Tryz.prog Rows.tmplTakesUptoRow.laid W) (hS : W.ShapedOpen Tryz.prog) :
    Calls Tryz.prog 4 args W fun e W' => ∃ v, e = .returned v ∧ Rows.tmplTakesSpec.post enc Tryz.prog Tryz.f4 false true false false W args v W' := by
  have hW' := hW
  obtain ⟨p, q, hA, hV, rfl, _, _⟩ := hW'
  rw [Tryz.params4] at hA hval
  obtain ⟨v0, vs0, d0, ds0, p0, q0, hargs, rfl, rfl, ⟨_, h0⟩, r0⟩ := trodAll_cons hA
  obtain ⟨v1, vs1, d1, ds1, p1, q1, rfl, rfl, rfl, ⟨_, h1⟩, r1⟩ := trodAll_cons r0
  obtain ⟨v2, vs2, d2, ds2, p2, q2, rfl, rfl, rfl, ⟨_, h2⟩, r2⟩ := trodAll_cons r1
  obtain ⟨rfl, rfl, rfl⟩ := trodAll_nil r2
  obtain rfl : args = #[v0, v1, v2] := by cases args; simp_all
  obtain ⟨us, rfl, _⟩ := okWide_struct (tysD.uval) (hval 0 31 v0 rfl rfl)
  obtain ⟨zs, rfl, _⟩ := okWide_struct unms (hval 1 25 v1 rfl rfl)
  obtain ⟨st, rfl⟩ := okWide_string (tysD.ustr) (hval 2 9 v2 rfl rfl)
  have hb := upto_bound hk
  simp only [List.cons_append, Rows.uptoBulkAll] at hb
  obtain ⟨v, e0, b0⟩ := val_of tysD (bulkD H) _ h0
  obtain ⟨s, e1, b1⟩ := nms_of h1
  obtain ⟨t, e2, b2⟩ := str_of tysD (bulkD H) h2
  have w0 := arg_agg (fm := fun i => look reach i) tyS_ok (t := 31) (by decide) (by rw [e0, V.enc_eq]) h0
  have w1 := arg_agg (fm := fun i => look reach i) tyS_ok (t := 25) (by decide) (by rw [e1]; rfl) h1
  have w2 := arg_one (fm := fun i => look reach i) tyS_ok (t := 9) (by decide) rfl (by rw [e2]; rfl) h2
  rw [e0] at w0
  rw [e1] at w1
  rw [e2] at w2
  have b0' : v.sz ≤ Rows.uptoBulk d0 := b0
  have b1' : s.room.length + s.sender.length + s.key.length + s.to.length + s.by_.length ≤ Rows.uptoBulk d1 := b1
  have b2' : t.length + 1 ≤ Rows.uptoBulk d2 := b2
  exact law_contract dMixed progOk (id := 120) rfl (globOK hL hS) (r_TmplTakes v s t (by omega) (by omega) (by omega))
    (.cons w0 (.cons w1 (.cons w2 .nil))) rfl rfl (tb := 4) (by kernel_rfl) Tryz.underlying4 dLaidOut
    (by rw [Tryz.params4]; intro t ht
        have ht' : t = 31 ∨ t = 25 ∨ t = 9 := by simpa using ht
        rcases ht' with rfl | rfl | rfl <;> exact ⟨by kernel_rfl, of_decide_eq_true (by kernel_rfl)⟩) hW
def wNms : Value := .agg #[.string ⟨#[]⟩, .string ⟨#[]⟩, .string ⟨#[]⟩, .string ⟨#[]⟩, .string ⟨#[]⟩]
def wArgs : Array Value := #[.agg #[.int .i64 0, .int .i64 0, .string ⟨#[]⟩, .slice none 0 0, .slice none 0 0], wNms, .string ⟨#[]⟩]
def wData (H : Type) : List (DataW H) := [.agg [.lit (.int .i64 0), .lit (.int .i64 0), .lit (.string []), .nil, .nil], .agg [.lit (.string []), .lit (.string []), .lit (.string []), .lit (.string []), .lit (.string [])], .lit (.string [])]
theorem laid_met (os : Os) : laidMet Tryz.prog Rows.tmplTakesUptoRow.laid ((laidWorld os).forCall (fun _ _ => 0) ⟨#[], wArgs, []⟩).memory :=
  laidMet_of_run' 8 (by kernel_rfl) (by kernel_rfl)
theorem reads (os : Os) {H : Type} (enc : TypeId × Value → H) : ∃ places, DataW.whole enc Tryz.prog ((laidWorld os).forCall (fun _ _ => 0) ⟨#[], wArgs, []⟩).memory Tryz.f4.params.toList Rows.tmplTakesSpec.vars false wArgs.toList 8 = some (wData H, [], places) :=
  ⟨[], by kernel_rfl⟩
theorem lifted (os : Os) (started : os.Started) (H : Type) (enc : TypeId × Value → H) (F : Stop.Interp) :
    ReturnsInHanded {} Tryz.checked os 4 .any ((Rows.OpenSpec.upto Rows.tmplTakesSpec).preRow enc Tryz.prog Tryz.f4 Rows.tmplTakesUptoRow.domain false Rows.tmplTakesUptoRow.laid) (((Rows.OpenSpec.upto Rows.tmplTakesSpec).at F).post enc Tryz.prog Tryz.f4 false true false false) := by
  obtain ⟨places, hx⟩ := reads os enc
  refine returnsInHanded_of_row (C := Tryz.checked) (s := Rows.OpenSpec.upto Rows.tmplTakesSpec) dOwn started (by kernel_rfl) Tryz.func4
    (witness_row_at (enc := enc) (C := Tryz.checked) false (laidWorld os) wArgs rfl (by kernel_rfl) (by kernel_rfl) (by kernel_rfl)
      (OpenSpec.preRow_of_cond 8 hx (by kernel_rfl) (fun k hk => by cases hk; kernel_rfl) (by kernel_rfl) (laid_met os))) ?_
  intro W base args ds gs before hval hW _ hk _ hL hS _
  exact contract H enc W base args ds gs before hval (hk _ rfl) hW hL hS
theorem said : Rows.TmplTakesUptoSaid :=
  OpenClaim.holds_of_cond 4 Tryz.f4 rfl rfl rfl rfl rfl rfl rfl ⟨rfl, rfl, rfl, rfl, rfl⟩ rfl rfl rfl rfl rfl (by kernel_rfl) Tryz.func4 (by kernel_rfl)
    (of_decide_eq_true (by kernel_rfl)) (by unfold Func.isWrapper; first | (rw [if_pos (by decide +kernel)]; kernel_rfl) | (rw [if_neg (by decide +kernel)]; exact ⟨rfl, rfl⟩))
    (fun os started H enc _ F => by rw [OpenClaim.pre_eq_preRow]; exact lifted os started H enc F)
theorem plain (f : FuncId) (fn : Func) (hf : Tryz.pinned.checked.prog.funcNamed "introit/introitlaw27.TmplTakes" = some f) (hfn : Tryz.pinned.checked.prog.funcs[f]? = some fn) :
    false = Tryz.pinned.checked.prog.looks [] ∧ ∀ (j : Nat) t, fn.params[j]? = some t → Tryz.pinned.checked.prog.wantsStandIn t = false := by
  obtain rfl : f = 4 := Option.some.inj ((show Tryz.prog.funcNamed "introit/introitlaw27.TmplTakes" = some 4 by kernel_rfl).symm.trans hf) |>.symm
  obtain rfl : fn = Tryz.f4 := (Option.some.inj (Tryz.func4.symm.trans hfn)).symm
  refine ⟨by kernel_rfl, fun j t ht => ?_⟩
  rw [Tryz.params4] at ht
  have ht' : t = 31 ∨ t = 25 ∨ t = 9 := by simpa using Array.mem_of_getElem? ht
  rcases ht' with rfl | rfl | rfl
  · exact (show Tryz.prog.wantsStandIn 31 = false by kernel_rfl)
  · exact (show Tryz.prog.wantsStandIn 25 = false by kernel_rfl)
  · exact (show Tryz.prog.wantsStandIn 9 = false by kernel_rfl)
theorem tmplTakes_card : Rows.TmplTakesUptoCardSaid :=
  Claim7.holds_tied_plain_at .later [] _ _ _ _ said (fun _ h => by cases h) (by kernel_rfl) (fun _ h => by cases h) tmplTakesUpto_row_tie rfl ⟨rfl, rfl⟩ (by kernel_rfl) rfl plain (by kernel_rfl)
end Go.Ab.TT
namespace Go.Proofs.YtgckcnggblomgaaGreatDoor
theorem tmplTakesUpto_holds : Rows.TmplTakesUptoCardSaid := Go.Ab.TT.tmplTakes_card
#print axioms tmplTakesUpto_holds
end Go.Proofs.YtgckcnggblomgaaGreatDoor
