/- RulesAllows: rooms that a rule allows are told each once, in order, whatever conditions stand between. For every input the call returns true and each argument reads as it read. Conditions: the row's own ('laid'). -/
import Derived.Test.YtgckcnggblomgaaDoorLaw4
import Derived.Test.YtgckcnggblomgaaDoorLaw6
set_option linter.unusedVariables false
set_option linter.unusedSimpArgs false
set_option linter.defProp false
namespace Go.Ab.RA
open Go.Lib Go.Proofs Go.Proofs.YtgckcnggblomgaaDoor Go.RowKit Go.ChangeShapes Go.WideShapes Go.Ab

set_option maxRecDepth 100000
def reach : List (Nat × Nat) := [(10, 13), (16, 5), (17, 20), (18, 22), (19, 23), (20, 21), (21, 24), (22, 25), (23, 26), (25, 28), (28, 32), (38, 41), (39, 42), (40, 43), (41, 44), (42, 45), (43, 47), (44, 46), (45, 48), (46, 49), (48, 51), (49, 52), (60, 63), (61, 64), (62, 65), (63, 66), (64, 67), (65, 68), (68, 71), (72, 75), (73, 76), (74, 77), (75, 84), (76, 85), (77, 86), (78, 87), (82, 91), (83, 92), (84, 78), (85, 79), (86, 80), (87, 81), (88, 93), (89, 82), (90, 94), (91, 95), (92, 83), (93, 96), (94, 97), (95, 98), (98, 101), (99, 102), (100, 103), (101, 104), (102, 105), (106, 109), (107, 110), (108, 111), (109, 112), (110, 113), (112, 116)]
theorem progOk : ProgOk Tryd.prog (fun i => look reach i) gmD ipU drawOk := progOk_of_all (by kernel_rfl)

theorem contract (H : Type) (enc : TypeId × Value → H) (W : World) (base : Nat) (args : Array Value) (ds gs : List (DataW H)) (before : List MemPlace)
    (hval : ∀ (j : Nat) t v, Tryd.f5.params[j]? = some t → args[j]? = some v → Value.okWide Tryd.prog W .any base t v)
    (hw8 : (DataW.weightsEach Tryd.prog (Tryd.f5.params.toList ++ (OpenSpec.ofChange Rows.rulesAllowsSpec).bare.plain.varTypes Tryd.prog) (ds ++ gs)).all (· ≤ reachBytes) = true)
    (hW : DataW.Whole enc Tryd.prog Tryd.f5.params.toList Rows.rulesAllowsSpec.vars false W args.toList ds gs before) (hL : laidMetH Tryd.prog Rows.rulesAllowsRow.laid W) (hS : W.ShapedOpen Tryd.prog) :
    Calls Tryd.prog 5 args W fun e W' => ∃ v, e = .returned v ∧ Rows.rulesAllowsSpec.post enc Tryd.prog Tryd.f5 false true false false W args v W' := by
  have hW' := hW
  obtain ⟨p, q, hA, hV, rfl, _, _⟩ := hW'
  rw [Tryd.params5] at hA hval
  obtain ⟨v0, vs0, d0, ds0, p0, q0, hargs, rfl, rfl, ⟨_, h0⟩, r0⟩ := trodAll_cons hA
  obtain ⟨v1, vs1, d1, ds1, p1, q1, rfl, rfl, rfl, ⟨_, h1⟩, r1⟩ := trodAll_cons r0
  obtain ⟨rfl, rfl, rfl⟩ := trodAll_nil r1
  obtain rfl : args = #[v0, v1] := by cases args; simp_all
  obtain ⟨a0, n0, c0, rfl⟩ := okWide_slice Tryd.underlying48 (hval 0 48 v0 rfl rfl)
  obtain ⟨a1, n1, c1, rfl⟩ := okWide_slice Tryd.underlying48 (hval 1 48 v1 rfl rfl)
  obtain ⟨rooms, l0, v0r⟩ := rv_ints (fm := fun i => look reach i) Tryd.underlying48 Tryd.underlying3 (by kernel_rfl) h0
  obtain ⟨other, l1, v1r⟩ := rv_ints (fm := fun i => look reach i) Tryd.underlying48 Tryd.underlying3 (by kernel_rfl) h1
  exact law_contract dMixed progOk (id := 16) rfl (globOK hL hS) (r_RulesAllows rooms other (sized_ints hw8 (j := 0) (t := 48) rfl rfl Tryd.underlying48 (of_decide_eq_true (by kernel_rfl)) l0) (sized_ints hw8 (j := 1) (t := 48) rfl rfl Tryd.underlying48 (of_decide_eq_true (by kernel_rfl)) l1))
    (.cons v0r (.cons v1r .nil)) rfl rfl (tb := 4) (by kernel_rfl) Tryd.underlying4 dLaidOut
    (by rw [Tryd.params5]; intro t ht; obtain rfl : t = 48 := by simpa using ht
        exact ⟨by kernel_rfl, of_decide_eq_true (by kernel_rfl)⟩) hW

def wArgs : Array Value := #[.slice none 0 0, .slice none 0 0]
theorem laid_met (os : Os) : laidMet Tryd.prog Rows.rulesAllowsRow.laid ((laidWorld os).forCall (fun _ _ => 0) ⟨#[], wArgs, []⟩).memory :=
  laidMet_of_run' 8 (by kernel_rfl) (by kernel_rfl)
theorem reads (os : Os) {H : Type} (enc : TypeId × Value → H) : ∃ places, DataW.whole enc Tryd.prog ((laidWorld os).forCall (fun _ _ => 0) ⟨#[], wArgs, []⟩).memory Tryd.f5.params.toList Rows.rulesAllowsSpec.vars false wArgs.toList 8 = some ([.nil, .nil], [], places) :=
  ⟨[], by kernel_rfl⟩

theorem lifted (os : Os) (started : os.Started) (H : Type) (enc : TypeId × Value → H) (F : Stop.Interp) :
    ReturnsInHanded {} Tryd.checked os 5 .any ((OpenSpec.ofChange Rows.rulesAllowsSpec).preRow enc Tryd.prog Tryd.f5 Rows.rulesAllowsRow.domain false Rows.rulesAllowsRow.laid) (((OpenSpec.ofChange Rows.rulesAllowsSpec).at F).post enc Tryd.prog Tryd.f5 false true false false) := by
  obtain ⟨places, hx⟩ := reads os enc
  refine returnsInHanded_of_row (C := Tryd.checked) (s := OpenSpec.ofChange Rows.rulesAllowsSpec) dOwn started (by kernel_rfl) Tryd.func5
    (witness_row_at (enc := enc) (C := Tryd.checked) false (laidWorld os) wArgs rfl (by kernel_rfl) (by kernel_rfl) (by kernel_rfl)
      (OpenSpec.preRow_of_cond 8 hx (by kernel_rfl) (fun k hk => by cases hk) (by kernel_rfl) (laid_met os))) ?_
  intro W base args ds gs before hval hW _ _ hw8 hL hS _
  exact contract H enc W base args ds gs before hval hw8 hW hL hS

theorem said : Rows.RulesAllowsSaid :=
  OpenClaim.holds_of_cond 5 Tryd.f5 rfl rfl rfl rfl rfl rfl rfl ⟨rfl, rfl, rfl, rfl, rfl⟩ rfl rfl rfl rfl rfl (by kernel_rfl) Tryd.func5 (by kernel_rfl)
    (of_decide_eq_true (by kernel_rfl)) (by unfold Func.isWrapper; first | (rw [if_pos (by decide +kernel)]; kernel_rfl) | (rw [if_neg (by decide +kernel)]; exact ⟨rfl, rfl⟩))
    (fun os started H enc _ F => by rw [OpenClaim.pre_eq_preRow]; exact lifted os started H enc F)

theorem plain (f : FuncId) (fn : Func) (hf : Tryd.pinned.checked.prog.funcNamed "introit/introitlaw18.RulesAllows" = some f) (hfn : Tryd.pinned.checked.prog.funcs[f]? = some fn) :
    false = Tryd.pinned.checked.prog.looks [] ∧ ∀ (j : Nat) t, fn.params[j]? = some t → Tryd.pinned.checked.prog.wantsStandIn t = false := by
  obtain rfl : f = 5 := Option.some.inj ((show Tryd.prog.funcNamed "introit/introitlaw18.RulesAllows" = some 5 by kernel_rfl).symm.trans hf) |>.symm
  obtain rfl : fn = Tryd.f5 := (Option.some.inj (Tryd.func5.symm.trans hfn)).symm
  refine ⟨by kernel_rfl, fun j t ht => ?_⟩
  rw [Tryd.params5] at ht
  obtain rfl : t = 48 := by simpa using Array.mem_of_getElem? ht
  exact (show Tryd.prog.wantsStandIn 48 = false by kernel_rfl)

theorem rulesAllows_card : Rows.RulesAllowsCardSaid :=
  Claim7.holds_tied_plain_at .later [] _ _ _ _ said (fun _ h => by cases h) (by kernel_rfl) (fun _ h => by cases h) rulesAllows_row_tie rfl ⟨rfl, rfl⟩ (by kernel_rfl) rfl plain (by kernel_rfl)
end Go.Ab.RA
namespace Go.Proofs.YtgckcnggblomgaaDoor
theorem rulesAllows_holds : Rows.RulesAllowsCardSaid := Go.Ab.RA.rulesAllows_card
#print axioms rulesAllows_holds
end Go.Proofs.YtgckcnggblomgaaDoor
