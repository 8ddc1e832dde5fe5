/- PickSays: any state, any event: which slots it needs, which of the state's events these are, whether some fit, is as the document says. For every input whose reading is of bulk at most 1048576 the call returns true and each argument reads as it read. Conditions: the row's own ('laid', the bound). -/
import Derived.Test.YtgckcnggblomgaaDoorLaw4
import Derived.Test.YtgckcnggblomgaaDoorLaw9
set_option linter.unusedVariables false
set_option linter.unusedSimpArgs false
set_option linter.defProp false
namespace Go.Ab.PS
open Go.Lib Go.Proofs Go.Proofs.YtgckcnggblomgaaDoor Go.RowKit Go.ChangeShapes Go.WideShapes Go.Ab

set_option maxRecDepth 100000
def reach : List (Nat × Nat) := [(0, 3), (1, 6), (2, 7), (3, 8), (4, 9), (5, 11), (6, 12), (7, 10), (8, 14), (9, 15), (10, 13), (11, 16), (12, 17), (13, 18), (24, 27), (25, 28), (26, 29), (27, 30), (28, 32), (29, 33), (30, 34), (31, 35), (32, 36), (33, 37), (34, 38), (35, 39), (36, 40), (37, 31), (40, 43), (43, 47), (46, 49), (47, 50), (48, 51), (49, 52), (50, 54), (51, 53), (52, 55), (53, 56), (54, 57), (55, 58), (56, 59), (57, 60), (58, 61), (59, 62), (61, 64), (63, 66), (65, 68), (66, 69), (67, 70), (68, 71), (69, 72), (70, 73), (71, 74), (74, 77), (75, 84), (76, 85), (77, 86), (78, 87), (79, 88), (80, 89), (81, 90), (83, 92), (84, 78), (85, 79), (86, 80), (87, 81), (88, 93), (89, 82), (90, 94), (91, 95), (92, 83), (93, 96), (94, 97), (95, 98), (96, 99), (97, 100), (99, 102), (100, 103), (101, 104), (102, 105), (103, 106), (104, 107), (105, 108), (106, 109), (107, 110), (108, 111), (109, 112), (110, 113), (111, 114), (112, 116)]
theorem progOk : ProgOk Tryd.prog (fun i => look reach i) gmD ipU drawOk := progOk_of_all (by kernel_rfl)

theorem contract (H : Type) (enc : TypeId × Value → H) (W : World) (base : Nat) (args : Array Value) (ds gs : List (DataW H)) (before : List MemPlace)
    (hval : ∀ (j : Nat) t v, Tryd.f3.params[j]? = some t → args[j]? = some v → Value.okWide Tryd.prog W .any base t v)
    (hk : Rows.uptoSmall H (ds ++ gs) = true)
    (hW : DataW.Whole enc Tryd.prog Tryd.f3.params.toList Rows.pickSaysSpec.vars false W args.toList ds gs before) (hL : laidMetH Tryd.prog Rows.pickSaysUptoRow.laid W) (hS : W.ShapedOpen Tryd.prog) :
    Calls Tryd.prog 3 args W fun e W' => ∃ v, e = .returned v ∧ Rows.pickSaysSpec.post enc Tryd.prog Tryd.f3 false true false false W args v W' := by
  have hW' := hW
  obtain ⟨p, q, hA, hV, rfl, _, _⟩ := hW'
  rw [Tryd.params3] at hA hval
  obtain ⟨v0, vs0, d0, ds0, p0, q0, hargs, rfl, rfl, ⟨_, h0⟩, r0⟩ := trodAll_cons hA
  obtain ⟨v1, vs1, d1, ds1, p1, q1, rfl, rfl, rfl, ⟨_, h1⟩, r1⟩ := trodAll_cons r0
  obtain ⟨v2, vs2, d2, ds2, p2, q2, rfl, rfl, rfl, ⟨_, h2⟩, r2⟩ := trodAll_cons r1
  obtain ⟨rfl, rfl, rfl⟩ := trodAll_nil r2
  obtain rfl : args = #[v0, v1, v2] := by cases args; simp_all
  obtain ⟨a0, n0, c0, rfl⟩ := okWide_slice (tysD.uevs) (hval 0 22 v0 rfl rfl)
  obtain ⟨vs, rfl, _⟩ := okWide_struct (tysD.uev) (hval 1 29 v1 rfl rfl)
  obtain ⟨zs, rfl, _⟩ := okWide_struct (tysD.uslot) (hval 2 31 v2 rfl rfl)
  have hb := upto_bound hk
  simp only [List.cons_append, Rows.uptoBulkAll] at hb
  obtain ⟨l, e0, b0⟩ := evs_of tysD (bulkD H) h0
  obtain ⟨e, e1, b1⟩ := ev_of tysD (bulkD H) h1
  obtain ⟨s, e2, b2⟩ := slot_of tysD (bulkD H) h2
  have w0 := arg_one (fm := fun i => look reach i) tyS_ok (t := 22) (by decide) rfl (by rw [e0]; rfl) h0
  have w1 := arg_agg (fm := fun i => look reach i) tyS_ok (t := 29) (by decide) (by rw [e1]; rfl) h1
  have w2 := arg_agg (fm := fun i => look reach i) tyS_ok (t := 31) (by decide) (by rw [e2]; rfl) h2
  rw [e0] at w0
  rw [e1] at w1
  rw [e2] at w2
  have b0' : evsSz l ≤ Rows.uptoBulk d0 := b0
  have b1' : e.sz + 1 ≤ Rows.uptoBulk d1 := b1
  have b2' : s.type.length + s.key.length ≤ Rows.uptoBulk d2 := b2
  have hlen := evsSz_len l
  have hsz : ∀ x ∈ l, x.sz ≤ 1048576 := fun x hx => by have := evsSz_mem hx; omega
  exact law_contract dMixed progOk (id := 0) rfl (globOK hL hS)
    (r_PickSays l e s (by have : e.content.sz ≤ e.sz := by unfold Ev.sz; omega
                          unfold big; omega)
      (fun x hx => by have h3 := hsz x hx
                      have : x.content.sz ≤ x.sz := by unfold Ev.sz; omega
                      unfold big; omega)
      (fun x hx => by have h3 := hsz x hx
                      have : x.v.sz ≤ x.sz := by unfold Ev.sz; omega
                      unfold big; omega)
      (by unfold lim; omega)
      (by unfold lim; omega)
      (by unfold lim; omega)
      (fun x hx => by have h3 := hsz x hx
                      have h4 : x.prev.length ≤ x.sz := by unfold Ev.sz; omega
                      have h5 : x.auth.length ≤ x.sz := by unfold Ev.sz; omega
                      unfold lim; omega))
    (.cons w0 (.cons w1 (.cons w2 .nil))) rfl rfl (tb := 4) (by kernel_rfl) Tryd.underlying4 dLaidOut
    (by rw [Tryd.params3]; intro t ht
        have ht' : t = 22 ∨ t = 29 ∨ t = 31 := by simpa using ht
        rcases ht' with rfl | rfl | rfl <;> exact ⟨by kernel_rfl, of_decide_eq_true (by kernel_rfl)⟩) hW

def wEv : Value := .agg #[.int .i64 0, .int .i64 0, .string ⟨#[]⟩, .slice none 0 0, .slice none 0 0, .string ⟨#[]⟩, .string ⟨#[]⟩, .string ⟨#[]⟩, .string ⟨#[]⟩, .string ⟨#[]⟩, .bool false, .int .i64 0, .int .i64 0, .slice none 0 0, .slice none 0 0, .int .i64 0, .int .i64 0, .string ⟨#[]⟩, .slice none 0 0, .slice none 0 0]
def wArgs : Array Value := #[.slice none 0 0, wEv, .agg #[.string ⟨#[]⟩, .string ⟨#[]⟩]]
def wVal (H : Type) : DataW H := .agg [.lit (.int .i64 0), .lit (.int .i64 0), .lit (.string []), .nil, .nil]
def wData (H : Type) : List (DataW H) := [.nil, .agg [wVal H, .lit (.string []), .lit (.string []), .lit (.string []), .lit (.string []), .lit (.string []), .lit (.bool false), .lit (.int .i64 0), .lit (.int .i64 0), .nil, .nil, wVal H], .agg [.lit (.string []), .lit (.string [])]]
theorem laid_met (os : Os) : laidMet Tryd.prog Rows.pickSaysUptoRow.laid ((laidWorld os).forCall (fun _ _ => 0) ⟨#[], wArgs, []⟩).memory :=
  laidMet_of_run' 8 (by kernel_rfl) (by kernel_rfl)
theorem reads (os : Os) {H : Type} (enc : TypeId × Value → H) : ∃ places, DataW.whole enc Tryd.prog ((laidWorld os).forCall (fun _ _ => 0) ⟨#[], wArgs, []⟩).memory Tryd.f3.params.toList Rows.pickSaysSpec.vars false wArgs.toList 8 = some (wData H, [], places) :=
  ⟨[], by kernel_rfl⟩

theorem lifted (os : Os) (started : os.Started) (H : Type) (enc : TypeId × Value → H) (F : Stop.Interp) :
    ReturnsInHanded {} Tryd.checked os 3 .any ((Rows.OpenSpec.upto Rows.pickSaysSpec).preRow enc Tryd.prog Tryd.f3 Rows.pickSaysUptoRow.domain false Rows.pickSaysUptoRow.laid) (((Rows.OpenSpec.upto Rows.pickSaysSpec).at F).post enc Tryd.prog Tryd.f3 false true false false) := by
  obtain ⟨places, hx⟩ := reads os enc
  refine returnsInHanded_of_row (C := Tryd.checked) (s := Rows.OpenSpec.upto Rows.pickSaysSpec) dOwn started (by kernel_rfl) Tryd.func3
    (witness_row_at (enc := enc) (C := Tryd.checked) false (laidWorld os) wArgs rfl (by kernel_rfl) (by kernel_rfl) (by kernel_rfl)
      (OpenSpec.preRow_of_cond 8 hx (by kernel_rfl) (fun k hk => by cases hk; kernel_rfl) (by kernel_rfl) (laid_met os))) ?_
  intro W base args ds gs before hval hW _ hk _ hL hS _
  exact contract H enc W base args ds gs before hval (hk _ rfl) hW hL hS

theorem said : Rows.PickSaysUptoSaid :=
  OpenClaim.holds_of_cond 3 Tryd.f3 rfl rfl rfl rfl rfl rfl rfl ⟨rfl, rfl, rfl, rfl, rfl⟩ rfl rfl rfl rfl rfl (by kernel_rfl) Tryd.func3 (by kernel_rfl)
    (of_decide_eq_true (by kernel_rfl)) (by unfold Func.isWrapper; first | (rw [if_pos (by decide +kernel)]; kernel_rfl) | (rw [if_neg (by decide +kernel)]; exact ⟨rfl, rfl⟩))
    (fun os started H enc _ F => by rw [OpenClaim.pre_eq_preRow]; exact lifted os started H enc F)

theorem plain (f : FuncId) (fn : Func) (hf : Tryd.pinned.checked.prog.funcNamed "introit/introitlaw19.PickSays" = some f) (hfn : Tryd.pinned.checked.prog.funcs[f]? = some fn) :
    false = Tryd.pinned.checked.prog.looks [] ∧ ∀ (j : Nat) t, fn.params[j]? = some t → Tryd.pinned.checked.prog.wantsStandIn t = false := by
  obtain rfl : f = 3 := Option.some.inj ((show Tryd.prog.funcNamed "introit/introitlaw19.PickSays" = some 3 by kernel_rfl).symm.trans hf) |>.symm
  obtain rfl : fn = Tryd.f3 := (Option.some.inj (Tryd.func3.symm.trans hfn)).symm
  refine ⟨by kernel_rfl, fun j t ht => ?_⟩
  rw [Tryd.params3] at ht
  have ht' : t = 22 ∨ t = 29 ∨ t = 31 := by simpa using Array.mem_of_getElem? ht
  rcases ht' with rfl | rfl | rfl
  · exact (show Tryd.prog.wantsStandIn 22 = false by kernel_rfl)
  · exact (show Tryd.prog.wantsStandIn 29 = false by kernel_rfl)
  · exact (show Tryd.prog.wantsStandIn 31 = false by kernel_rfl)

theorem pickSays_card : Rows.PickSaysUptoCardSaid :=
  Claim7.holds_tied_plain_at .later [] _ _ _ _ said (fun _ h => by cases h) (by kernel_rfl) (fun _ h => by cases h) pickSaysUpto_row_tie rfl ⟨rfl, rfl⟩ (by kernel_rfl) rfl plain (by kernel_rfl)
end Go.Ab.PS
namespace Go.Proofs.YtgckcnggblomgaaDoor
theorem pickSaysUpto_holds : Rows.PickSaysUptoCardSaid := Go.Ab.PS.pickSays_card
#print axioms pickSaysUpto_holds
end Go.Proofs.YtgckcnggblomgaaDoor
