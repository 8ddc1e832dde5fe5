/- PickKnown: what the document says of slots, of what is picked, of what fits. The call returns true. Conditions: the row's own ('laid'). -/
import Derived.Test.YtmamekpnopidlaaGreatDoorLaw4
import Derived.Test.YtmamekpnopidlaaGreatDoorLaw9
set_option linter.unusedVariables false
set_option linter.unusedSimpArgs false
set_option linter.defProp false
set_option linter.unnecessarySimpa false
namespace Go.Ab.PN
open Go.Lib Go.Proofs Go.Proofs.YtmamekpnopidlaaGreatDoor Go.RowKit Go.ChangeShapes Go.WideShapes Go.Ab
set_option maxRecDepth 100000
def reach:List (Nat×Nat):= [(1,5),(3,12),(5,10),(7,13),(8,15),(10,14),(12,16),(18,9),(20,11),(25,36),(26,34),(27,27),(28,29),(29,30),(30,31),(36,35),(37,28),(38,25),(39,32),(40,33),(43,49),(46,48),(48,57),(49,58),(50,55),(51,54),(52,56),(53,47),(54,50),(55,51),(60,52),(61,53),(63,69),(65,75),(66,74),(67,70),(68,71),(72,72),(73,73),(74,24),(75,85),(76,86),(77,87),(78,88),(82,89),(83,44),(84,90),(85,91),(86,92),(87,93),(88,98),(89,94),(90,124),(91,125),(92,95),(93,120),(94,121),(95,122),(98,123),(99,127),(100,151),(101,149),(102,150),(106,156),(107,170),(108,171),(109,172),(110,173),(112,184),(142,8),(153,26),(167,40),(175,6),(178,4),(190,17),(198,19),(199,18),(200,20),(218,37),(226,82),(227,80),(229,81),(242,38),(243,39),(244,65),(269,59),(270,60),(271,61),(272,62),(273,63),(274,64),(275,116),(276,169),(277,168),(278,79),(279,115),(280,106),(281,107),(282,108),(283,109),(284,110),(285,111),(286,136),(287,139),(288,141),(289,112),(290,113),(291,114),(312,66),(337,76),(338,77),(339,78),(340,103),(341,104),(342,105),(343,119),(344,137),(345,138),(346,140),(347,162),(348,163),(349,164),(350,146),(351,142),(352,143),(353,144),(354,117),(355,145),(359,134),(361,83),(368,96),(369,97),(370,99),(371,101),(372,100),(373,102),(374,131),(375,132),(376,133),(377,135),(378,147),(379,148),(380,182),(381,166),(382,167),(386,126),(387,128),(388,129),(389,130),(390,158),(391,159),(392,160),(393,152),(394,153),(395,154),(396,155),(397,180),(398,181),(399,175),(400,174),(401,176),(402,177),(403,178),(404,187),(405,188),(406,185),(407,186),(408,191)]
theorem progOk:ProgOk Tryz.prog (fun i=>look reach i) gmD ipU drawOk:=progOk_of_all (by kernel_rfl)
theorem contract (H:Type) (enc:TypeId×Value→H) (W:World) (base:Nat) (args:Array Value) (ds gs:List (DataW H)) (before:List MemPlace)
  (hval: ∀(j:Nat) t v,Tryz.f4.params[j]? =some t→args[j]? =some v→Value.okWide Tryz.prog W .any base t v)
  (hW:DataW.Whole enc Tryz.prog Tryz.f4.params.toList Rows.pickKnownSpec.vars false W args.toList ds gs before) (hL:laidMetH Tryz.prog Rows.pickKnownRow.laid W) (hS:W.ShapedOpen Tryz.prog) :
  Calls Tryz.prog 4 args W fun e W'=>∃v,e= .returned v∧Rows.pickKnownSpec.post enc Tryz.prog Tryz.f4 false true false false W args v W':=by
 have hW':=hW
 obtain ⟨p,q,hA,hV,rfl,_,_⟩:=hW'
 rw [Tryz.params4] at hA
 obtain ⟨hargs,rfl,rfl⟩:=trodAll_nil hA
 obtain rfl:args= #[]:=by cases args; simp_all
 exact law_contract dMixed progOk (id:=178) rfl (globOK (show laidMetH Tryz.prog Rows.pickKindsRow.laid W from hL) hS) r_PickKnown
  .nil rfl rfl (tb:=4) (by kernel_rfl) Tryz.underlying4 dLaidOut
  (by rw [Tryz.params4]; intro t ht; simp at ht) hW
def wArgs:Array Value:=#[]
def wData (H:Type):List (DataW H):= []
theorem laid_met (os:Os):laidMet Tryz.prog Rows.pickKnownRow.laid ((laidWorld os).forCall (fun _ _=>0) ⟨#[],wArgs, []⟩).memory:=
 laidMet_of_run' 8 (by kernel_rfl) (by kernel_rfl)
theorem reads (os:Os) {H:Type} (enc:TypeId×Value→H): ∃places,DataW.whole enc Tryz.prog ((laidWorld os).forCall (fun _ _=>0) ⟨#[],wArgs, []⟩).memory Tryz.f4.params.toList Rows.pickKnownSpec.vars false wArgs.toList 8=some (wData H, [],places):=
 ⟨[],by kernel_rfl⟩
theorem lifted (os:Os) (started:os.Started) (H:Type) (enc:TypeId×Value→H) (F:Stop.Interp) :
  ReturnsInHanded {} Tryz.checked os 4 .any ((OpenSpec.ofChange Rows.pickKnownSpec).preRow enc Tryz.prog Tryz.f4 Rows.pickKnownRow.domain false Rows.pickKnownRow.laid) (((OpenSpec.ofChange Rows.pickKnownSpec).at F).post enc Tryz.prog Tryz.f4 false true false false):=by
 obtain ⟨places,hx⟩:=reads os enc
 refine returnsInHanded_of_row (C:=Tryz.checked) (s:=OpenSpec.ofChange Rows.pickKnownSpec) dOwn started (by kernel_rfl) Tryz.func4
  (witness_row_at (enc:=enc) (C:=Tryz.checked) false (laidWorld os) wArgs rfl (by kernel_rfl) (by kernel_rfl) (by kernel_rfl)
   (OpenSpec.preRow_of_cond 8 hx (by kernel_rfl) (fun k hk=>by cases hk) (by kernel_rfl) (laid_met os))) ?_
 intro W base args ds gs before hval hW _ _ _ hL hS _
 exact contract H enc W base args ds gs before hval hW hL hS
theorem said:Rows.PickKnownSaid:=
 OpenClaim.holds_of_cond 4 Tryz.f4 rfl rfl rfl rfl rfl rfl rfl ⟨rfl,rfl,rfl,rfl,rfl⟩ rfl rfl rfl rfl rfl (by kernel_rfl) Tryz.func4 (by kernel_rfl)
  (of_decide_eq_true (by kernel_rfl)) (by unfold Func.isWrapper; first | (rw [if_pos (by decide+kernel)]; kernel_rfl) | (rw [if_neg (by decide+kernel)]; exact ⟨rfl,rfl⟩))
  (fun os started H enc _ F=>by rw [OpenClaim.pre_eq_preRow]; exact lifted os started H enc F)
theorem plain (f:FuncId) (fn:Func) (hf:Tryz.pinned.checked.prog.funcNamed "introit/introitlaw19.PickKnown" =some f) (hfn:Tryz.pinned.checked.prog.funcs[f]? =some fn) :
  false=Tryz.pinned.checked.prog.looks []∧∀(j:Nat) t,fn.params[j]? =some t→Tryz.pinned.checked.prog.wantsStandIn t=false:=by
 obtain rfl:f=4:=Option.some.inj ((show Tryz.prog.funcNamed "introit/introitlaw19.PickKnown" =some 4 by kernel_rfl).symm.trans hf) |>.symm
 obtain rfl:fn=Tryz.f4:=(Option.some.inj (Tryz.func4.symm.trans hfn)).symm
 refine ⟨by kernel_rfl,fun j t ht=> ?_⟩
 rw [Tryz.params4] at ht
 simp at ht
theorem pickKnown_card:Rows.PickKnownCardSaid:=
 Claim7.holds_tied_plain_at .later [] _ _ _ _ said (fun _ h=>by cases h) (by kernel_rfl) (fun _ h=>by cases h) pickKnown_row_tie rfl ⟨rfl,rfl⟩ (by kernel_rfl) rfl plain (by kernel_rfl)
end Go.Ab.PN
namespace Go.Proofs.YtmamekpnopidlaaGreatDoor
theorem pickKnown_holds:Rows.PickKnownCardSaid:=Go.Ab.PN.pickKnown_card
#print axioms pickKnown_holds
end Go.Proofs.YtmamekpnopidlaaGreatDoor
