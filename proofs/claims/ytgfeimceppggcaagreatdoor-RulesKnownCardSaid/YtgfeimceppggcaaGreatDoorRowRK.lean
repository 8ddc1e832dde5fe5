/- RulesKnown: what the document says of conditions, of who speaks for somebody, of the first four. The call returns true. Conditions: the row's own ('laid'). -/
import Derived.Test.YtgfeimceppggcaaGreatDoorLaw4
import Derived.Test.YtgfeimceppggcaaGreatDoorLaw10
set_option linter.unusedVariables false
set_option linter.unusedSimpArgs false
set_option linter.defProp false
set_option linter.unnecessarySimpa false
namespace Go.Ab.RK
open Go.Lib Go.Proofs Go.Proofs.YtgfeimceppggcaaGreatDoor Go.RowKit Go.ChangeShapes Go.WideShapes Go.Ab
set_option maxRecDepth 100000
def reach:List (Nat×Nat):= [(10,16),(17,6),(18,22),(19,27),(20,29),(21,30),(22,17),(23,14),(25,21),(28,12),(29,10),(30,8),(38,70),(39,74),(40,75),(41,76),(42,42),(43,35),(44,43),(45,44),(46,34),(48,63),(49,64),(54,39),(55,36),(60,119),(61,120),(62,80),(63,25),(64,81),(65,108),(67,79),(68,77),(72,180),(73,181),(74,69),(75,121),(76,122),(77,123),(78,124),(82,221),(83,114),(84,171),(85,172),(86,173),(87,174),(88,216),(89,175),(90,217),(91,218),(92,176),(93,182),(94,183),(95,184),(98,244),(99,242),(100,243),(101,222),(102,223),(106,257),(107,245),(108,246),(109,247),(110,248),(112,259),(131,28),(142,26),(144,73),(145,72),(153,71),(154,118),(155,117),(161,179),(163,88),(164,87),(167,111),(172,19),(175,23),(176,24),(179,5),(180,31),(181,32),(190,49),(191,50),(192,52),(193,53),(194,51),(198,66),(199,65),(200,67),(201,68),(218,85),(219,54),(220,86),(221,56),(222,55),(223,89),(224,57),(225,90),(226,91),(227,92),(228,93),(229,94),(230,95),(231,96),(242,109),(243,110),(244,112),(245,113),(269,127),(270,128),(271,129),(272,130),(273,131),(274,132),(275,133),(276,135),(277,134),(278,136),(279,137),(280,138),(281,139),(282,140),(283,141),(284,142),(285,143),(286,144),(287,146),(288,145),(289,147),(290,148),(291,149),(312,177),(337,187),(338,188),(339,189),(340,191),(341,192),(342,193),(343,194),(344,195),(345,196),(346,197),(347,198),(348,199),(349,200),(350,201),(351,202),(352,203),(353,204),(354,205),(355,207),(359,214),(361,219),(368,227),(369,228),(370,229),(371,231),(372,230),(373,232),(374,233),(375,234),(376,235),(377,236),(378,237),(379,238),(380,239),(381,240),(382,241),(386,249),(387,250),(388,251),(389,252),(390,253),(391,254),(392,255),(393,260),(394,261),(395,262),(396,263),(397,266),(398,267),(399,269),(400,268),(401,270),(402,271),(403,272),(404,273),(405,274),(406,277),(407,278),(408,279)]
theorem progOk:ProgOk Tryz.prog (fun i=>look reach i) gmD ipU drawOk:=progOk_of_all (by kernel_rfl)
theorem contract (H:Type) (enc:TypeId×Value→H) (W:World) (base:Nat) (args:Array Value) (ds gs:List (DataW H)) (before:List MemPlace)
  (hval: ∀(j:Nat) t v,Tryz.f5.params[j]? =some t→args[j]? =some v→Value.okWide Tryz.prog W .any base t v)
  (hW:DataW.Whole enc Tryz.prog Tryz.f5.params.toList Rows.rulesKnownSpec.vars false W args.toList ds gs before) (hL:laidMetH Tryz.prog Rows.rulesKnownRow.laid W) (hS:W.ShapedOpen Tryz.prog) :
  Calls Tryz.prog 5 args W fun e W'=>∃v,e= .returned v∧Rows.rulesKnownSpec.post enc Tryz.prog Tryz.f5 false true false false W args v W':=by
 have hW':=hW
 obtain ⟨p,q,hA,hV,rfl,_,_⟩:=hW'
 rw [Tryz.params5] at hA
 obtain ⟨hargs,rfl,rfl⟩:=trodAll_nil hA
 obtain rfl:args= #[]:=by cases args; simp_all
 exact law_contract dMixed progOk (id:=179) rfl (globOK (show laidMetH Tryz.prog Rows.rulesKnownRow.laid W from hL) hS) r_RulesKnown
  .nil rfl rfl (tb:=4) (by kernel_rfl) Tryz.underlying4 dLaidOut
  (by rw [Tryz.params5]; intro t ht; simp at ht) hW
def wArgs:Array Value:=#[]
def wData (H:Type):List (DataW H):= []
theorem laid_met (os:Os):laidMet Tryz.prog Rows.rulesKnownRow.laid ((laidWorld os).forCall (fun _ _=>0) ⟨#[],wArgs, []⟩).memory:=
 laidMet_of_run' 8 (by kernel_rfl) (by kernel_rfl)
theorem reads (os:Os) {H:Type} (enc:TypeId×Value→H): ∃places,DataW.whole enc Tryz.prog ((laidWorld os).forCall (fun _ _=>0) ⟨#[],wArgs, []⟩).memory Tryz.f5.params.toList Rows.rulesKnownSpec.vars false wArgs.toList 8=some (wData H, [],places):=
 ⟨[],by kernel_rfl⟩
theorem lifted (os:Os) (started:os.Started) (H:Type) (enc:TypeId×Value→H) (F:Stop.Interp) :
  ReturnsInHanded {} Tryz.checked os 5 .any ((OpenSpec.ofChange Rows.rulesKnownSpec).preRow enc Tryz.prog Tryz.f5 Rows.rulesKnownRow.domain false Rows.rulesKnownRow.laid) (((OpenSpec.ofChange Rows.rulesKnownSpec).at F).post enc Tryz.prog Tryz.f5 false true false false):=by
 obtain ⟨places,hx⟩:=reads os enc
 refine returnsInHanded_of_row (C:=Tryz.checked) (s:=OpenSpec.ofChange Rows.rulesKnownSpec) dOwn started (by kernel_rfl) Tryz.func5
  (witness_row_at (enc:=enc) (C:=Tryz.checked) false (laidWorld os) wArgs rfl (by kernel_rfl) (by kernel_rfl) (by kernel_rfl)
   (OpenSpec.preRow_of_cond 8 hx (by kernel_rfl) (fun k hk=>by cases hk) (by kernel_rfl) (laid_met os))) ?_
 intro W base args ds gs before hval hW _ _ _ hL hS _
 exact contract H enc W base args ds gs before hval hW hL hS
theorem said:Rows.RulesKnownSaid:=
 OpenClaim.holds_of_cond 5 Tryz.f5 rfl rfl rfl rfl rfl rfl rfl ⟨rfl,rfl,rfl,rfl,rfl⟩ rfl rfl rfl rfl rfl (by kernel_rfl) Tryz.func5 (by kernel_rfl)
  (of_decide_eq_true (by kernel_rfl)) (by unfold Func.isWrapper; first | (rw [if_pos (by decide+kernel)]; kernel_rfl) | (rw [if_neg (by decide+kernel)]; exact ⟨rfl,rfl⟩))
  (fun os started H enc _ F=>by rw [OpenClaim.pre_eq_preRow]; exact lifted os started H enc F)
theorem plain (f:FuncId) (fn:Func) (hf:Tryz.pinned.checked.prog.funcNamed "introit/introitlaw18.RulesKnown" =some f) (hfn:Tryz.pinned.checked.prog.funcs[f]? =some fn) :
  false=Tryz.pinned.checked.prog.looks []∧∀(j:Nat) t,fn.params[j]? =some t→Tryz.pinned.checked.prog.wantsStandIn t=false:=by
 obtain rfl:f=5:=Option.some.inj ((show Tryz.prog.funcNamed "introit/introitlaw18.RulesKnown" =some 5 by kernel_rfl).symm.trans hf) |>.symm
 obtain rfl:fn=Tryz.f5:=(Option.some.inj (Tryz.func5.symm.trans hfn)).symm
 refine ⟨by kernel_rfl,fun j t ht=> ?_⟩
 rw [Tryz.params5] at ht
 simp at ht
theorem rulesKnown_card:Rows.RulesKnownCardSaid:=
 Claim7.holds_tied_plain_at .later [] _ _ _ _ said (fun _ h=>by cases h) (by kernel_rfl) (fun _ h=>by cases h) rulesKnown_row_tie rfl ⟨rfl,rfl⟩ (by kernel_rfl) rfl plain (by kernel_rfl)
end Go.Ab.RK
namespace Go.Proofs.YtgfeimceppggcaaGreatDoor
theorem rulesKnown_holds:Rows.RulesKnownCardSaid:=Go.Ab.RK.rulesKnown_card
#print axioms rulesKnown_holds
end Go.Proofs.YtgfeimceppggcaaGreatDoor
