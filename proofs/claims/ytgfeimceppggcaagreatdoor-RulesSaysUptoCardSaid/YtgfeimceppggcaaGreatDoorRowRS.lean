/- RulesSays: any content: what it says of a membership, a rule, rooms, who speaks for somebody, an invite, is as the document says. For every input whose reading is of bulk at most 1048576 the call returns true and each argument reads as it read. Conditions: the row's own ('laid', the bound). -/
import Derived.Test.YtgfeimceppggcaaGreatDoorLaw4
import Derived.Test.YtgfeimceppggcaaGreatDoorLaw13
set_option linter.unusedVariables false
set_option linter.unusedSimpArgs false
set_option linter.defProp false
set_option linter.unnecessarySimpa false
namespace Go.Ab.RSay
open Go.Lib Go.Proofs Go.Proofs.YtgfeimceppggcaaGreatDoor Go.RowKit Go.ChangeShapes Go.WideShapes Go.Ab
set_option maxRecDepth 100000
def reach:List (Nat×Nat):= [(10,16),(17,6),(18,22),(20,29),(22,17),(23,14),(24,7),(25,21),(28,12),(29,10),(30,8),(31,13),(32,11),(33,9),(38,70),(39,74),(40,75),(42,42),(43,35),(44,43),(45,44),(46,34),(47,33),(48,63),(49,64),(54,39),(55,36),(56,37),(57,40),(58,41),(59,38),(60,119),(61,120),(62,80),(63,25),(64,81),(65,108),(67,79),(68,77),(69,46),(70,45),(71,78),(72,180),(74,69),(75,121),(76,122),(77,123),(78,124),(79,82),(80,83),(81,125),(83,114),(84,171),(85,172),(86,173),(87,174),(88,216),(89,175),(90,217),(91,218),(92,176),(93,182),(94,183),(95,184),(96,126),(97,185),(99,242),(100,243),(101,222),(102,223),(103,186),(104,224),(105,225),(106,257),(107,245),(108,246),(109,247),(110,248),(111,226),(112,259),(131,28),(133,59),(141,61),(144,73),(145,72),(147,48),(152,98),(154,118),(155,117),(158,152),(161,179),(163,88),(164,87),(167,111),(169,3),(170,15),(171,18),(172,19),(173,20),(189,47),(190,49),(191,50),(192,52),(193,53),(194,51),(195,58),(196,60),(197,62),(217,84),(218,85),(219,54),(220,86),(221,56),(222,55),(223,89),(224,57),(225,90),(226,91),(227,92),(228,93),(229,94),(230,95),(231,96),(232,97),(233,99),(234,100),(235,102),(236,101),(237,103),(238,106),(239,107),(240,105),(241,104),(269,127),(270,128),(271,129),(272,130),(273,131),(274,132),(275,133),(276,135),(277,134),(278,136),(279,137),(280,138),(281,139),(282,140),(283,141),(284,142),(285,143),(286,144),(287,146),(288,145),(289,147),(290,148),(291,149),(292,150),(293,151),(294,153),(295,154),(296,155),(297,159),(298,158),(299,157),(300,156),(301,160),(302,162),(303,161),(304,163),(305,164),(306,166),(307,165),(308,167),(309,168),(310,169),(311,170),(333,211),(334,212),(335,213),(337,187),(338,188),(339,189),(340,191),(341,192),(342,193),(343,194),(344,195),(345,196),(346,197),(347,198),(348,199),(349,200),(350,201),(351,202),(352,203),(353,204),(354,205),(355,207),(356,208),(357,209),(358,210),(359,214),(360,215),(368,227),(369,228),(370,229),(371,231),(372,230),(373,232),(374,233),(375,234),(376,235),(377,236),(378,237),(379,238),(380,239),(381,240),(382,241),(386,249),(387,250),(388,251),(389,252),(390,253),(391,254),(392,255),(393,260),(394,261),(395,262),(397,266),(398,267),(399,269),(400,268),(401,270),(404,273),(405,274),(408,279)]
def XM (P:Program) (l:List (Nat×Nat)):Bool:=l.all fun p=>match cF p.1 with | some F=>BE P (fun i=>look l i) gmD oq F p.2 | none=>true
theorem zr {l:List (Nat×Nat)} (h:XM Tryz.prog l=true):y5 Tryz.prog (fun i=>look l i) gmD cF oq:=by
 intro id F f' hF hf
 have:=bj.1 h _ (xX hf)
 simp only [hF] at this
 exact .inl this
theorem progOk:y5 Tryz.prog (fun i=>look reach i) gmD cF oq:=zr (by kernel_rfl)
theorem SE (H:Type) (enc:TypeId×Value->H) (W:World) (base:Nat) (args:Array Value) (ds gs:List (DataW H)) (before:List MemPlace)
  (zy: ∀(j:Nat) t v,Tryz.f3.params[j]? =some t->args[j]? =some v->Value.okWide Tryz.prog W .any base t v)
  (hk:Rows.uptoSmall H (ds ++gs)=true)
  (hW:DataW.Whole enc Tryz.prog Tryz.f3.params.toList Rows.rulesSaysSpec.vars false W args.toList ds gs before) (hL:laidMetH Tryz.prog Rows.rulesSaysUptoRow.laid W) (hS:W.ShapedOpen Tryz.prog) :
  Calls Tryz.prog 3 args W fun e W'=>∃v,e= .returned v/\Rows.rulesSaysSpec.post enc Tryz.prog Tryz.f3 false true false false W args v W':=by
 have hW':=hW
 obtain ⟨p,q,hA,hV,rfl,_,_⟩:=hW'
 rw [Tryz.params3] at hA zy
 obtain ⟨v0,vs0,d0,ds0,p0,q0,hargs,rfl,rfl,⟨_,h0⟩,r0⟩:=trodAll_cons hA
 obtain ⟨v1,vs1,d1,ds1,p1,q1,rfl,rfl,rfl,⟨_,h1⟩,r1⟩:=trodAll_cons r0
 obtain ⟨rfl,rfl,rfl⟩:=trodAll_nil r1
 obtain rfl:args= #[v0,v1]:=by cases args; simp_all
 obtain ⟨z0,rfl,_⟩:=okWide_struct UQ.uval (zy 0 25 v0 rfl rfl)
 obtain ⟨z1,rfl,_⟩:=okWide_struct UQ.uval (zy 1 25 v1 rfl rfl)
 have hb:=F8 hk
 simp only [List.cons_append,Rows.uptoBulkAll] at hb
 obtain ⟨x0,e0,b0⟩:=OG UQ (bulkD H) _ h0
 obtain ⟨x1,e1,b1⟩:=OG UQ (bulkD H) _ h1
 have w0:=KJ (fm:=fun i=>look reach i) OK (t:=25) (by decide) (by rw [e0,V.enc_eq]) h0
 have w1:=KJ (fm:=fun i=>look reach i) OK (t:=25) (by decide) (by rw [e1,V.enc_eq]) h1
 rw [e0] at w0
 rw [e1] at w1
 have b0':x0.sz<=Rows.uptoBulk d0:=b0
 have b1':x1.sz<=Rows.uptoBulk d1:=b1
 exact Bw dMixed progOk (id:=169) rfl (globOK (show laidMetH Tryz.prog Rows.rulesKnownRow.laid W from hL) hS) (Ec x0 x1 (by unfold lim; omega) (by unfold lim; omega))
  (.cons w0 (.cons w1 .nil)) rfl rfl (tb:=4) (by kernel_rfl) Tryz.underlying4 SC
  (by
   rw [Tryz.params3]; intro t ht
   have ht':t=25:=by simpa using ht
   subst ht'; exact ⟨by kernel_rfl,of_decide_eq_true (by kernel_rfl)⟩) hW
def Jg:Array Value:=#[.agg #[.int .i64 0, .int .i64 0, .string ⟨#[]⟩, .slice none 0 0, .slice none 0 0], .agg #[.int .i64 0, .int .i64 0, .string ⟨#[]⟩, .slice none 0 0, .slice none 0 0]]
def wData (H:Type):List (DataW H):= [.agg [.lit (.int .i64 0), .lit (.int .i64 0), .lit (.string []), .nil, .nil], .agg [.lit (.int .i64 0), .lit (.int .i64 0), .lit (.string []), .nil, .nil]]
theorem Qv (os:Os):laidMet Tryz.prog Rows.rulesSaysUptoRow.laid ((uf os).forCall (fun _ _=>0) ⟨#[],Jg, []⟩).memory:=
 laidMet_of_run' 8 (by kernel_rfl) (by kernel_rfl)
theorem reads (os:Os) {H:Type} (enc:TypeId×Value->H): ∃places,DataW.whole enc Tryz.prog ((uf os).forCall (fun _ _=>0) ⟨#[],Jg, []⟩).memory Tryz.f3.params.toList Rows.rulesSaysSpec.vars false Jg.toList 8=some (wData H, [],places):=
 ⟨[],by kernel_rfl⟩
theorem lifted (os:Os) (started:os.Started) (H:Type) (enc:TypeId×Value->H) (F:Stop.Interp) :
  ReturnsInHanded {} Tryz.checked os 3 .any ((Rows.OpenSpec.upto Rows.rulesSaysSpec).preRow enc Tryz.prog Tryz.f3 Rows.rulesSaysUptoRow.domain false Rows.rulesSaysUptoRow.laid) (((Rows.OpenSpec.upto Rows.rulesSaysSpec).at F).post enc Tryz.prog Tryz.f3 false true false false):=by
 obtain ⟨places,hx⟩:=reads os enc
 refine returnsInHanded_of_row (C:=Tryz.checked) (s:=Rows.OpenSpec.upto Rows.rulesSaysSpec) dOwn started (by kernel_rfl) Tryz.func3
  (witness_row_at (enc:=enc) (C:=Tryz.checked) false (uf os) Jg rfl (by kernel_rfl) (by kernel_rfl) (by kernel_rfl)
   (OpenSpec.preRow_of_cond 8 hx (by kernel_rfl) (fun k hk=>by cases hk; kernel_rfl) (by kernel_rfl) (Qv os))) ?_
 intro W base args ds gs before zy hW _ hk _ hL hS _
 exact SE H enc W base args ds gs before zy (hk _ rfl) hW hL hS
theorem said:Rows.RulesSaysUptoSaid:=
 OpenClaim.holds_of_cond 3 Tryz.f3 rfl rfl rfl rfl rfl rfl rfl ⟨rfl,rfl,rfl,rfl,rfl⟩ rfl rfl rfl rfl rfl (by kernel_rfl) Tryz.func3 (by kernel_rfl)
  (of_decide_eq_true (by kernel_rfl)) (by unfold Func.isWrapper; first | (rw [if_pos (by decide+kernel)]; kernel_rfl) | (rw [if_neg (by decide+kernel)]; exact ⟨rfl,rfl⟩))
  (fun os started H enc _ F=>by rw [OpenClaim.pre_eq_preRow]; exact lifted os started H enc F)
theorem plain (f:FuncId) (fn:Func) (hf:Tryz.pinned.checked.prog.funcNamed "introit/introitlaw18.RulesSays" =some f) (Kn:Tryz.pinned.checked.prog.funcs[f]? =some fn) :
  false=Tryz.pinned.checked.prog.looks []/\∀(j:Nat) t,fn.params[j]? =some t->Tryz.pinned.checked.prog.wantsStandIn t=false:=by
 obtain rfl:f=3:=br ((show Tryz.prog.funcNamed "introit/introitlaw18.RulesSays" =some 3 by kernel_rfl).symm.trans hf) |>.symm
 obtain rfl:fn=Tryz.f3:=(br (Tryz.func3.symm.trans Kn)).symm
 refine ⟨by kernel_rfl,fun j t ht=> ?_⟩
 rw [Tryz.params3] at ht
 have ht':t=25:=by simpa using Array.mem_of_getElem? ht
 subst ht'
 exact (show Tryz.prog.wantsStandIn 25=false by kernel_rfl)
theorem rulesSays_card:Rows.RulesSaysUptoCardSaid:=
 Claim7.holds_tied_plain_at .later [] _ _ _ _ said (fun _ h=>by cases h) (by kernel_rfl) (fun _ h=>by cases h) rulesSaysUpto_row_tie rfl ⟨rfl,rfl⟩ (by kernel_rfl) rfl plain (by kernel_rfl)
end Go.Ab.RSay
namespace Go.Proofs.YtgfeimceppggcaaGreatDoor
theorem rulesSaysUpto_holds:Rows.RulesSaysUptoCardSaid:=Go.Ab.RSay.rulesSays_card
#print axioms rulesSaysUpto_holds
end Go.Proofs.YtgfeimceppggcaaGreatDoor
