/- PickKinds: of each membership the slots are those of a message, and as many more as the document says. For every input the call returns true and each argument reads as it read. Conditions: the row's own ('laid'). -/
import Derived.Test.YtmamekpnopidlaaGreatDoorLaw4
import Derived.Test.YtmamekpnopidlaaGreatDoorLaw9
set_option linter.unusedVariables false
set_option linter.unusedSimpArgs false
set_option linter.defProp false
set_option linter.unnecessarySimpa false
namespace Go.Ab.PK
open Go.Lib Go.Proofs Go.Proofs.YtmamekpnopidlaaGreatDoor Go.RowKit Go.ChangeShapes Go.WideShapes Go.Ab
set_option maxRecDepth 100000
def tyS:List TypeId:= [3,4]
theorem tyS_ok:tyS.all (plainTy Tryz.prog tyS)=true:=by kernel_rfl
def reach:List (Nat×Nat):= [(1,5),(5,10),(18,9),(20,11),(25,36),(27,27),(28,29),(29,30),(30,31),(37,28),(38,25),(39,32),(40,33),(43,49),(45,23),(46,48),(48,57),(49,58),(53,47),(54,50),(55,51),(60,52),(61,53),(63,69),(64,43),(65,75),(67,70),(68,71),(72,72),(73,73),(74,24),(75,85),(76,86),(77,87),(78,88),(82,89),(83,44),(84,90),(85,91),(86,92),(87,93),(88,98),(89,94),(90,124),(91,125),(92,95),(93,120),(94,121),(95,122),(98,123),(99,127),(100,151),(101,149),(102,150),(106,156),(107,170),(108,171),(109,172),(110,173),(112,184),(131,7),(142,8),(144,22),(145,21),(153,26),(154,42),(155,41),(161,67),(167,40),(175,6),(177,3),(190,17),(198,19),(199,18),(200,20),(218,37),(226,82),(227,80),(229,81),(242,38),(243,39),(244,65),(269,59),(270,60),(271,61),(272,62),(273,63),(274,64),(275,116),(276,169),(277,168),(278,79),(279,115),(280,106),(281,107),(282,108),(283,109),(284,110),(285,111),(286,136),(287,139),(288,141),(289,112),(290,113),(291,114),(312,66),(337,76),(338,77),(339,78),(340,103),(341,104),(342,105),(343,119),(344,137),(345,138),(346,140),(347,162),(348,163),(349,164),(350,146),(351,142),(352,143),(353,144),(354,117),(355,145),(359,134),(361,83),(368,96),(369,97),(370,99),(371,101),(372,100),(373,102),(374,131),(375,132),(376,133),(377,135),(378,147),(379,148),(380,182),(381,166),(382,167),(386,126),(387,128),(388,129),(389,130),(390,158),(391,159),(392,160),(393,152),(394,153),(395,154),(396,155),(397,180),(398,181),(399,175),(400,174),(401,176),(402,177),(403,178),(404,187),(405,188),(406,185),(407,186),(408,191)]
theorem progOk:ProgOk Tryz.prog (fun i=>look reach i) gmD ipU drawOk:=progOk_of_all (by kernel_rfl)
theorem contract (H:Type) (enc:TypeId×Value→H) (W:World) (base:Nat) (args:Array Value) (ds gs:List (DataW H)) (before:List MemPlace)
  (hval: ∀(j:Nat) t v,Tryz.f3.params[j]? =some t→args[j]? =some v→Value.okWide Tryz.prog W .any base t v)
  (hW:DataW.Whole enc Tryz.prog Tryz.f3.params.toList Rows.pickKindsSpec.vars false W args.toList ds gs before) (hL:laidMetH Tryz.prog Rows.pickKindsRow.laid W) (hS:W.ShapedOpen Tryz.prog) :
  Calls Tryz.prog 3 args W fun e W'=>∃v,e= .returned v∧Rows.pickKindsSpec.post enc Tryz.prog Tryz.f3 false true false false W args v W':=by
 have hW':=hW
 obtain ⟨p,q,hA,hV,rfl,_,_⟩:=hW'
 rw [Tryz.params3] at hA hval
 obtain ⟨v0,vs0,d0,ds0,p0,q0,hargs,rfl,rfl,⟨_,h0⟩,r0⟩:=trodAll_cons hA
 obtain ⟨v1,vs1,d1,ds1,p1,q1,rfl,rfl,rfl,⟨_,h1⟩,r1⟩:=trodAll_cons r0
 obtain ⟨v2,vs2,d2,ds2,p2,q2,rfl,rfl,rfl,⟨_,h2⟩,r2⟩:=trodAll_cons r1
 obtain ⟨v3,vs3,d3,ds3,p3,q3,rfl,rfl,rfl,⟨_,h3⟩,r3⟩:=trodAll_cons r2
 obtain ⟨rfl,rfl,rfl⟩:=trodAll_nil r3
 obtain rfl:args= #[v0,v1,v2,v3]:=by cases args; simp_all
 obtain ⟨z,rfl⟩:=okWide_int Tryz.underlying3 (hval 0 3 v0 rfl rfl)
 obtain ⟨x1,rfl⟩:=okWide_bool Tryz.underlying4 (hval 1 4 v1 rfl rfl)
 obtain ⟨x2,rfl⟩:=okWide_bool Tryz.underlying4 (hval 2 4 v2 rfl rfl)
 obtain ⟨x3,rfl⟩:=okWide_bool Tryz.underlying4 (hval 3 4 v3 rfl rfl)
 obtain ⟨n,e0⟩:=int_of Tryz.underlying3 h0
 have eb: ∀ {fuel:Nat} {cs:List Value} {x:DataW H×List MemPlace},DataW.trod enc Tryz.prog W 0 (fun _=>true) true fuel 4 cs=some x→∃b:Bool,encD x.1= .bool b:=fun h=>by
  obtain ⟨n,_,hx⟩:=DataW.trod_bool Tryz.underlying4 h
  subst hx
  exact ⟨n,by simp only [encD]⟩
 obtain ⟨y1,e1⟩:=eb h1
 obtain ⟨y2,e2⟩:=eb h2
 obtain ⟨y3,e3⟩:=eb h3
 have w0:=arg_one (fm:=fun i=>look reach i) tyS_ok (t:=3) (by decide) rfl (by rw [e0]; rfl) h0
 have w1:=arg_one (fm:=fun i=>look reach i) tyS_ok (t:=4) (by decide) rfl (by rw [e1]; rfl) h1
 have w2:=arg_one (fm:=fun i=>look reach i) tyS_ok (t:=4) (by decide) rfl (by rw [e2]; rfl) h2
 have w3:=arg_one (fm:=fun i=>look reach i) tyS_ok (t:=4) (by decide) rfl (by rw [e3]; rfl) h3
 rw [e0] at w0
 rw [e1] at w1
 rw [e2] at w2
 rw [e3] at w3
 exact law_contract dMixed progOk (id:=177) rfl (globOK hL hS) (r_PickKinds n y1 y2 y3)
  (.cons w0 (.cons w1 (.cons w2 (.cons w3 .nil)))) rfl rfl (tb:=4) (by kernel_rfl) Tryz.underlying4 dLaidOut
  (by
   rw [Tryz.params3]; intro t ht
   have ht':t=3∨t=4:=by simpa using ht
   rcases ht' with rfl | rfl <;> exact ⟨by kernel_rfl,of_decide_eq_true (by kernel_rfl)⟩) hW
def wArgs:Array Value:=#[.int .i64 0, .bool false, .bool false, .bool false]
def wData (H:Type):List (DataW H):= [.lit (.int .i64 0), .lit (.bool false), .lit (.bool false), .lit (.bool false)]
theorem laid_met (os:Os):laidMet Tryz.prog Rows.pickKindsRow.laid ((laidWorld os).forCall (fun _ _=>0) ⟨#[],wArgs, []⟩).memory:=
 laidMet_of_run' 8 (by kernel_rfl) (by kernel_rfl)
theorem reads (os:Os) {H:Type} (enc:TypeId×Value→H): ∃places,DataW.whole enc Tryz.prog ((laidWorld os).forCall (fun _ _=>0) ⟨#[],wArgs, []⟩).memory Tryz.f3.params.toList Rows.pickKindsSpec.vars false wArgs.toList 8=some (wData H, [],places):=
 ⟨[],by kernel_rfl⟩
theorem lifted (os:Os) (started:os.Started) (H:Type) (enc:TypeId×Value→H) (F:Stop.Interp) :
  ReturnsInHanded {} Tryz.checked os 3 .any ((OpenSpec.ofChange Rows.pickKindsSpec).preRow enc Tryz.prog Tryz.f3 Rows.pickKindsRow.domain false Rows.pickKindsRow.laid) (((OpenSpec.ofChange Rows.pickKindsSpec).at F).post enc Tryz.prog Tryz.f3 false true false false):=by
 obtain ⟨places,hx⟩:=reads os enc
 refine returnsInHanded_of_row (C:=Tryz.checked) (s:=OpenSpec.ofChange Rows.pickKindsSpec) dOwn started (by kernel_rfl) Tryz.func3
  (witness_row_at (enc:=enc) (C:=Tryz.checked) false (laidWorld os) wArgs rfl (by kernel_rfl) (by kernel_rfl) (by kernel_rfl)
   (OpenSpec.preRow_of_cond 8 hx (by kernel_rfl) (fun k hk=>by cases hk) (by kernel_rfl) (laid_met os))) ?_
 intro W base args ds gs before hval hW _ _ _ hL hS _
 exact contract H enc W base args ds gs before hval hW hL hS
theorem said:Rows.PickKindsSaid:=
 OpenClaim.holds_of_cond 3 Tryz.f3 rfl rfl rfl rfl rfl rfl rfl ⟨rfl,rfl,rfl,rfl,rfl⟩ rfl rfl rfl rfl rfl (by kernel_rfl) Tryz.func3 (by kernel_rfl)
  (of_decide_eq_true (by kernel_rfl)) (by unfold Func.isWrapper; first | (rw [if_pos (by decide+kernel)]; kernel_rfl) | (rw [if_neg (by decide+kernel)]; exact ⟨rfl,rfl⟩))
  (fun os started H enc _ F=>by rw [OpenClaim.pre_eq_preRow]; exact lifted os started H enc F)
theorem plain (f:FuncId) (fn:Func) (hf:Tryz.pinned.checked.prog.funcNamed "introit/introitlaw19.PickKinds" =some f) (hfn:Tryz.pinned.checked.prog.funcs[f]? =some fn) :
  false=Tryz.pinned.checked.prog.looks []∧∀(j:Nat) t,fn.params[j]? =some t→Tryz.pinned.checked.prog.wantsStandIn t=false:=by
 obtain rfl:f=3:=Option.some.inj ((show Tryz.prog.funcNamed "introit/introitlaw19.PickKinds" =some 3 by kernel_rfl).symm.trans hf) |>.symm
 obtain rfl:fn=Tryz.f3:=(Option.some.inj (Tryz.func3.symm.trans hfn)).symm
 refine ⟨by kernel_rfl,fun j t ht=> ?_⟩
 rw [Tryz.params3] at ht
 have ht':t=3∨t=4:=by simpa using Array.mem_of_getElem? ht
 rcases ht' with rfl | rfl
 ·exact (show Tryz.prog.wantsStandIn 3=false by kernel_rfl)
 ·exact (show Tryz.prog.wantsStandIn 4=false by kernel_rfl)
theorem pickKinds_card:Rows.PickKindsCardSaid:=
 Claim7.holds_tied_plain_at .later [] _ _ _ _ said (fun _ h=>by cases h) (by kernel_rfl) (fun _ h=>by cases h) pickKinds_row_tie rfl ⟨rfl,rfl⟩ (by kernel_rfl) rfl plain (by kernel_rfl)
end Go.Ab.PK
namespace Go.Proofs.YtmamekpnopidlaaGreatDoor
theorem pickKinds_holds:Rows.PickKindsCardSaid:=Go.Ab.PK.pickKinds_card
#print axioms pickKinds_holds
end Go.Proofs.YtmamekpnopidlaaGreatDoor
