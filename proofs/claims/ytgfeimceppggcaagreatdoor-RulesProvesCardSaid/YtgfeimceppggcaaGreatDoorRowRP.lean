/- RulesProves: an invite that one of the first four keys signed, among the first four signatures, is proved; by another key, with another text, it is as the document says. For every input the call returns true and each argument reads as it read. Conditions: the row's own ('laid'). -/
import Derived.Test.YtgfeimceppggcaaGreatDoorLaw4
import Derived.Test.YtgfeimceppggcaaGreatDoorLaw13
set_option linter.unusedVariables false
set_option linter.unusedSimpArgs false
set_option linter.defProp false
set_option linter.unnecessarySimpa false
namespace Go.Ab.RP
open Go.Lib Go.Proofs Go.Proofs.YtgfeimceppggcaaGreatDoor Go.RowKit Go.ChangeShapes Go.WideShapes Go.Ab
set_option maxRecDepth 100000
def tyS:List TypeId:= [9,5,3]
theorem uO:tyS.all (xn Tryz.prog tyS)=true:=by kernel_rfl
def reach:List (Nat×Nat):= [(17,6),(18,22),(19,27),(20,29),(21,30),(23,14),(25,21),(28,12),(32,11),(38,70),(39,74),(40,75),(41,76),(43,35),(44,43),(45,44),(46,34),(48,63),(49,64),(54,39),(56,37),(57,40),(58,41),(60,119),(61,120),(63,25),(64,81),(65,108),(67,79),(69,46),(70,45),(72,180),(74,69),(79,82),(80,83),(83,114),(84,171),(85,172),(86,173),(87,174),(88,216),(89,175),(90,217),(91,218),(92,176),(96,126),(99,242),(100,243),(103,186),(106,257),(111,226),(131,28),(133,59),(141,61),(142,26),(144,73),(145,72),(147,48),(152,98),(153,71),(154,118),(155,117),(158,152),(161,179),(163,88),(164,87),(167,111),(172,19),(173,20),(174,4),(175,23),(176,24),(190,49),(191,50),(192,52),(193,53),(194,51),(195,58),(196,60),(197,62),(198,66),(199,65),(200,67),(201,68),(218,85),(219,54),(220,86),(221,56),(222,55),(223,89),(224,57),(225,90),(226,91),(227,92),(228,93),(229,94),(230,95),(231,96),(232,97),(233,99),(234,100),(235,102),(236,101),(237,103),(238,106),(239,107),(240,105),(241,104),(242,109),(243,110),(244,112),(245,113),(269,127),(270,128),(271,129),(272,130),(273,131),(274,132),(275,133),(276,135),(277,134),(278,136),(279,137),(280,138),(281,139),(282,140),(283,141),(284,142),(285,143),(286,144),(287,146),(288,145),(289,147),(290,148),(291,149),(292,150),(293,151),(294,153),(295,154),(296,155),(297,159),(298,158),(299,157),(300,156),(301,160),(302,162),(303,161),(304,163),(305,164),(306,166),(307,165),(308,167),(309,168),(310,169),(311,170),(312,177),(333,211),(334,212),(335,213),(337,187),(338,188),(339,189),(340,191),(341,192),(342,193),(343,194),(344,195),(345,196),(346,197),(347,198),(348,199),(349,200),(350,201),(351,202),(352,203),(353,204),(354,205),(355,207),(356,208),(357,209),(358,210),(359,214),(360,215),(361,219),(368,227),(369,228),(370,229),(371,231),(372,230),(373,232),(374,233),(375,234),(376,235),(377,236),(378,237),(379,238),(380,239),(381,240),(382,241),(386,249),(387,250),(388,251),(389,252),(390,253),(391,254),(392,255),(393,260),(397,266),(398,267),(404,273),(405,274),(408,279)]
theorem progOk:Aq Tryz.prog (fun i=>look reach i) gmD cA oU:=AP (by kernel_rfl)
theorem u8_of {P:Program} {w:World} {base:Nat} {sp:Nat->Bool} {held:Bool} {H:Type} {enc:TypeId×Value->H} {t:TypeId} (hu:P.underlying t=some (.int .u8)) {fuel:Nat} {cs:List Value} {x:DataW H×List MemPlace} (h:DataW.trod enc P w base sp held fuel t cs=some x): ∃b:UInt8,jr x.1= .int .u8 (b.toNat:Int):=by
 obtain ⟨n,_,hx,hw⟩:=DataW.trod_int hu h
 subst hx
 simp only [Lit.wf,ak,dZ] at hw
 have h1:(0:Int)<=n:=hw.1
 have h2:n<=255:=hw.2
 refine ⟨UInt8.ofNat n.toNat,?_⟩
 simp only [jr]
 congr 1
 rw [eW,aO aa]; omega
theorem UI (H:Type) (enc:TypeId×Value->H) (W:World) (base:Nat) (args:Array Value) (ds gs:List (DataW H)) (before:List MemPlace)
  (tQ: ∀(j:Nat) t v,Tryz.f4.params[j]? =some t->args[j]? =some v->Value.okWide Tryz.prog W .any base t v)
  (hW:DataW.Whole enc Tryz.prog Tryz.f4.params.toList Rows.rulesProvesSpec.vars false W args.toList ds gs before) (hL:laidMetH Tryz.prog Rows.rulesProvesRow.laid W) (hS:W.ShapedOpen Tryz.prog) :
  Calls Tryz.prog 4 args W fun e W'=>∃v,e= .returned v/\Rows.rulesProvesSpec.post enc Tryz.prog Tryz.f4 false true false false W args v W':=by
 have hW':=hW
 obtain ⟨p,q,hA,hV,rfl,_,_⟩:=hW'
 rw [Tryz.params4] at hA tQ
 obtain ⟨v0,vs0,d0,ds0,p0,q0,hargs,rfl,rfl,⟨_,h0⟩,r0⟩:=trodAll_cons hA
 obtain ⟨v1,vs1,d1,ds1,p1,q1,rfl,rfl,rfl,⟨_,h1⟩,r1⟩:=trodAll_cons r0
 obtain ⟨v2,vs2,d2,ds2,p2,q2,rfl,rfl,rfl,⟨_,h2⟩,r2⟩:=trodAll_cons r1
 obtain ⟨v3,vs3,d3,ds3,p3,q3,rfl,rfl,rfl,⟨_,h3⟩,r3⟩:=trodAll_cons r2
 obtain ⟨v4,vs4,d4,ds4,p4,q4,rfl,rfl,rfl,⟨_,h4⟩,r4⟩:=trodAll_cons r3
 obtain ⟨v5,vs5,d5,ds5,p5,q5,rfl,rfl,rfl,⟨_,h5⟩,r5⟩:=trodAll_cons r4
 obtain ⟨rfl,rfl,rfl⟩:=trodAll_nil r5
 obtain rfl:args= #[v0,v1,v2,v3,v4,v5]:=by cases args; simp_all
 obtain ⟨s0,rfl⟩:=okWide_string Tryz.underlying9 (tQ 0 9 v0 rfl rfl)
 obtain ⟨s1,rfl⟩:=okWide_string Tryz.underlying9 (tQ 1 9 v1 rfl rfl)
 obtain ⟨z2,rfl⟩:=okWide_int Tryz.underlying5 (tQ 2 5 v2 rfl rfl)
 obtain ⟨z3,rfl⟩:=okWide_int Tryz.underlying3 (tQ 3 3 v3 rfl rfl)
 obtain ⟨z4,rfl⟩:=okWide_int Tryz.underlying3 (tQ 4 3 v4 rfl rfl)
 obtain ⟨z5,rfl⟩:=okWide_int Tryz.underlying3 (tQ 5 3 v5 rfl rfl)
 have es: ∀ {fuel:Nat} {cs:List Value} {x:DataW H×List MemPlace},DataW.trod enc Tryz.prog W 0 (fun _=>true) true fuel 9 cs=some x->∃s:Bs,jr x.1= .str s:=fun h=>by
  obtain ⟨s,_,hx,_⟩:=DataW.trod_string Tryz.underlying9 h
  subst hx
  exact ⟨s.data.toList,by simp only [jr]⟩
 obtain ⟨y0,e0⟩:=es h0
 obtain ⟨y1,e1⟩:=es h1
 obtain ⟨y2,e2⟩:=u8_of Tryz.underlying5 h2
 obtain ⟨y3,e3⟩:=Jt Tryz.underlying3 h3
 obtain ⟨y4,e4⟩:=Jt Tryz.underlying3 h4
 obtain ⟨y5,e5⟩:=Jt Tryz.underlying3 h5
 have w0:=qY (fm:=fun i=>look reach i) uO (t:=9) (by decide) rfl (by rw [e0]; rfl) h0
 have w1:=qY (fm:=fun i=>look reach i) uO (t:=9) (by decide) rfl (by rw [e1]; rfl) h1
 have w2:=qY (fm:=fun i=>look reach i) uO (t:=5) (by decide) rfl (by rw [e2]; rfl) h2
 have w3:=qY (fm:=fun i=>look reach i) uO (t:=3) (by decide) rfl (by rw [e3]; rfl) h3
 have w4:=qY (fm:=fun i=>look reach i) uO (t:=3) (by decide) rfl (by rw [e4]; rfl) h4
 have w5:=qY (fm:=fun i=>look reach i) uO (t:=3) (by decide) rfl (by rw [e5]; rfl) h5
 rw [e0] at w0
 rw [e1] at w1
 rw [e2] at w2
 rw [e3] at w3
 rw [e4] at w4
 rw [e5] at w5
 exact C2 dMixed progOk (id:=174) rfl (globOK (show laidMetH Tryz.prog Rows.rulesKnownRow.laid W from hL) hS) (AO y0 y1 y2 y3 y4 y5)
  (.cons w0 (.cons w1 (.cons w2 (.cons w3 (.cons w4 (.cons w5 .nil)))))) rfl rfl (tb:=4) (by kernel_rfl) Tryz.underlying4 UE
  (by
   rw [Tryz.params4]; intro t ht
   have ht':t=9∨t=5∨t=3:=by simpa using ht
   rcases ht' with rfl | rfl | rfl <;> exact ⟨by kernel_rfl,of_decide_eq_true (by kernel_rfl)⟩) hW
def Ld:Array Value:=#[.string ⟨#[]⟩, .string ⟨#[]⟩, .int .u8 0, .int .i64 0, .int .i64 0, .int .i64 0]
def wData (H:Type):List (DataW H):= [.lit (.string []), .lit (.string []), .lit (.int .u8 0), .lit (.int .i64 0), .lit (.int .i64 0), .lit (.int .i64 0)]
theorem SU (os:Os):laidMet Tryz.prog Rows.rulesProvesRow.laid ((vm os).forCall (fun _ _=>0) ⟨#[],Ld, []⟩).memory:=
 laidMet_of_run' 8 (by kernel_rfl) (by kernel_rfl)
theorem reads (os:Os) {H:Type} (enc:TypeId×Value->H): ∃places,DataW.whole enc Tryz.prog ((vm os).forCall (fun _ _=>0) ⟨#[],Ld, []⟩).memory Tryz.f4.params.toList Rows.rulesProvesSpec.vars false Ld.toList 8=some (wData H, [],places):=
 ⟨[],by kernel_rfl⟩
theorem lifted (os:Os) (started:os.Started) (H:Type) (enc:TypeId×Value->H) (F:Stop.Interp) :
  ReturnsInHanded {} Tryz.checked os 4 .any ((OpenSpec.ofChange Rows.rulesProvesSpec).preRow enc Tryz.prog Tryz.f4 Rows.rulesProvesRow.domain false Rows.rulesProvesRow.laid) (((OpenSpec.ofChange Rows.rulesProvesSpec).at F).post enc Tryz.prog Tryz.f4 false true false false):=by
 obtain ⟨places,hx⟩:=reads os enc
 refine returnsInHanded_of_row (C:=Tryz.checked) (s:=OpenSpec.ofChange Rows.rulesProvesSpec) dOwn started (by kernel_rfl) Tryz.func4
  (witness_row_at (enc:=enc) (C:=Tryz.checked) false (vm os) Ld rfl (by kernel_rfl) (by kernel_rfl) (by kernel_rfl)
   (OpenSpec.preRow_of_cond 8 hx (by kernel_rfl) (fun k hk=>by cases hk) (by kernel_rfl) (SU os))) ?_
 intro W base args ds gs before tQ hW _ _ _ hL hS _
 exact UI H enc W base args ds gs before tQ hW hL hS
theorem said:Rows.RulesProvesSaid:=
 OpenClaim.holds_of_cond 4 Tryz.f4 rfl rfl rfl rfl rfl rfl rfl ⟨rfl,rfl,rfl,rfl,rfl⟩ rfl rfl rfl rfl rfl (by kernel_rfl) Tryz.func4 (by kernel_rfl)
  (of_decide_eq_true (by kernel_rfl)) (by unfold Func.isWrapper; first | (rw [if_pos (by decide+kernel)]; kernel_rfl) | (rw [if_neg (by decide+kernel)]; exact ⟨rfl,rfl⟩))
  (fun os started H enc _ F=>by rw [OpenClaim.pre_eq_preRow]; exact lifted os started H enc F)
theorem plain (f:FuncId) (fn:Func) (hf:Tryz.pinned.checked.prog.funcNamed "introit/introitlaw18.RulesProves" =some f) (Qq:Tryz.pinned.checked.prog.funcs[f]? =some fn) :
  false=Tryz.pinned.checked.prog.looks []/\∀(j:Nat) t,fn.params[j]? =some t->Tryz.pinned.checked.prog.wantsStandIn t=false:=by
 obtain rfl:f=4:=bT ((show Tryz.prog.funcNamed "introit/introitlaw18.RulesProves" =some 4 by kernel_rfl).symm.trans hf) |>.symm
 obtain rfl:fn=Tryz.f4:=(bT (Tryz.func4.symm.trans Qq)).symm
 refine ⟨by kernel_rfl,fun j t ht=> ?_⟩
 rw [Tryz.params4] at ht
 have ht':t=9∨t=5∨t=3:=by simpa using Array.mem_of_getElem? ht
 rcases ht' with rfl | rfl | rfl
 ·exact (show Tryz.prog.wantsStandIn 9=false by kernel_rfl)
 ·exact (show Tryz.prog.wantsStandIn 5=false by kernel_rfl)
 ·exact (show Tryz.prog.wantsStandIn 3=false by kernel_rfl)
theorem rulesProves_card:Rows.RulesProvesCardSaid:=
 Claim7.holds_tied_plain_at .later [] _ _ _ _ said (fun _ h=>by cases h) (by kernel_rfl) (fun _ h=>by cases h) rulesProves_row_tie rfl ⟨rfl,rfl⟩ (by kernel_rfl) rfl plain (by kernel_rfl)
end Go.Ab.RP
namespace Go.Proofs.YtgfeimceppggcaaGreatDoor
theorem rulesProves_holds:Rows.RulesProvesCardSaid:=Go.Ab.RP.rulesProves_card
#print axioms rulesProves_holds
end Go.Proofs.YtgfeimceppggcaaGreatDoor
