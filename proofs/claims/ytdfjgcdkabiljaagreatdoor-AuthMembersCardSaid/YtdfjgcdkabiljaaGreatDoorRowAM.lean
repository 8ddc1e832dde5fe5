/- AuthMembers: a change of a membership is allowed in a room with a create event just if the table allows its facts, of a User's key. For every input the call returns true and each argument reads as it read. Conditions: the row's own ('laid'). -/
import Derived.Test.YtdfjgcdkabiljaaGreatDoorLaw4
import Derived.Test.YtdfjgcdkabiljaaGreatDoorLaw7
set_option linter.unusedVariables false
set_option linter.unusedSimpArgs false
set_option linter.defProp false
set_option linter.unnecessarySimpa false
namespace Go.Ab.AMem
open Go.Lib Go.Proofs Go.Proofs.YtdfjgcdkabiljaaGreatDoor Go.RowKit Go.ChangeShapes Go.WideShapes Go.Ab
set_option maxRecDepth 100000
def tyS:List TypeId:= [3,4]
theorem tyS_ok:tyS.all (plainTy Tryz.prog tyS)=true:=by kernel_rfl
def reach:List (Nat×Nat):= [(3,26),(18,28),(19,32),(20,31),(23,40),(25,36),(26,77),(28,37),(30,41),(36,127),(38,79),(39,84),(40,85),(43,95),(46,60),(48,93),(49,94),(50,133),(51,132),(52,134),(55,59),(60,141),(61,142),(62,58),(63,61),(65,150),(66,185),(68,118),(72,188),(74,78),(75,176),(76,177),(77,178),(78,179),(83,135),(84,200),(85,201),(86,202),(87,203),(88,257),(89,204),(90,258),(91,259),(92,205),(93,233),(94,234),(95,235),(99,318),(100,319),(101,292),(102,293),(106,350),(107,334),(108,335),(109,336),(110,337),(112,364),(138,175),(161,187),(166,232),(215,171),(417,8),(418,10),(420,4),(421,12),(422,13),(423,14),(424,15),(425,16),(427,17),(429,19),(438,38),(439,39),(440,42),(443,50),(444,51),(445,52),(446,53),(447,54),(448,55),(451,62),(456,96),(458,102),(459,103),(460,104),(461,105),(462,106),(463,107),(464,108),(465,109),(466,110),(467,111),(468,112),(469,113),(470,114),(471,115),(474,119),(475,120),(476,121),(478,152),(479,151),(480,166),(481,167),(483,169),(484,170),(485,172),(486,173),(487,174)]
theorem progOk:ProgOk Tryz.prog (fun i=>look reach i) gmD ipU drawOk:=progOk_of_all (by kernel_rfl)
theorem contract (H:Type) (enc:TypeId×Value→H) (W:World) (base:Nat) (args:Array Value) (ds gs:List (DataW H)) (before:List MemPlace)
  (hval: ∀(j:Nat) t v,Tryz.f4.params[j]? =some t→args[j]? =some v→Value.okWide Tryz.prog W .any base t v)
  (hW:DataW.Whole enc Tryz.prog Tryz.f4.params.toList Rows.authMembersSpec.vars false W args.toList ds gs before) (hL:laidMetH Tryz.prog Rows.authMembersRow.laid W) (hS:W.ShapedOpen Tryz.prog) :
  Calls Tryz.prog 4 args W fun e W'=>∃v,e= .returned v∧Rows.authMembersSpec.post enc Tryz.prog Tryz.f4 false true false false W args v W':=by
 have hW':=hW
 obtain ⟨p,q,hA,hV,rfl,_,_⟩:=hW'
 rw [Tryz.params4] at hA hval
 obtain ⟨v0,vs0,d0,ds0,p0,q0,hargs,rfl,rfl,⟨_,h0⟩,r0⟩:=trodAll_cons hA
 obtain ⟨v1,vs1,d1,ds1,p1,q1,rfl,rfl,rfl,⟨_,h1⟩,r1⟩:=trodAll_cons r0
 obtain ⟨v2,vs2,d2,ds2,p2,q2,rfl,rfl,rfl,⟨_,h2⟩,r2⟩:=trodAll_cons r1
 obtain ⟨v3,vs3,d3,ds3,p3,q3,rfl,rfl,rfl,⟨_,h3⟩,r3⟩:=trodAll_cons r2
 obtain ⟨rfl,rfl,rfl⟩:=trodAll_nil r3
 obtain rfl:args= #[v0,v1,v2,v3]:=by cases args; simp_all
 obtain ⟨z0,rfl⟩:=okWide_int Tryz.underlying3 (hval 0 3 v0 rfl rfl)
 obtain ⟨z1,rfl⟩:=okWide_int Tryz.underlying3 (hval 1 3 v1 rfl rfl)
 obtain ⟨z2,rfl⟩:=okWide_int Tryz.underlying3 (hval 2 3 v2 rfl rfl)
 obtain ⟨a3,n3,c3,rfl⟩:=okWide_slice Tryz.underlying37 (hval 3 37 v3 rfl rfl)
 obtain ⟨y0,e0⟩:=int_of Tryz.underlying3 h0
 obtain ⟨y1,e1⟩:=int_of Tryz.underlying3 h1
 obtain ⟨y2,e2⟩:=int_of Tryz.underlying3 h2
 obtain ⟨more,l3,w3⟩:=rv_ints (fm:=fun i=>look reach i) Tryz.underlying37 Tryz.underlying3 (by kernel_rfl) h3
 have w0:=arg_one (fm:=fun i=>look reach i) tyS_ok (t:=3) (by decide) rfl (by rw [e0]; rfl) h0
 have w1:=arg_one (fm:=fun i=>look reach i) tyS_ok (t:=3) (by decide) rfl (by rw [e1]; rfl) h1
 have w2:=arg_one (fm:=fun i=>look reach i) tyS_ok (t:=3) (by decide) rfl (by rw [e2]; rfl) h2
 rw [e0] at w0
 rw [e1] at w1
 rw [e2] at w2
 exact law_contract dMixed progOk (id:=420) rfl (globOK hL hS) (r_AuthMembers y0 y1 y2 more)
  (.cons w0 (.cons w1 (.cons w2 (.cons w3 .nil)))) rfl rfl (tb:=4) (by kernel_rfl) Tryz.underlying4 dLaidOut
  (by
   rw [Tryz.params4]; intro t ht
   have ht':t=3∨t=37:=by simpa using ht
   rcases ht' with rfl | rfl <;> exact ⟨by kernel_rfl,of_decide_eq_true (by kernel_rfl)⟩) hW
def wArgs:Array Value:=#[.int .i64 0, .int .i64 0, .int .i64 0, .slice none 0 0]
def wData (H:Type):List (DataW H):= [.lit (.int .i64 0), .lit (.int .i64 0), .lit (.int .i64 0), .nil]
theorem laid_met (os:Os):laidMet Tryz.prog Rows.authMembersRow.laid ((laidWorld os).forCall (fun _ _=>0) ⟨#[],wArgs, []⟩).memory:=
 laidMet_of_run' 8 (by kernel_rfl) (by kernel_rfl)
theorem reads (os:Os) {H:Type} (enc:TypeId×Value→H): ∃places,DataW.whole enc Tryz.prog ((laidWorld os).forCall (fun _ _=>0) ⟨#[],wArgs, []⟩).memory Tryz.f4.params.toList Rows.authMembersSpec.vars false wArgs.toList 8=some (wData H, [],places):=
 ⟨[],by kernel_rfl⟩
theorem lifted (os:Os) (started:os.Started) (H:Type) (enc:TypeId×Value→H) (F:Stop.Interp) :
  ReturnsInHanded {} Tryz.checked os 4 .any ((OpenSpec.ofChange Rows.authMembersSpec).preRow enc Tryz.prog Tryz.f4 Rows.authMembersRow.domain false Rows.authMembersRow.laid) (((OpenSpec.ofChange Rows.authMembersSpec).at F).post enc Tryz.prog Tryz.f4 false true false false):=by
 obtain ⟨places,hx⟩:=reads os enc
 refine returnsInHanded_of_row (C:=Tryz.checked) (s:=OpenSpec.ofChange Rows.authMembersSpec) dOwn started (by kernel_rfl) Tryz.func4
  (witness_row_at (enc:=enc) (C:=Tryz.checked) false (laidWorld os) wArgs rfl (by kernel_rfl) (by kernel_rfl) (by kernel_rfl)
   (OpenSpec.preRow_of_cond 8 hx (by kernel_rfl) (fun k hk=>by cases hk) (by kernel_rfl) (laid_met os))) ?_
 intro W base args ds gs before hval hW _ _ _ hL hS _
 exact contract H enc W base args ds gs before hval hW hL hS
theorem j1:(Rows.authMembersRow.inPlace == Tryz.prog.inPlace 4)=true:=by kernel_rfl
theorem j2:(Rows.authMembersRow.unfollowed == Tryz.prog.unfollowed 4)=true:=by kernel_rfl
theorem j3:(Rows.authMembersRow.recurses == Tryz.prog.recurses 4)=true:=by kernel_rfl
theorem j4:(Rows.authMembersRow.named == Tryz.prog.varsNamed 4)=true:=by kernel_rfl
theorem j6:(Tryz.prog.stopKnobs == [])=true:=by kernel_rfl
theorem j7:(Rows.authMembersRow.lifted == Tryz.prog.liftsFinal)=true:=by kernel_rfl
theorem j8:(Rows.authMembersRow.plainKeys == Tryz.prog.plainKeys)=true:=by kernel_rfl
theorem j9:Tryz.prog.stopsHeard=true:=by kernel_rfl
theorem j10:Tryz.prog.mayEnter=true:=by kernel_rfl
theorem j11:mapsRowed Tryz.prog=true:=by kernel_rfl
theorem j12:laidOutB Tryz.prog=true:=by kernel_rfl
theorem facts:joinedFacts Tryz.prog 4 Tryz.f4 (OpenSpec.ofChange Rows.authMembersSpec).bare Rows.authMembersRow=true:=by
 unfold joinedFacts
 simp only [Bool.and_eq_true]
 exact ⟨⟨⟨⟨⟨⟨⟨⟨⟨⟨⟨⟨⟨⟨⟨⟨⟨⟨⟨⟨⟨⟨⟨⟨⟨⟨⟨⟨⟨⟨⟨(by kernel_rfl),j12⟩,j11⟩,(by kernel_rfl)⟩,(by kernel_rfl)⟩,(by kernel_rfl)⟩,(by kernel_rfl)⟩,(by kernel_rfl)⟩,j6⟩,j1⟩,j2⟩,j3⟩,j4⟩,(by kernel_rfl)⟩,(by kernel_rfl)⟩,(by kernel_rfl)⟩,(by kernel_rfl)⟩,(by kernel_rfl)⟩,(by kernel_rfl)⟩,(by kernel_rfl)⟩,(by kernel_rfl)⟩,(by kernel_rfl)⟩,j8⟩,(by kernel_rfl)⟩,j9⟩,j10⟩,j7⟩,(by kernel_rfl)⟩,(by kernel_rfl)⟩,(by kernel_rfl)⟩,(by kernel_rfl)⟩,(by kernel_rfl)⟩
theorem said:Rows.AuthMembersSaid:=
 OpenClaim.holds_of_cond 4 Tryz.f4 rfl rfl rfl rfl rfl rfl rfl ⟨rfl,rfl,rfl,rfl,rfl⟩ rfl rfl rfl rfl rfl (by kernel_rfl) Tryz.func4 facts
  (of_decide_eq_true (by kernel_rfl)) (by unfold Func.isWrapper; first | (rw [if_pos (by decide+kernel)]; kernel_rfl) | (rw [if_neg (by decide+kernel)]; exact ⟨rfl,rfl⟩))
  (fun os started H enc _ F=>by rw [OpenClaim.pre_eq_preRow]; exact lifted os started H enc F)
theorem m1:Tryz.prog.mainIs=some (Rows.authMembersCard.stood.harness.1,Rows.authMembersCard.stood.harness.2.toList):=by kernel_rfl
theorem m2:false=Rows.authMembersRow.goesBy Tryz.prog:=by kernel_rfl
theorem m3:false=Tryz.prog.looks []:=by kernel_rfl
theorem plain (f:FuncId) (fn:Func) (hf:Tryz.pinned.checked.prog.funcNamed "introit/introitlaw21.AuthMembers" =some f) (hfn:Tryz.pinned.checked.prog.funcs[f]? =some fn) :
  false=Tryz.pinned.checked.prog.looks []∧∀(j:Nat) t,fn.params[j]? =some t→Tryz.pinned.checked.prog.wantsStandIn t=false:=by
 obtain rfl:f=4:=Option.some.inj ((show Tryz.prog.funcNamed "introit/introitlaw21.AuthMembers" =some 4 by kernel_rfl).symm.trans hf) |>.symm
 obtain rfl:fn=Tryz.f4:=(Option.some.inj (Tryz.func4.symm.trans hfn)).symm
 refine ⟨m3,fun j t ht=> ?_⟩
 rw [Tryz.params4] at ht
 have ht':t=3∨t=37:=by simpa using Array.mem_of_getElem? ht
 rcases ht' with rfl | rfl
 ·exact (show Tryz.prog.wantsStandIn 3=false by kernel_rfl)
 ·exact (show Tryz.prog.wantsStandIn 37=false by kernel_rfl)
theorem authMembers_card:Rows.AuthMembersCardSaid:=
 Claim7.holds_tied_plain_at .later [] _ _ _ _ said (fun _ h=>by cases h) (by kernel_rfl) (fun _ h=>by cases h) authMembers_row_tie rfl ⟨rfl,rfl⟩ m1 rfl plain m2
end Go.Ab.AMem
namespace Go.Proofs.YtdfjgcdkabiljaaGreatDoor
theorem authMembers_holds:Rows.AuthMembersCardSaid:=Go.Ab.AMem.authMembers_card
#print axioms authMembers_holds
end Go.Proofs.YtdfjgcdkabiljaaGreatDoor
