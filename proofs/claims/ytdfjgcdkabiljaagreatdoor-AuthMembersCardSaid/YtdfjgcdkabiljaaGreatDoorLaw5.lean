/- What functions of the program, and of the library, answer. Conditions: none. -/
import Derived.Test.YtdfjgcdkabiljaaGreatDoorLaw4
set_option linter.unusedVariables false
set_option linter.unusedSimpArgs false
set_option linter.defProp false
set_option linter.unnecessarySimpa false
namespace Go.Ab
set_option maxHeartbeats 1000000
set_option maxRecDepth 100000
def addT (l:List Slt) (s:Slt):List Slt:=if hasT l s then l else l ++ [s]
def NSt (σ:Store) (b:Nat) (l:List Slt):Prop:=∃v,look σ.m b=some (.own [v])∧Gr LSlt σ v l∧b < σ.next∧(∀len sz c,v≠ .sl b 0 len sz c)
abbrev kCreate:Bs:= [109,46,114,111,111,109,46,99,114,101,97,116,101]
abbrev kPower:Bs:= [109,46,114,111,111,109,46,112,111,119,101,114,95,108,101,118,101,108,115]
abbrev kMember:Bs:= [109,46,114,111,111,109,46,109,101,109,98,101,114]
abbrev kJoins:Bs:= [109,46,114,111,111,109,46,106,111,105,110,95,114,117,108,101,115]
abbrev kThirdInv:Bs:= [109,46,114,111,111,109,46,116,104,105,114,100,95,112,97,114,116,121,95,105,110,118,105,116,101]
abbrev kJoin:Bs:= [106,111,105,110]
abbrev kInvite:Bs:= [105,110,118,105,116,101]
abbrev kKnock:Bs:= [107,110,111,99,107]
def addIf (c:Bool) (l:List Slt) (s:Slt):List Slt:=if c then addT l s else l
def base3 (e:Ev):List Slt:= [⟨kCreate, []⟩,⟨kPower, []⟩,⟨kMember,e.sender⟩]
def needs (e:Ev):List Slt:=
 if e.type == kCreate then [] else if !(e.type == kMember) then base3 e else
 let l1:=addT (base3 e) ⟨kMember,e.key⟩
 let to:=membershipV e.content
 let l2:=addIf (to == kJoin || (to == kInvite || to == kKnock)) l1 ⟨kJoins, []⟩
 let l3:=addIf ((thirdV e.content).2.2 && to == kInvite) l2 ⟨kThirdInv,(thirdV e.content).1⟩
 addIf ((authV e.content).2 && to == kJoin) l3 ⟨kMember,(authV e.content).1⟩
theorem NSt.rbE {σ:Store} {b:Nat} {l:List Slt} (h:NSt σ b l): ∃v,look σ.m b=some (.own [v])∧rbE σ v=some (.vsl (l.map sltE) none):=by
 obtain ⟨v,h1,h2,_⟩:=h
 exact ⟨v,h1,h2.rbE⟩
end Go.Ab
namespace Go.Ab
set_option maxHeartbeats 1000000
set_option maxRecDepth 100000
theorem callR_first (id:Nat) (first args caps:List AV):callR ipU gU (.fn id first caps) args=callR ipU gU (.fn id [] []) (first ++args ++caps):=by
 have e: ∀n,scall ipU (run ipU gU n) (.fn id first caps) args .empty=scall ipU (run ipU gU n) (.fn id [] []) (first ++args ++caps) .empty:=fun n=>by
  simp only [scall,List.nil_append,List.append_nil]
 have h:callS ipU gU (.fn id first caps) args .empty=callS ipU gU (.fn id [] []) (first ++args ++caps) .empty:=by
  apply Option.ext
  intro x
  constructor
  ·intro hx
   obtain ⟨n,hn⟩:=callS_some.1 hx
   exact callS_some.2 ⟨n,by rw [←e]; exact hn⟩
  ·intro hx
   obtain ⟨n,hn⟩:=callS_some.1 hx
   exact callS_some.2 ⟨n,by rw [e]; exact hn⟩
 unfold callR
 rw [h]
end Go.Ab
namespace Go.Ab
set_option maxHeartbeats 1000000
set_option maxRecDepth 100000
def fitsF (ns:List Slt):List Slt→List Ev→Bool
 | _, []=>true
 | had,x ::r=>if x.isState && (!hasT had x.slot && hasT ns x.slot) then fitsF ns (had ++ [x.slot]) r else false
def fits (e:Ev) (auth:List Ev):Bool:=fitsF (needs e) [] auth
end Go.Ab
namespace Go.Ab
set_option maxHeartbeats 1000000
set_option maxRecDepth 100000
end Go.Ab
namespace Go.Ab
set_option maxHeartbeats 1000000
set_option maxRecDepth 100000
abbrev W (n:Int):Int:=IntKind.wrap .i64 n
mutual
def wt:V→Int→Int→Int
 | .mk _ _ s l m,d,t=>if decide (d > 70)=true then W (t+1) else wtM m d t (wtL l d t (W (1+(s.length:Int))))
def wtL:List V→Int→Int→Int→Int
 | [],_,_,a=>a
 | v ::r,d,t,a=>if decide (a≤t)=true then wtL r d t (W (a+wt v (W (d+1)) t)) else a
def wtM:List (Bs×V)→Int→Int→Int→Int
 | [],_,_,a=>a
 | (k,v) ::r,d,t,a=>if decide (a≤t)=true then wtM r d t (W (a+W ((k.length:Int)+wt v (W (d+1)) t))) else a
end
end Go.Ab
