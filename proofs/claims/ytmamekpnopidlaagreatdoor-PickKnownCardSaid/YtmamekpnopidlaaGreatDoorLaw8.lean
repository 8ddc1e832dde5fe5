/- What functions of the program, and of the library, answer. Conditions: none. -/
import Derived.Test.YtmamekpnopidlaaGreatDoorLaw7
set_option linter.unusedVariables false
set_option linter.unusedSimpArgs false
set_option linter.defProp false
set_option linter.unnecessarySimpa false
namespace Go.Ab
set_option maxHeartbeats 1000000
def N3Fa:= @F26.eq_1
set_option maxRecDepth 100000
theorem firstFrom_find {α:Type} (p:α→Bool) (l:List α):(firstFrom p l 0= -1∧l.find? p=none)∨∃(i:Nat) (e:α),firstFrom p l 0=(i:Int)∧l[i]? =some e∧l.find? p=some e∧p e=true:=by
 unfold firstFrom
 rw [List.drop_zero]
 cases h:l.findIdx? p with
 | none=>exact .inl ⟨rfl,by rw [List.find?_eq_none]; intro x hx; have:=List.findIdx?_eq_none_iff.1 h x hx; simp [this]⟩
 | some i=>
  right
  obtain ⟨h1,h2,h3⟩:=List.findIdx?_eq_some_iff_getElem.1 h
  refine ⟨i,l[i],by simp,by simp [h1],?_,h2⟩
  rw [List.find?_eq_some_iff_getElem]
  exact ⟨h2,i,h1,rfl,fun j hj=>by simpa using h3 j hj⟩
def Ev.zero:Ev:=⟨V.mk 0 0 [] [] [], [], [], [], [], [],false,0,0, [], [],V.mk 0 0 [] [] []⟩
theorem evE_zero:evE Ev.zero= .agg [.int .i64 0, .int .i64 0, .str [], .vsl [] none, .vsl [] none, .str [], .str [], .str [], .str [], .str [], .bool false, .int .i64 0, .int .i64 0, .vsl [] none, .vsl [] none, .int .i64 0, .int .i64 0, .str [], .vsl [] none, .vsl [] none]:=rfl
def ofE (l:List Ev) (s:Slt):Ev×Bool:=match l.find? (isAt s) with
 | some e=>(e,true)
 | none=>(Ev.zero,false)
theorem ofE_some {l:List Ev} {s:Slt} {e:Ev} (h:l.find? (isAt s)=some e):ofE l s=(e,true):=by simp [ofE,h]
theorem ofE_none {l:List Ev} {s:Slt} (h:l.find? (isAt s)=none):ofE l s=(Ev.zero,false):=by simp [ofE,h]
theorem decNeg (i:Nat):decide ((i:Int) < 0)=false:=by simp
theorem r_of (l:List Ev) (s:Slt) (hlen:l.length < big) (hs: ∀e∈l,e.prev.length < lim∧e.auth.length < lim):cR 26 [.vsl (l.map evE) none,sltE s]=some (.tup [evE (ofE l s).1, .bool (ofE l s).2]):=by
 have hi:=r_indexE l (.fn 50 [] [.vptr [.str s.type, .str s.key] 0]) (isAt s) rfl (by simp only [AV.er,erL]) hlen (fun e _=>r_of1 s e)
 refine cR_of (F:=F26) rfl ?_
 rcases firstFrom_find (isAt s) l with ⟨h1,h2⟩ | ⟨i,e,h1,h2,h3,_⟩
 ·rw [h1] at hi
  have hd:decide ((-1:Int) < 0)=true:=rfl
  simp only [N3Fa,EXA,seval,VX,hi,hd,ofE_none h2,readAt_some,evE_zero]
 ·rw [h1] at hi
  have hidx:=idx_ev (c:=none) h2
  obtain ⟨q1,q2⟩:=hs e (List.mem_of_getElem? h2)
  simp only [N3Fa,EXA,seval,VX,hi,decNeg,ofE_some h3,readAt_some,hidx,r_copy e q1 q2]
theorem r_Of (l:List Ev) (s:Slt) (hlen:l.length < big) (hs: ∀e∈l,e.prev.length < lim∧e.auth.length < lim):cR 3 [.vsl (l.map evE) none,sltE s]=some (.tup [evE (ofE l s).1, .bool (ofE l s).2]):=by
 refine cR_of (F:=F3) rfl ?_
 simp only [F3,EXA,seval,VX,readAt_some,Slt.eta,r_of l s hlen hs]
end Go.Ab
namespace Go.Ab
set_option maxHeartbeats 1000000
def N4Fa:= @F27.eq_1
def N4Fb:=J @F5_21.eq_1 (J @F5_29.eq_1 (J @F5_37.eq_1 (J @F5_38.eq_1 (J @F5_39.eq_1 (J @F5_40.eq_1 (J @F5_41.eq_1 (J @F5_42.eq_1 (J @F5_43.eq_1 (J @F5_44.eq_1 (J @F5_45.eq_1 (@F5.eq_1)))))))))))
def N4Fc:=J @F5_21.eq_1 (J @F5_29.eq_1 (J @F5_37.eq_1 (J @F5_38.eq_1 (J @F5_40.eq_1 (J @F5_41.eq_1 (J @F5_42.eq_1 (J @F5_43.eq_1 (J @F5_44.eq_1 (J @F5_45.eq_1 (@F5.eq_1))))))))))
def N4Fd:=J @F5_21.eq_1 (J @F5_29.eq_1 (J @F5_37.eq_1 (J @F5_38.eq_1 (J @F5_39.eq_1 (J @F5_40.eq_1 (J @F5_42.eq_1 (J @F5_43.eq_1 (J @F5_44.eq_1 (J @F5_45.eq_1 (@F5.eq_1))))))))))
def N4Fe:=J @F5_21.eq_1 (J @F5_29.eq_1 (J @F5_37.eq_1 (J @F5_38.eq_1 (J @F5_39.eq_1 (J @F5_40.eq_1 (J @F5_41.eq_1 (J @F5_42.eq_1 (J @F5_44.eq_1 (J @F5_45.eq_1 (@F5.eq_1))))))))))
def N4Ff:=J @F5_21.eq_1 (J @F5_29.eq_1 (J @F5_37.eq_1 (J @F5_38.eq_1 (J @F5_39.eq_1 (J @F5_40.eq_1 (J @F5_41.eq_1 (J @F5_42.eq_1 (J @F5_43.eq_1 (J @F5_44.eq_1 (@F5.eq_1))))))))))
set_option maxRecDepth 100000
def addT (l:List Slt) (s:Slt):List Slt:=if hasT l s then l else l ++ [s]
def NSt (σ:Store) (b:Nat) (l:List Slt):Prop:=∃v,look σ.m b=some (.own [v])∧Gr LSlt σ v l∧b < σ.next∧(∀len sz c,v≠ .sl b 0 len sz c)
theorem c_more (σ:Store) (b:Nat) (l:List Slt) (s:Slt) (h:NSt σ b l) (hl:l.length < lim): ∃σ',callS ipU gU (.fn 27 [] [.ptr b 0]) [sltE s] σ=some (.tup [],σ')∧NSt σ' b (addT l s):=by
 unfold lim at hl
 obtain ⟨v,h1,h2,h3,h4⟩:=h
 have hcall:callP ipU gU false (.fn 37 [] []) [v,sltE s] σ=some (.bool (hasT l s),σ):=h2.call1 (by simp only [closedL,sltE_closed,Bool.and_self]) (by simp only [erL,sltE_er]; exact r_containsT l s (by unfold big; omega)) rfl
 cases hh:hasT l s with
 | true=>
  rw [hh] at hcall
  refine ⟨σ,?_,v,h1,by simpa [addT,hh] using h2,h3,h4⟩
  refine callS_of (F:=F27) rfl (first:= []) (caps:= [.ptr b 0]) ?_
  simp only [N4Fa,EXA,seval,VX,readAt_some,h1,Slt.eta,hcall]
 | false=>
  rw [hh] at hcall
  have happ:appendTo σ 2 32 v [.str s.type, .str s.key] 1=some _:=h2.push (a:=s) (bytes:=32) (by omega) (by unfold maxBytes; omega)
  have hget:look (grNext LSlt σ v l [s]).m b=some (.own [v]):=by
   have:=grNext_get (m:= [s]) h2 h3 h4
   exact this.trans h1
  have hnx:=grNext_next LSlt σ v l [s]
  have hgn:=h2.next (m:= [s]) (by simp)
  have hlo:lenOf (.vsl [sltE s] (some 1))=some 1:=rfl
  have hro: ∀σ',rowOf σ' 2 (.vsl [sltE s] (some 1))=some [.str s.type, .str s.key]:=fun _=>rfl
  refine ⟨{ next:=(grNext LSlt σ v l [s]).next,m:=(b, .own [.sl σ.next 0 (l ++ [s]).length 2 none]) ::(grNext LSlt σ v l [s]).m },?_, .sl σ.next 0 (l ++ [s]).length 2 none,by simp [look],?_,?_,?_⟩
  ·refine callS_of (F:=F27) rfl (first:= []) (caps:= [.ptr b 0]) ?_
   simp only [N4Fa,EXA,seval,VX,readAt_some,h1,Slt.eta,hcall,hlo,hro,happ,hget]
   rfl
  ·have e:addT l s=l ++ [s]:=by simp [addT,hh]
   rw [e]
   exact Gr.own (L:=LSlt) (hgn.frame (by show look ((b,_) ::_) σ.next=look _ σ.next; simp only [look]; rw [if_neg (by omega)]) (Nat.le_refl _))
  ·show b < (grNext LSlt σ v l [s]).next; omega
  ·intro len sz c hv
   simp only [AV.sl.injEq] at hv
   omega
abbrev kCreate:Bs:= [109,46,114,111,111,109,46,99,114,101,97,116,101]
abbrev kPower:Bs:= [109,46,114,111,111,109,46,112,111,119,101,114,95,108,101,118,101,108,115]
abbrev kMember:Bs:= [109,46,114,111,111,109,46,109,101,109,98,101,114]
abbrev kJoins:Bs:= [109,46,114,111,111,109,46,106,111,105,110,95,114,117,108,101,115]
abbrev kThirdInv:Bs:= [109,46,114,111,111,109,46,116,104,105,114,100,95,112,97,114,116,121,95,105,110,118,105,116,101]
abbrev kJoin:Bs:= [106,111,105,110]
abbrev kInvite:Bs:= [105,110,118,105,116,101]
abbrev kKnock:Bs:= [107,110,111,99,107]
def addIf (c:Bool) (l:List Slt) (s:Slt):List Slt:=if c then addT l s else l
def base3 (e:Ev):List Slt:= [⟨kCreate, []⟩,⟨kPower, []⟩,⟨kMember,e.sender⟩]
def needs (e:Ev):List Slt:=
 if e.type == kCreate then [] else if !(e.type == kMember) then base3 e else
 let l1:=addT (base3 e) ⟨kMember,e.key⟩
 let to:=membershipV e.content
 let l2:=addIf (to == kJoin || (to == kInvite || to == kKnock)) l1 ⟨kJoins, []⟩
 let l3:=addIf ((thirdV e.content).2.2 && to == kInvite) l2 ⟨kThirdInv,(thirdV e.content).1⟩
 addIf ((authV e.content).2 && to == kJoin) l3 ⟨kMember,(authV e.content).1⟩
theorem addT_len (l:List Slt) (s:Slt):(addT l s).length≤l.length+1:=by
 unfold addT; split <;> simp
theorem addIf_len (c:Bool) (l:List Slt) (s:Slt):(addIf c l s).length≤l.length+1:=by
 unfold addIf; split
 ·exact addT_len l s
 ·omega
theorem NSt.rbE {σ:Store} {b:Nat} {l:List Slt} (h:NSt σ b l): ∃v,look σ.m b=some (.own [v])∧rbE σ v=some (.vsl (l.map sltE) none):=by
 obtain ⟨v,h1,h2,_⟩:=h
 exact ⟨v,h1,h2.rbE⟩
def fr4 (e:Ev) (m:Bs):Fr:= [(1, .vptr (evE e).cells 0),(3, .ptr 0 0),(4, .fn 27 [] [.ptr 0 0]),(5, .str m)]
theorem nd_end {σ:Store} {l:List Slt} {r:AV} (h:NSt σ 0 l) (hr:r= .vsl (l.map sltE) none) :
  Ex ipU gU [.code F5_39] [(3, .ptr 0 0)] σ fun fr' σ1=>(resAll fr' σ1 F5.res).bind (rbE σ1)=some r:=by
 obtain ⟨v,h1,h2⟩:=h.rbE
 subst hr
 simp only [N4Fb,EXA,seval,VX,readAt_some,h1,h2]
theorem nd_auth {e:Ev} {m:Bs} {σ:Store} {l:List Slt} {r:AV} (hb:e.content.sz < big) (h:NSt σ 0 l) (hl:l.length < 100)
  (hr:r= .vsl ((addIf ((authV e.content).2 && m == kJoin) l ⟨kMember,(authV e.content).1⟩).map sltE) none) :
  Ex ipU gU [.code F5_41] (fr4 e m) σ fun fr' σ1=>(resAll fr' σ1 F5.res).bind (rbE σ1)=some r:=by
 have h30:=r_auth e.content hb
 unfold fr4
 simp only [N4Fc,EXA,seval,VX,readAt_some,h30]
 cases hk:(authV e.content).2 with
 | false=>
  simp only [hk,Bool.false_and,addIf,Bool.false_eq_true,if_false] at hr
  simp only [N4Fc,EXA,seval,VX,readAt_some]
  exact nd_end h hr
 | true=>
  cases hj:m == kJoin with
  | false=>
   simp only [hk,hj,Bool.and_false,addIf,Bool.false_eq_true,if_false] at hr
   simp only [N4Fc,EXA,seval,VX,readAt_some,hj]
   exact nd_end h hr
  | true=>
   simp only [hk,hj,Bool.and_self,addIf,if_true] at hr
   obtain ⟨σ1,q1,n1⟩:=c_more σ 0 l ⟨kMember,(authV e.content).1⟩ h (by unfold lim; omega)
   simp only [N4Fc,EXA,seval,VX,readAt_some,hj,q1]
   exact nd_end n1 hr
theorem nd_third {e:Ev} {m:Bs} {σ:Store} {l:List Slt} {r:AV} (hb:e.content.sz < big) (h:NSt σ 0 l) (hl:l.length < 99)
  (hr:r= .vsl ((addIf ((authV e.content).2 && m == kJoin) (addIf ((thirdV e.content).2.2 && m == kInvite) l ⟨kThirdInv,(thirdV e.content).1⟩) ⟨kMember,(authV e.content).1⟩).map sltE) none) :
  Ex ipU gU [.code F5_43] (fr4 e m) σ fun fr' σ1=>(resAll fr' σ1 F5.res).bind (rbE σ1)=some r:=by
 have h29:=r_third e.content hb
 unfold fr4
 simp only [N4Fd,EXA,seval,VX,readAt_some,h29]
 have hl2:=addT_len l ⟨kThirdInv,(thirdV e.content).1⟩
 cases hk:(thirdV e.content).2.2 with
 | false=>
  simp only [hk,Bool.false_and,addIf,Bool.false_eq_true,if_false] at hr
  simp only [N4Fd,EXA,seval,VX,readAt_some]
  exact nd_auth hb h (by omega) hr
 | true=>
  cases hj:m == kInvite with
  | false=>
   simp only [hk,hj,Bool.and_false,addIf,Bool.false_eq_true,if_false] at hr
   simp only [N4Fd,EXA,seval,VX,readAt_some,hj]
   exact nd_auth hb h (by omega) hr
  | true=>
   simp only [hk,hj,Bool.and_self,addIf,if_true] at hr
   obtain ⟨σ1,q1,n1⟩:=c_more σ 0 l ⟨kThirdInv,(thirdV e.content).1⟩ h (by unfold lim; omega)
   simp only [N4Fd,EXA,seval,VX,readAt_some,hj,q1]
   exact nd_auth hb n1 (by omega) hr
theorem nd_join {e:Ev} {m:Bs} {σ:Store} {l:List Slt} {r:AV} (hb:e.content.sz < big) (h:NSt σ 0 l) (hl:l.length < 98)
  (hr:r= .vsl ((addIf ((authV e.content).2 && m == kJoin) (addIf ((thirdV e.content).2.2 && m == kInvite) (addIf (m == kJoin || (m == kInvite || m == kKnock)) l ⟨kJoins, []⟩) ⟨kThirdInv,(thirdV e.content).1⟩) ⟨kMember,(authV e.content).1⟩).map sltE) none) :
  Ex ipU gU [.code F5_45] (fr4 e m) σ fun fr' σ1=>(resAll fr' σ1 F5.res).bind (rbE σ1)=some r:=by
 unfold fr4
 have hl2:=addT_len l ⟨kJoins, []⟩
 obtain ⟨σ1,q1,n1⟩:=c_more σ 0 l ⟨kJoins, []⟩ h (by unfold lim; omega)
 cases hj:m == kJoin with
 | true=>
  simp only [hj,Bool.true_or,addIf,if_true] at hr
  simp only [N4Fe,EXA,seval,VX,readAt_some,hj,q1]
  exact nd_third hb n1 (by omega) (by simp only [hj,addIf]; exact hr)
 | false=>
 cases hi:m == kInvite with
 | true=>
  simp only [hj,hi,Bool.true_or,Bool.or_true,addIf,if_true] at hr
  simp only [N4Fe,EXA,seval,VX,readAt_some,hj,hi,q1]
  exact nd_third hb n1 (by omega) (by simp only [hj,hi,addIf]; exact hr)
 | false=>
 cases hk:m == kKnock with
 | true=>
  simp only [hj,hi,hk,Bool.or_true,addIf,if_true] at hr
  simp only [N4Fe,EXA,seval,VX,readAt_some,hj,hi,hk,q1]
  exact nd_third hb n1 (by omega) (by simp only [hj,hi,addIf]; exact hr)
 | false=>
  simp only [hj,hi,hk,Bool.or_self,addIf,Bool.false_eq_true,if_false] at hr
  simp only [N4Fe,EXA,seval,VX,readAt_some,hj,hi,hk]
  exact nd_third hb h (by omega) (by simp only [hj,hi,addIf]; exact hr)
theorem r_needs (e:Ev) (hb:e.content.sz < big):cR 5 [evE e]=some (.vsl ((needs e).map sltE) none):=by
 have h28:=r_membership e.content hb
 refine cR_of (F:=F5) rfl ?_
 obtain ⟨r,hr⟩ : ∃r,r=AV.vsl ((needs e).map sltE) none:=⟨_,rfl⟩
 rw [←hr]
 unfold needs at hr
 cases hc:e.type == kCreate with
 | true=>
  simp only [hc,if_true,List.map_nil] at hr
  simp only [N4Fb,EXA,seval,VX,readAt_some,hc,hr]
 | false=>
 cases hm: !(e.type == kMember) with
 | true=>
  simp only [hc,hm,if_true,Bool.false_eq_true,if_false] at hr
  simp only [N4Fb,EXA,seval,VX,readAt_some,hc,hm,hr]
  rfl
 | false=>
 simp only [hc,hm,Bool.false_eq_true,if_false] at hr
 simp only [N4Ff,EXA,seval,VX,readAt_some,hc,hm]
 obtain ⟨σ1,q1,n1⟩:=c_more ⟨1, [(0, .own [.vsl ((base3 e).map sltE) (some 3)]),(0, .own [.nils])]⟩ 0 (base3 e) ⟨kMember,e.key⟩ ⟨_,rfl,Gr.lit LSlt _ (base3 e),by simp,fun len sz c h=>by simp at h⟩ (by simp [base3,lim])
 have l1:=addT_len (base3 e) ⟨kMember,e.key⟩
 have l0:(base3 e).length=3:=rfl
 generalize addT (base3 e) ⟨kMember,e.key⟩=t1 at n1 l1 hr
 simp only [base3,List.map_cons,List.map_nil] at q1
 simp only [N4Ff,EXA,seval,VX,readAt_some,q1,h28]
 exact nd_join hb n1 (by omega) hr
end Go.Ab
namespace Go.Ab
set_option maxHeartbeats 1000000
def N5Fa:=J @F8_4.eq_1 (J @F8_23.eq_1 (J @F8_24.eq_1 (@F8.eq_1)))
set_option maxRecDepth 100000
theorem callR_first (id:Nat) (first args caps:List AV):callR ipU gU (.fn id first caps) args=callR ipU gU (.fn id [] []) (first ++args ++caps):=by
 have e: ∀n,scall ipU (run ipU gU n) (.fn id first caps) args .empty=scall ipU (run ipU gU n) (.fn id [] []) (first ++args ++caps) .empty:=fun n=>by
  simp only [scall,List.nil_append,List.append_nil]
 have h:callS ipU gU (.fn id first caps) args .empty=callS ipU gU (.fn id [] []) (first ++args ++caps) .empty:=by
  apply Option.ext
  intro x
  constructor
  ·intro hx
   obtain ⟨n,hn⟩:=callS_some.1 hx
   exact callS_some.2 ⟨n,by rw [←e]; exact hn⟩
  ·intro hx
   obtain ⟨n,hn⟩:=callS_some.1 hx
   exact callS_some.2 ⟨n,by rw [e]; exact hn⟩
 unfold callR
 rw [h]
theorem chain3 (c1 c2 c3:Bool) (l:List Slt) (s1 s2 s3:Slt):(addIf c3 (addIf c2 (addIf c1 l s1) s2) s3).length≤l.length+3:=by
 have h1:=addIf_len c1 l s1
 have h2:=addIf_len c2 (addIf c1 l s1) s2
 have h3:=addIf_len c3 (addIf c2 (addIf c1 l s1) s2) s3
 omega
theorem needs_len (e:Ev):(needs e).length≤7:=by
 unfold needs
 split
 ·simp
 ·split
  ·simp [base3]
  ·have l0:(base3 e).length=3:=rfl
   have a1:=addT_len (base3 e) ⟨kMember,e.key⟩
   exact Nat.le_trans (chain3 _ _ _ _ _ _ _) (by omega)
def pickF (l:List Ev) (ns:List Slt):List Bs:=ns.filterMap fun s=>(l.find? (isAt s)).map (·.id)
theorem pickF_cons (l:List Ev) (s:Slt) (ns:List Slt):pickF l (s ::ns)=match l.find? (isAt s) with
  | some e=>e.id ::pickF l ns
  | none=>pickF l ns:=by
 unfold pickF
 rw [List.filterMap_cons]
 cases l.find? (isAt s) <;> rfl
theorem r_pick (l:List Ev) (e:Ev) (hb:e.content.sz < big) (hlen0:l.length < big) (hs: ∀x∈l,x.prev.length < lim∧x.auth.length < lim) :
  cR 8 [.vsl (l.map evE) none,evE e]=some (.vsl ((pickF l (needs e)).map .str) none):=by
 have h5:=r_needs e hb
 have hn7:=needs_len e
 refine cR_of (F:=F8) rfl ?_
 generalize needs e=ns at h5 hn7 ⊢
 simp only [F8_4,F8_23,F8,ex_loop,EXA,seval,VX,readAt_some,h5]
 refine ex_whileI (S:=Nat×List Bs×AV) (fun p=> [(5, .fn 26 [.vsl (l.map evE) none] []),(6,p.2.2),(14, .vsl (ns.map sltE) none),(15, .int .i64 ns.length),(16, .int .i64 (p.1:Int))]) (fun p=>ns.length - p.1)
  (fun p σ=>Gr LStr σ p.2.2 p.2.1∧p.2.1.length≤p.1∧p.2.1 ++pickF l (ns.drop p.1)=pickF l ns) ?_ (0, [], .nils) _ ⟨Gr.nil LStr _,by simp,rfl⟩
 rintro b ⟨j,acc,v⟩ σ ⟨hg,hlen,hj⟩ ih
 simp only at hg hlen hj ih ⊢
 by_cases hlt:j < ns.length
 ·obtain ⟨x,hx⟩:=get_lt hlt
  have hidx:=idx_slt (c:=none) hx
  have hcond:=dlt hlt
  have hr:=r_of l x hlen0 hs
  have hr2:callR ipU gU (.fn 26 [.vsl (l.map evE) none] []) [sltE x]=some (.tup [evE (ofE l x).1, .bool (ofE l x).2]):=by rw [callR_first]; exact hr
  rw [drop_cons hx,pickF_cons] at hj
  have hw:=wsucc hlt (by omega)
  have hn:=hg.newset
  have hn2:=fun a b c d=>(hn a b).newset c d
  cases hf:l.find? (isAt x) with
  | none=>
   rw [ofE_none hf] at hr2
   simp only [hf] at hj
   simp only [N5Fa,EXA,seval,VX,readAt_some,hcond,hidx,Slt.eta,hr2,hw]
   exact ih (j+1,acc,v) _ _ (by simp; omega) ⟨hn2 _ _ _ _,by simp; omega,hj⟩ (by simp only [EXA,seval])
  | some y=>
   rw [ofE_some hf] at hr2
   simp only [hf] at hj
   have happ: ∀a b c d,appendTo _ 1 16 v [.str y.id] 1=some _:=fun a b c d=>(hn2 a b c d).push (a:=y.id) (bytes:=16) (by omega) (by unfold maxBytes; omega)
   have hlo:lenOf (.vsl [.str y.id] (some 1))=some 1:=rfl
   have hro: ∀σ',rowOf σ' 1 (.vsl [.str y.id] (some 1))=some [.str y.id]:=fun _=>rfl
   simp only [N5Fa,EXA,seval,VX,readAt_some,hcond,hidx,Slt.eta,hr2,happ,hlo,hro,hw]
   exact ih (j+1,acc ++ [y.id],_) _ _ (by simp; omega) ⟨Gr.own ((hn2 _ _ _ _).next (by simp)),by simp; omega,by simpa using hj⟩ (by simp only [EXA,seval]; rfl)
 ·have hcond:=dge (Nat.not_lt.1 hlt)
  rw [List.drop_eq_nil_of_le (by omega)] at hj
  have hj2:acc=pickF l ns:=by simpa [pickF] using hj
  have hrb:=hg.rbE
  simp only [N5Fa,EXA,seval,VX,hcond,hrb,hj2]
  rfl
end Go.Ab
namespace Go.Ab
set_option maxHeartbeats 1000000
def N6Fa:=J @F12_4.eq_1 (J @F12_27.eq_1 (J @F12_28.eq_1 (@F12.eq_1)))
set_option maxRecDepth 100000
def fitsF (ns:List Slt):List Slt→List Ev→Bool
 | _, []=>true
 | had,x ::r=>if x.isState && (!hasT had x.slot && hasT ns x.slot) then fitsF ns (had ++ [x.slot]) r else false
def fits (e:Ev) (auth:List Ev):Bool:=fitsF (needs e) [] auth
theorem r_fits (e:Ev) (l:List Ev) (hb:e.content.sz < big) (hlen:l.length < lim):cR 12 [evE e, .vsl (l.map evE) none]=some (.bool (fits e l)):=by
 unfold lim at hlen
 have h5:=r_needs e hb
 have hn7:=needs_len e
 unfold fits
 refine cR_of (F:=F12) rfl ?_
 generalize needs e=ns at h5 hn7 ⊢
 have c37: ∀s:Slt,cR 37 [.vsl (ns.map sltE) none,sltE s]=some (.bool (hasT ns s)):=fun s=>r_containsT ns s (by unfold big; omega)
 simp only [F12_4,F12_27,F12,ex_loop,EXA,seval,VX,readAt_some,h5]
 refine ex_whileI (S:=Nat×List Slt×AV) (fun p=> [(5, .vsl (ns.map sltE) none),(6,p.2.2),(12, .vsl (l.map evE) none),(13, .int .i64 l.length),(14, .int .i64 (p.1:Int))]) (fun p=>l.length - p.1)
  (fun p σ=>Gr LSlt σ p.2.2 p.2.1∧p.2.1.length≤p.1∧fitsF ns p.2.1 (l.drop p.1)=fitsF ns [] l) ?_ (0, [], .nils) _ ⟨Gr.nil LSlt _,by simp,rfl⟩
 rintro b ⟨j,acc,v⟩ σ ⟨hg,hacc,hj⟩ ih
 simp only at hg hacc hj ih ⊢
 by_cases hlt:j < l.length
 ·obtain ⟨x,hx⟩:=get_lt hlt
  have hidx:=idx_ev (c:=none) hx
  have hcond:=dlt hlt
  rw [drop_cons hx,fitsF] at hj
  have hw:=wsucc hlt (by omega)
  have hn:=hg.newset
  have hn2:=fun a b c d=>(hn a b).newset c d
  have hcall: ∀a b c d,callP ipU gU false (.fn 37 [] []) [v,sltE x.slot] _=some (.bool (hasT acc x.slot),_):=fun a b c d=>(hn2 a b c d).call1 (by simp only [closedL,sltE_closed,Bool.and_self]) (by simp only [erL,sltE_er]; exact r_containsT acc x.slot (by unfold big; omega)) rfl
  have c37':=c37 x.slot
  have hne:(σ.next+1=σ.next)=False:=by simp
  unfold Ev.slot at hcall c37' hj
  cases h1:x.isState with
  | false=>
   simp only [h1,Bool.false_and,Bool.false_eq_true,if_false] at hj
   simp only [N6Fa,EXA,seval,VX,readAt_some,hcond,hidx,r_slot,hne,h1,←hj]
  | true=>
  cases h2:hasT acc ⟨x.type,x.key⟩ with
  | true=>
   rw [h2] at hcall
   simp only [h1,h2,Bool.not_true,Bool.false_and,Bool.and_false,Bool.false_eq_true,if_false] at hj
   simp only [N6Fa,EXA,seval,VX,readAt_some,hcond,hidx,r_slot,hne,h1,hcall,←hj]
  | false=>
  rw [h2] at hcall
  cases h3:hasT ns ⟨x.type,x.key⟩ with
  | false=>
   rw [h3] at c37'
   simp only [h1,h2,h3,Bool.and_false,Bool.false_eq_true,if_false] at hj
   simp only [N6Fa,EXA,seval,VX,readAt_some,hcond,hidx,r_slot,hne,h1,hcall,c37',←hj]
  | true=>
   rw [h3] at c37'
   simp only [h1,h2,h3,Bool.not_false,Bool.and_self,if_true] at hj
   have happ: ∀a b c d,appendTo _ 2 32 v [.str x.type, .str x.key] 1=some _:=fun a b c d=>(hn2 a b c d).push (a:=(⟨x.type,x.key⟩ :Slt)) (bytes:=32) (by omega) (by unfold maxBytes; omega)
   have hlo:lenOf (.vsl [sltE ⟨x.type,x.key⟩] (some 1))=some 1:=rfl
   have hro: ∀σ',rowOf σ' 2 (.vsl [sltE ⟨x.type,x.key⟩] (some 1))=some [.str x.type, .str x.key]:=fun _=>rfl
   simp only [N6Fa,EXA,seval,VX,readAt_some,hcond,hidx,r_slot,hne,h1,hcall,c37',happ,hlo,hro,hw]
   exact ih (j+1,acc ++ [⟨x.type,x.key⟩],_) _ _ (by simp; omega) ⟨Gr.own ((hn2 _ _ _ _).next (by simp)),by simp; omega,hj⟩ (by simp only [EXA,seval]; rfl)
 ·have hcond:=dge (Nat.not_lt.1 hlt)
  rw [List.drop_eq_nil_of_le (by omega),fitsF] at hj
  simp only [N6Fa,EXA,seval,VX,hcond,←hj]
end Go.Ab
namespace Go.Ab
set_option maxHeartbeats 1000000
set_option maxRecDepth 100000
abbrev W (n:Int):Int:=IntKind.wrap .i64 n
mutual
def wt:V→Int→Int→Int
 | .mk _ _ s l m,d,t=>if decide (d > 70)=true then W (t+1) else wtM m d t (wtL l d t (W (1+(s.length:Int))))
def wtL:List V→Int→Int→Int→Int
 | [],_,_,a=>a
 | v ::r,d,t,a=>if decide (a≤t)=true then wtL r d t (W (a+wt v (W (d+1)) t)) else a
def wtM:List (Bs×V)→Int→Int→Int→Int
 | [],_,_,a=>a
 | (k,v) ::r,d,t,a=>if decide (a≤t)=true then wtM r d t (W (a+W ((k.length:Int)+wt v (W (d+1)) t))) else a
end
end Go.Ab
