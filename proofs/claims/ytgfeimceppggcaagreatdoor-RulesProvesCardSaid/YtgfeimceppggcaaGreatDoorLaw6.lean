/- What functions of the program, and of the library, answer. Conditions: none. -/
import Derived.Test.YtgfeimceppggcaaGreatDoorLaw5
import Derived.Test.YtgfeimceppggcaaGreatDoorEx
set_option linter.unusedVariables false
set_option linter.unusedSimpArgs false
set_option linter.defProp false
set_option linter.unnecessarySimpa false
namespace Go.Ab
set_option maxRecDepth 100000
set_option maxHeartbeats 1000000
theorem Bd (b0 b1 b2 b3 b4 b5 b6 b7 b8 b9 dV dU dS dR dQ dP dy dO dN dM dL dJ dI dH dz dG dF dE dD dC dB dA:UInt8):bE [b0,b1,b2,b3,b4,b5,b6,b7,b8,b9,dV,dU,dS,dR,dQ,dP,dy,dO,dN,dM,dL,dJ,dI,dH,dz,dG,dF,dE,dD,dC,dB,dA &&& 127]=bE [b0,b1,b2,b3,b4,b5,b6,b7,b8,b9,dV,dU,dS,dR,dQ,dP,dy,dO,dN,dM,dL,dJ,dI,dH,dz,dG,dF,dE,dD,dC,dB,dA] % 2 ^ 255/\bE [b0,b1,b2,b3,b4,b5,b6,b7,b8,b9,dV,dU,dS,dR,dQ,dP,dy,dO,dN,dM,dL,dJ,dI,dH,dz,dG,dF,dE,dD,dC,dB,dA] / 2 ^ 255 % 2=dA.toNat / 128:=by
 have e (c:UInt8):bE [b0,b1,b2,b3,b4,b5,b6,b7,b8,b9,dV,dU,dS,dR,dQ,dP,dy,dO,dN,dM,dL,dJ,dI,dH,dz,dG,dF,dE,dD,dC,dB,c]=bE [b0,b1,b2,b3,b4,b5,b6,b7,b8,b9,dV,dU,dS,dR,dQ,dP,dy,dO,dN,dM,dL,dJ,dI,dH,dz,dG,dF,dE,dD,dC,dB]+2 ^ 248*c.toNat:=by
  have e1:bE [c]=c.toNat:=by simp [bE]
  rw [show [b0,b1,b2,b3,b4,b5,b6,b7,b8,b9,dV,dU,dS,dR,dQ,dP,dy,dO,dN,dM,dL,dJ,dI,dH,dz,dG,dF,dE,dD,dC,dB,c]= [b0,b1,b2,b3,b4,b5,b6,b7,b8,b9,dV,dU,dS,dR,dQ,dP,dy,dO,dN,dM,dL,dJ,dI,dH,dz,dG,dF,dE,dD,dC,dB] ++ [c] from rfl,tP,e1,show [b0,b1,b2,b3,b4,b5,b6,b7,b8,b9,dV,dU,dS,dR,dQ,dP,dy,dO,dN,dM,dL,dJ,dI,dH,dz,dG,dF,dE,dD,dC,dB].length=31 from rfl,show (256:Nat) ^ 31=2 ^ 248 by decide]
 have hl:bE [b0,b1,b2,b3,b4,b5,b6,b7,b8,b9,dV,dU,dS,dR,dQ,dP,dy,dO,dN,dM,dL,dJ,dI,dH,dz,dG,dF,dE,dD,dC,dB] < 2 ^ 248:=jU (qb _) (by rw [show [b0,b1,b2,b3,b4,b5,b6,b7,b8,b9,dV,dU,dS,dR,dQ,dP,dy,dO,dN,dM,dL,dJ,dI,dH,dz,dG,dF,dE,dD,dC,dB].length=31 from rfl])
 have hc:(dA &&& 127).toNat=dA.toNat % 128:=by
  rw [UInt8.toNat_and]; exact Nat.and_two_pow_sub_one_eq_mod _ 7
 have:=dA.toNat_lt
 rw [e,e,hc]
 omega
theorem gE {p:UInt8->Bool} (h:((List.range 256).all fun n=>p (UInt8.ofNat n))=true) (b:UInt8):p b=true:=by
 have:=bG.1 h b.toNat (List.mem_range.2 b.toNat_lt)
 rwa [UInt8.ofNat_toNat] at this
theorem w_top (b:UInt8):(!(IntKind.wrap .u8 ((BitVec.ofInt (IntKind.bits .u8) (b.toNat:Int) &&& BitVec.ofInt (IntKind.bits .u8) 128).toNat:Int) == 0))=decide (b.toNat / 128=1):=
 eq_of_beq (gE (p:=fun b=>(!(IntKind.wrap .u8 ((BitVec.ofInt (IntKind.bits .u8) (b.toNat:Int) &&& BitVec.ofInt (IntKind.bits .u8) 128).toNat:Int) == 0)) == decide (b.toNat / 128=1)) (by kernel_rfl) b)
theorem sV (b:UInt8):IntKind.wrap .u8 ((BitVec.ofInt (IntKind.bits .u8) (b.toNat:Int) &&& ~~~ BitVec.ofInt (IntKind.bits .u8) 128).toNat:Int)=((b &&& 127).toNat:Int):=
 eq_of_beq (gE (p:=fun b=>IntKind.wrap .u8 ((BitVec.ofInt (IntKind.bits .u8) (b.toNat:Int) &&& ~~~ BitVec.ofInt (IntKind.bits .u8) 128).toNat:Int) == ((b &&& 127).toNat:Int)) (by kernel_rfl) b)
theorem Fw (X:Nat):cR 308 [an X]=some (bD (toLE 32 X)):=by
 refine aG (F:=F308) rfl ?_
 rw [Ij]
 simp only [bD,af,List.map_cons,List.map_nil]
 simp only [F308,az,seval,ae,ax,aN,@aU,@br,@qd,an,@sh_v,@wr_8,U]
theorem w_from (b0 b1 b2 b3 b4 b5 b6 b7 b8 b9 dV dU dS dR dQ dP dy dO dN dM dL dJ dI dH dz dG dF dE dD dC dB dA:UInt8):cR 294 [.agg [.int .u8 (b0.toNat:Int), .int .u8 (b1.toNat:Int), .int .u8 (b2.toNat:Int), .int .u8 (b3.toNat:Int), .int .u8 (b4.toNat:Int), .int .u8 (b5.toNat:Int), .int .u8 (b6.toNat:Int), .int .u8 (b7.toNat:Int), .int .u8 (b8.toNat:Int), .int .u8 (b9.toNat:Int), .int .u8 (dV.toNat:Int), .int .u8 (dU.toNat:Int), .int .u8 (dS.toNat:Int), .int .u8 (dR.toNat:Int), .int .u8 (dQ.toNat:Int), .int .u8 (dP.toNat:Int), .int .u8 (dy.toNat:Int), .int .u8 (dO.toNat:Int), .int .u8 (dN.toNat:Int), .int .u8 (dM.toNat:Int), .int .u8 (dL.toNat:Int), .int .u8 (dJ.toNat:Int), .int .u8 (dI.toNat:Int), .int .u8 (dH.toNat:Int), .int .u8 (dz.toNat:Int), .int .u8 (dG.toNat:Int), .int .u8 (dF.toNat:Int), .int .u8 (dE.toNat:Int), .int .u8 (dD.toNat:Int), .int .u8 (dC.toNat:Int), .int .u8 (dB.toNat:Int), .int .u8 (dA.toNat:Int)]]=some (.agg [U (w8 b0 b1 b2 b3 b4 b5 b6 b7),U (w8 b8 b9 dV dU dS dR dQ dP),U (w8 dy dO dN dM dL dJ dI dH),U (w8 dz dG dF dE dD dC dB dA)]):=by
 refine aG (F:=F294) rfl ?_
 simp only [F294,az,seval,ae,ax,aN,@aU,@br,@qd,@kE,@Ra,ot,Ya,pK,gH,U,w8]
theorem LP {s:aw} (h:s.length=32):cR 294 [bD s]=some (an (bE s)):=by
 match s,h with
 | [b0,b1,b2,b3,b4,b5,b6,b7,b8,b9,dV,dU,dS,dR,dQ,dP,dy,dO,dN,dM,dL,dJ,dI,dH,dz,dG,dF,dE,dD,dC,dB,dA],_=>rw [SQ,dj]; exact w_from b0 b1 b2 b3 b4 b5 b6 b7 b8 b9 dV dU dS dR dQ dP dy dO dN dM dL dJ dI dH dz dG dF dE dD dC dB dA
theorem r_rBit {s:aw} {i:Nat} (h:s.length=32) (hi:i < 256):cR 311 [bD s, .int .i64 (i:Int)]=some (.bool (decide (bE s / 2 ^ i % 2=1))):=by
 obtain ⟨c,hc⟩ : ∃c,s[i / 8]? =some c:=⟨s[i / 8]'(by omega),bx aa⟩
 have hb:=U6 hc
 have gA:(af s)[i / 8]? =some (.int .u8 (c.toNat:Int)):=by
  rw [af,bV,hc]; rfl
 have rH:=iM (k:= .i64) (n:=32) (b:=0) (j:=i / 8) aa
 have ER:Int.tdiv (i:Int) 8=((i / 8:Nat):Int):=rfl
 have fe:Int.tmod (i:Int) 8=((i % 8:Nat):Int):=rfl
 have hq:IntKind.wrap .i64 ((i / 8:Nat):Int)=((i / 8:Nat):Int):=aU aa aa
 have hm:IntKind.wrap .i64 ((i % 8:Nat):Int)=((i % 8:Nat):Int):=aU aa aa
 have h1:decide ((i:Int)≥0)=true:=by simp
 have h2:decide ((i:Int) < 256)=true:=by simp; omega
 have Gz:decide ((0:Int)<=(i:Int))=true:=by simp
 have mD:=WW c.toNat (i % 8) (aZ _ (by decide))
 have hand:=and8 (c.toNat / 2 ^ (i % 8))
 have dh:(((c.toNat / 2 ^ (i % 8) % 2:Nat):Int) == 1)=decide (c.toNat / 2 ^ (i % 8) % 2=1):=by
  rw [Bool.eq_iff_iff,beq_iff_eq,decide_eq_true_iff]; omega
 refine aG (F:=F311) rfl ?_
 rw [hb]
 simp only [F311,az,seval,ae,bD,gA,rH,ER,fe,hq,hm,h1,Gz,h2,mD,hand,dh]
def H9:= @F286.eq_1
def Iq (y:Nat):Nat:=aE (cX (aE y y) 1) (wR (gd (aE (aE y y) vC) 1))
theorem hyL (m:Nat) (h:m < PP):cN m=⟨m,h⟩:=Fin.ext (aO h)
theorem hqL (m:Nat):te (Iq m)=(pg ((cN m*cN m - 1)*cY (cN m*cN m*dK+1))).map Fin.val:=by
   rw [Fg,Iq,ej,nZ,ej,DA,xJ,ej,ej,U0,cN_1]
theorem C6 {X:Nat} (hX:X < aQ):wR X < aQ:=xm hX _ 256 1 (by decide+kernel)
theorem W3 {X x:Nat} (h:te X=some x):x < PP:=by
 rw [Fg,cH] at h
 obtain ⟨a,_,rfl⟩:=h
 exact a.isLt
def Ir (n:Nat):Option (Nat×Nat):=
 if n % 2 ^ 255 < PP then
  match te (Iq (n % 2 ^ 255)) with
  | none=>none
  | some x=>if n / 2 ^ 255 % 2=1 then if x=0 then none else some (cX 0 x % PP,n % 2 ^ 255) else some (x,n % 2 ^ 255)
 else none
theorem O2 (x:K):cX 0 x.val % PP=(0 - x).val:=pM (by rw [nZ,ZB,pb])
theorem WR (R:Option K) (y:K) (c:Prop) [Decidable c] :(match R.map Fin.val with
  | none=>none
  | some x=>if c then if x=0 then none else some (cX 0 x % PP,y.val) else some (x,y.val))=(match R with
  | none=>(none:Option (K×K))
  | some x=>if c then if x=0 then none else some (0 - x,y) else some (x,y)).map (fun p:K×K=>(p.1.val,p.2.val)):=by
 cases R with
 | none=>rfl
 | some x=>
  have hx:=O2 x
  have hz:x.val=0↔x=0:=⟨fun h=>Fin.ext h,fun h=>by rw [h]; rfl⟩
  simp only [Option.map_some,hx,hz]
  by_cases c1:c
  ·rw [if_pos c1,if_pos c1]
   by_cases c2:x=0
   ·rw [if_pos c2,if_pos c2,Option.map_none]
   ·rw [if_neg c2,if_neg c2,Option.map_some]
  ·rw [if_neg c1,if_neg c1,Option.map_some]
theorem Bz {n:Nat} (h: ¬n % 2 ^ 255 < PP):eF n=none:=dif_neg h
def JO (c:Prop) [Decidable c] (y:K):Option K->Option (K×K)
 | none=>none
 | some x=>if c then if x=0 then none else some (0 - x,y) else some (x,y)
def JM (c:Prop) [Decidable c] (y:Nat):aA->Option (Nat×Nat)
 | none=>none
 | some x=>if c then if x=0 then none else some (cX 0 x % PP,y) else some (x,y)
theorem JN (c:Prop) [Decidable c] (y:K) (R:Option K):(match R with
  | none=>none
  | some x=>if c then if x=0 then none else some (0 - x,y) else some (x,y))=JO c y R:=by cases R <;> rfl
theorem JL (c:Prop) [Decidable c] (y:Nat) (R:aA):(match R with
  | none=>none
  | some x=>if c then if x=0 then none else some (cX 0 x % PP,y) else some (x,y))=JM c y R:=by cases R <;> rfl
theorem Zj (c:Prop) [Decidable c] (y:K) (R:Option K):JM c y.val (R.map Fin.val)=(JO c y R).map fun p:K×K=>(p.1.val,p.2.val):=WR R y c
theorem By {n:Nat} (h:n % 2 ^ 255 < PP):eF n=JO (n / 2 ^ 255 % 2=1) ⟨n % 2 ^ 255,h⟩ (pg (((⟨n % 2 ^ 255,h⟩ :K)*⟨n % 2 ^ 255,h⟩ - 1)*cY ((⟨n % 2 ^ 255,h⟩ :K)*⟨n % 2 ^ 255,h⟩*dK+1))):=by
 unfold eF
 rw [dif_pos h]
 exact JN _ _ _
theorem E7 {n:Nat} (h:n % 2 ^ 255 < PP):Ir n=JM (n / 2 ^ 255 % 2=1) (n % 2 ^ 255) (te (Iq (n % 2 ^ 255))):=by
 unfold Ir
 rw [if_pos h]
 exact JL _ _ _
theorem WS (n:Nat):Ir n=(eF n).map fun p=>(p.1.val,p.2.val):=by
 by_cases h:n % 2 ^ 255 < PP
 ·rw [E7 h,By h,hqL,hyL _ h]
  exact Zj _ ⟨n % 2 ^ 255,h⟩ _
 ·rw [Bz h,Option.map_none,Ir,if_neg h]
theorem np (b:UInt8):(IntKind.wrap .u8 ((BitVec.ofInt (IntKind.bits .u8) (b.toNat:Int) &&& BitVec.ofInt (IntKind.bits .u8) 128).toNat:Int) != 0)=decide (b.toNat / 128=1):=w_top b
theorem SV:(IntKind.u64 == IntKind.u64)=true:=rfl
theorem WE (b0 b1 b2 b3 b4 b5 b6 b7 b8 b9 dV dU dS dR dQ dP dy dO dN dM dL dJ dI dH dz dG dF dE dD dC dB dA:UInt8):cR 286 [bD [b0,b1,b2,b3,b4,b5,b6,b7,b8,b9,dV,dU,dS,dR,dQ,dP,dy,dO,dN,dM,dL,dJ,dI,dH,dz,dG,dF,dE,dD,dC,dB,dA]]=some (zc (eF (bE [b0,b1,b2,b3,b4,b5,b6,b7,b8,b9,dV,dU,dS,dR,dQ,dP,dy,dO,dN,dM,dL,dJ,dI,dH,dz,dG,dF,dE,dD,dC,dB,dA]))):=by
 have YQ:=Bd b0 b1 b2 b3 b4 b5 b6 b7 b8 b9 dV dU dS dR dQ dP dy dO dN dM dL dJ dI dH dz dG dF dE dD dC dB dA
 have AH:([b0,b1,b2,b3,b4,b5,b6,b7,b8,b9,dV,dU,dS,dR,dQ,dP,dy,dO,dN,dM,dL,dJ,dI,dH,dz,dG,dF,dE,dD,dC,dB,dA &&& 127] :aw).length=32:=rfl
 have hg:=Xu AH
 have AE:=CC AH
 have hm:bE ([b0,b1,b2,b3,b4,b5,b6,b7,b8,b9,dV,dU,dS,dR,dQ,dP,dy,dO,dN,dM,dL,dJ,dI,dH,dz,dG,dF,dE,dD,dC,dB,dA &&& 127] :aw) < aQ:=lg AH
 rw [YQ.1] at hg AE hm
 have hw:decide (dA.toNat / 128=1)=decide (bE [b0,b1,b2,b3,b4,b5,b6,b7,b8,b9,dV,dU,dS,dR,dQ,dP,dy,dO,dN,dM,dL,dJ,dI,dH,dz,dG,dF,dE,dD,dC,dB,dA] / 2 ^ 255 % 2=1):=by rw [YQ.2]
 have hE:(eF (bE [b0,b1,b2,b3,b4,b5,b6,b7,b8,b9,dV,dU,dS,dR,dQ,dP,dy,dO,dN,dM,dL,dJ,dI,dH,dz,dG,dF,dE,dD,dC,dB,dA])).map (fun p=>(p.1.val,p.2.val))=Ir (bE [b0,b1,b2,b3,b4,b5,b6,b7,b8,b9,dV,dU,dS,dR,dQ,dP,dy,dO,dN,dM,dL,dJ,dI,dH,dz,dG,dF,dE,dD,dC,dB,dA]):=(WS _).symm
 have hO:zc (eF (bE [b0,b1,b2,b3,b4,b5,b6,b7,b8,b9,dV,dU,dS,dR,dQ,dP,dy,dO,dN,dM,dL,dJ,dI,dH,dz,dG,dF,dE,dD,dC,dB,dA]))=match Ir (bE [b0,b1,b2,b3,b4,b5,b6,b7,b8,b9,dV,dU,dS,dR,dQ,dP,dy,dO,dN,dM,dL,dJ,dI,dH,dz,dG,dF,dE,dD,dC,dB,dA]) with
  | some p=> .tup [an p.1,an p.2, .bool true]
  | none=> .tup [an 0,an 0, .bool false]:=by
  rw [←hE]; cases eF _ <;> rfl
 rw [hO]
 clear hE hO YQ
 generalize hn:bE [b0,b1,b2,b3,b4,b5,b6,b7,b8,b9,dV,dU,dS,dR,dQ,dP,dy,dO,dN,dM,dL,dJ,dI,dH,dz,dG,dF,dE,dD,dC,dB,dA]=n at*
 have hz:(an 0)= .agg [.int .u64 0, .int .u64 0, .int .u64 0, .int .u64 0]:=pn
 refine aG (F:=F286) rfl ?_
 by_cases c0:n % 2 ^ 255 < PP
 ·rw [E7 c0]
  rw [decide_eq_true c0] at hg
  generalize n % 2 ^ 255=m at*
  have h1:(1:Nat) < aQ:=by decide+kernel
  have hF:vC < aQ:=by decide+kernel
  have fc:=Fz
  have on:=r_one
  have sq:=cD hm hm
  have sqL:=bA hm hm
  have ov:=cD sqL hF
  have ovL:=bA sqL hF
  have op:=nu ovL h1
  have opL:=fS ovL h1
  have ls:=jE sqL h1
  have lsL:=cV (Y:=1) sqL
  have iv:=RN opL
  have ivL:=C6 opL
  have tm:=cD lsL ivL
  have rt:=r_root (bA lsL ivL)
  have hq:Iq m=aE (cX (aE m m) 1) (wR (gd (aE (aE m m) vC) 1)):=rfl
  rw [←hq] at rt tm
  clear hq
  generalize hR:te (Iq m)=R at*
  generalize Iq m=Q at*
  cases R with
  | none=>
   simp only [jw,hz] at rt
   simp only [JM,hz]
   simp only [an,U,bD,af,List.map_cons,List.map_nil] at hg AE fc on sq ov op ls iv tm rt ⊢
   simp only [H9,az,seval,ae,gp,gq,SV,beq_self_eq_true,and_self,Option.isSome_some,@br,np,sV,hw,hg,AE,fc,on,sq,ov,op,ls,iv,tm,rt]
  | some x=>
   have hx:x < aQ:=bz (W3 hR) ki
   have he:=mi (neg:=false) hx (show 0 < aQ by decide+kernel)
   have l0:=jE (show 0 < aQ by decide+kernel) hx
   have l1:=nt (cV (X:=0) (Y:=x) (by decide+kernel))
   rw [hz] at he l0
   simp only [jw] at rt
   by_cases c1:n / 2 ^ 255 % 2=1
   ·rw [decide_eq_true c1] at hw
    by_cases c2:x=0
    ·rw [decide_eq_true c2] at he
     simp only [JM,c1,c2,if_true,hz]
     simp only [an,U,bD,af,List.map_cons,List.map_nil] at hg AE fc on sq ov op ls iv tm rt he l0 l1 ⊢
     simp only [H9,az,seval,ae,gp,gq,SV,beq_self_eq_true,and_self,Option.isSome_some,@br,np,sV,hw,hg,AE,fc,on,sq,ov,op,ls,iv,tm,rt,he,l0,l1]
    ·rw [decide_eq_false c2] at he
     simp only [JM,c1,c2,if_true,if_false]
     simp only [an,U,bD,af,List.map_cons,List.map_nil] at hg AE fc on sq ov op ls iv tm rt he l0 l1 ⊢
     simp only [H9,az,seval,ae,gp,gq,SV,beq_self_eq_true,and_self,Option.isSome_some,@br,np,sV,hw,hg,AE,fc,on,sq,ov,op,ls,iv,tm,rt,he,l0,l1]
   ·rw [decide_eq_false c1] at hw
    simp only [JM,c1,if_false]
    simp only [an,U,bD,af,List.map_cons,List.map_nil] at hg AE fc on sq ov op ls iv tm rt he l0 l1 ⊢
    simp only [H9,az,seval,ae,gp,gq,SV,beq_self_eq_true,and_self,Option.isSome_some,@br,np,sV,hw,hg,AE,fc,on,sq,ov,op,ls,iv,tm,rt,he,l0,l1]
 ·rw [Ir,if_neg c0]
  rw [decide_eq_false c0] at hg
  simp only [hz]
  simp only [an,U,bD,af,List.map_cons,List.map_nil] at hg ⊢
  simp only [H9,az,seval,ae,gp,gq,SV,beq_self_eq_true,and_self,Option.isSome_some,@br,np,sV,hw,hg]
theorem LK {s:aw} (h:s.length=32):cR 286 [bD s]=some (zc (eF (bE s))):=by
 obtain ⟨b0,b1,b2,b3,b4,b5,b6,b7,b8,b9,dV,dU,dS,dR,dQ,dP,dy,dO,dN,dM,dL,dJ,dI,dH,dz,dG,dF,dE,dD,dC,dB,dA,rfl⟩:=JR h
 exact WE b0 b1 b2 b3 b4 b5 b6 b7 b8 b9 dV dU dS dR dQ dP dy dO dN dM dL dJ dI dH dz dG dF dE dD dC dB dA
def C18Fa:= @F280.eq_1
theorem cp: ∀s:aw,(af s).all AV.one=true
 | []=>rfl
 | b ::s=>by
  have:=cp s
  unfold af at*
  simp [AV.one,this]
def ub (p:K×K):W4:=⟨p.1.val,p.2.val,1,aE p.1.val p.2.val⟩
theorem HW (x:K):x.val < aQ:=bz x.isLt ki
theorem zQ (p:K×K):(ub p).ok:=⟨HW _,HW _,(by decide+kernel:1 < aQ),bA (HW _) (HW _)⟩
theorem Dg (p:K×K):(ub p).toW=gR p:=by
 simp only [ub,W4.toW,gR,pb,ej,cN_1]
def bad4:W4:=⟨0,0,1,aE 0 0⟩
def tN:Option (K×K)->AV
 | some p=> .tup [.agg (ub p).cells, .bool true]
 | none=> .tup [.agg bad4.cells, .bool false]
theorem IK {s:aw} (h:s.length=32):cR 280 [bD s]=some (tN (eF (bE s))):=by
 have hs:=LK h
 have hl:(af s).length=32:=by rw [af,aH,h]
 have ht:(af s).take 32=af s:=aJ aa
 have on:=r_one
 refine aG (F:=F280) rfl ?_
 generalize eF (bE s)=o at*
 cases o with
 | none=>
  have tm:=cD (show 0 < aQ by decide+kernel) (show 0 < aQ by decide+kernel)
  simp only [zc] at hs
  simp only [bD,an] at hs tm on ⊢
  simp only [tN,bad4,W4.cells,pJ]
  simp only [C18Fa,az,seval,ae,hl,ht,aC,bF,hs,on,tm]
 | some p=>
  have tm:=cD (HW p.1) (HW p.2)
  simp only [zc] at hs
  simp only [bD,an] at hs tm on ⊢
  simp only [tN,ub,W4.cells,pJ]
  simp only [C18Fa,az,seval,ae,hl,ht,aC,bF,hs,on,tm]
theorem LR {w:W4} (hw:w.ok):cR 285 [.vptr w.cells 0]=some (bD (toLE 32 (bM (An w.toW)))):=by
 obtain ⟨hx,hy,hz,ht⟩:=hw
 have iv:=RN hz
 have ivL:=C6 hz
 have mx:=cD hx ivL
 have my:=cD hy ivL
 have hj:=Fx (bA hx ivL) (bA hy ivL)
 have e:aE w.y (wR w.z) % PP+2 ^ 255*(aE w.x (wR w.z) % PP % 2)=bM (An w.toW):=by
  have e1:aE w.y (wR w.z) % PP=(An w.toW).2.val:=pM (by rw [ej,DA]; rfl)
  have e2:aE w.x (wR w.z) % PP=(An w.toW).1.val:=pM (by rw [ej,DA]; rfl)
  rw [e1,e2]; rfl
 rw [e] at hj
 clear e
 have hL:=aX 32 (bM (An w.toW))
 generalize toLE 32 (bM (An w.toW))=s at*
 have hl:(af s).length=32:=by rw [af,aH,hL]
 have uL:(af s).take 32=af s:=aJ aa
 refine aG (F:=F285) rfl ?_
 unfold W4.cells pJ
 generalize w.x=x at*
 generalize w.y=y at*
 generalize w.z=z at*
 generalize w.t=t at*
 simp only [an,bD] at iv mx my hj ⊢
 simp only [F285,az,seval,ae,cy,hl,uL,aC,bF,cp,iv,mx,my,hj]
def VY:=J @Em.eq_1 (J @El.eq_1 (J @Nw.eq_1 (@F227.eq_1)))
def C19Fb:=J @Em.eq_1 (J @El.eq_1 (@F227.eq_1))
theorem ij (w:W4):w.cells.length=16:=rfl
theorem fP (w:W4):w.cells.take 16=w.cells:=rfl
theorem ig (w:W4):w.cells.all AV.one=true:=rfl
theorem cO (w:W4):ay w.cells=true:=by simp [W4.cells,pJ,ay,AV.closed]
theorem jA (w:W4):eP w.cells=w.cells:=by simp only [W4.cells,pJ,cg,kV,dt]
theorem lr: ∀s:aw,po (af s)=true
 | []=>rfl
 | b ::s=>by
  have:=lr s
  unfold af at*
  simp [po,AV.flat,this]
theorem rb_ptr {b d:Nat} {cs:ai} {σ:ag} (hl:look σ.m b=some (.own cs)) (hc:ay cs=true):rb σ (d+1) (.ptr b 0)=some (.vptr cs 0):=by
 have hb:σ.cells b=some cs:=by unfold ag.cells ag.get; rw [hl]
 unfold rb
 simp only [AV.closed,hb,cP hc]
 rfl
theorem tJ (f:AV->Option AV) (x:AV):cS f [x]=(f x).map fun y=> [y]:=by
 unfold cS
 cases f x <;> rfl
theorem Cf {f b:Nat} {cs:ai} {σ:ag} {r:AV} (hl:look σ.m b=some (.own cs)) (hc:ay cs=true) (he:eP cs=cs) (hr:cR f [.vptr cs 0]=some r) (hf:r.flat=true) :
  gf cA gU false (.fn f [] []) [.ptr b 0] σ=some (r,σ):=by
 refine iz (args':= [.vptr cs 0]) rfl ?_ ?_ hf
 ·rw [show bJ=23+1 from rfl,tJ,rb_ptr hl hc]
  rfl
 ·rw [show eP [AV.vptr cs 0]= [.vptr cs 0] by rw [cg,uc,he,dt]]
  exact hr
def oy (w:W4) (k:Nat):Nat->W4->W4
 | 0,s=>s
 | n+1,s=>oy w k n (if k / 2 ^ n % 2=1 then Kc (Dp s) w else Dp s)
theorem E1 (w:W4) (k:Nat): ∀n s,(oy w k n s).toW=jW w.toW k n s.toW
 | 0,s=>rfl
 | n+1,s=>by
  rw [oy,jW,E1 w k n]
  split
  ·rw [Lr,Lq]
  ·rw [Lq]
def sQ:W4:=⟨0,1,1,0⟩
theorem Qw:sQ.ok:=by unfold sQ W4.ok; decide+kernel
theorem Wl:sQ.toW=gZ:=by simp only [sQ,W4.toW,gZ,ZB,cN_1]
def IQ:Option (K×K)->AV
 | some p=> .tup [bD (toLE 32 (bM p)), .bool true]
 | none=> .tup [.agg (List.replicate 32 (.int .u8 0)), .bool false]
theorem QT {p:K×K} (o:On p) {k:Nat} (hk:k < 2 ^ 256):An (oy (ub p) k 256 sQ).toW=bX p k:=by
 rw [E1,Dg,Wl]
 exact xh (LD (nP p) o k hk)
theorem LX {k s:aw} (hk:k.length=32) (h:s.length=32):cR 227 [bD k,bD s]=some (IQ ((eF (bE s)).map fun p=>bX p (bE k))):=by
 have hs:=IK h
 have hz:=r_zero
 have hl:(af s).length=32:=by rw [af,aH,h]
 have ht:(af s).take 32=af s:=aJ aa
 have nA:(af k).length=32:=by rw [af,aH,hk]
 have uL:(af k).take 32=af k:=aJ aa
 have hon: ∀p,eF (bE s)=some p->On p:=fun p=>tC
 refine aG (F:=F227) rfl ?_
 generalize eF (bE s)=o at*
 cases o with
 | none=>
  simp only [bD,tN] at hs ⊢
  simp only [Option.map_none,IQ,List.replicate]
  simp only [C19Fb,az,seval,ae,hl,ht,nA,uL,aC,bF,hs,ij,fP,ig,cO,jA]
 | some p=>
  simp only [bD,tN] at hs ⊢
  have hwk:=zQ p
  have hpt:=QT (hon p rfl) (show bE k < 2 ^ 256 from jU (qb k) (by rw [hk]))
  rw [show (W4.mk 0 1 1 0)=sQ from rfl] at hz
  generalize ub p=w at*
  simp only [Option.map_some,IQ]
  simp only [C19Fb,az,seval,ae,hl,ht,nA,uL,aC,bF,hs,ij,fP,ig,cO,jA,hz,ax]
  refine aP (S:=Nat×W4) (fun q=> [(2, .vptr (af k) 0),(4, .ptr 0 0),(6, .ptr 1 0),(8, .fn 281 [] []),(9, .fn 282 [] []),(10, .ptr 2 0),(11, .int .i64 ((q.1:Int) - 1))]) (fun q=>q.1)
   (fun q σ=>look σ.m 2=some (.own q.2.cells)/\look σ.m 1=some (.own w.cells)/\look σ.m 0=some (.own (List.replicate 32 (.int .u8 0)))/\3<=σ.next/\q.2.ok/\q.1<=256/\oy w (bE k) q.1 q.2=oy w (bE k) 256 sQ) ?_ (256,sQ) _ ?_
  ·rintro b ⟨n,r⟩ σ ⟨g2,g1,g0,BJ,hr,hn,hp⟩ ih
   simp only at g2 g1 g0 BJ hr hn hp
   cases n with
   | zero=>
    have Qm:r=oy w (bE k) 256 sQ:=hp
    have hq:=LR hr
    rw [Qm,hpt] at hq
    rw [Qm] at g2
    have hP:=Cf g2 (cO _) (jA _) hq (by simp only [bD,AV.flat,lr])
    have hL:=aX 32 (bM (bX p (bE k)))
    generalize toLE 32 (bM (bX p (bE k)))=v at*
    have tX:(af v).length=32:=by rw [af,aH,hL]
    have AF:(af v).take 32=af v:=aJ aa
    simp only [bD] at hP ⊢
    simp only [List.replicate] at g0
    simp only [VY,az,seval,ae,g0,g2,hP,ij,fP,ig,cO,jA,tX,AF,aC,bF,cp]
   | succ m=>
    have hc:decide (((m+1:Nat):Int) - 1≥0)=true:=by simp
    have hi:((m+1:Nat):Int) - 1=(m:Int):=by omega
    have lp:decide ((m:Int)≥0)=true:=by simp
    have uK:IntKind.wrap .i64 ((m:Int) - 1)=(m:Int) - 1:=aU aa aa
    obtain ⟨σ1,d1,d2,d3,d4⟩:=UW hr g2 aa
    have hb:=r_sbit (i:=m) hk aa
    by_cases oM:bE k / 2 ^ m % 2=1
    ·rw [decide_eq_true oM] at hb
     have e1:look σ1.m 1=some (.own w.cells):=by rw [d4 1 aa aa]; exact g1
     obtain ⟨σ2,a1,a2,a3,a4⟩:=c_add (Dn hr) hwk d2 aa
     simp only [bD] at hb
     simp only [VY,az,seval,ae,hi,lp,d1,hb,e1,a1,ij,fP,ig,cO,jA,nA,uL,aC,bF,uK]
     refine ih (m,Kc (Dp r) w) _ _ (aV m) ⟨a2,?_,?_,by omega,MZ (Dn hr) hwk,by omega,?_⟩ rfl
     ·rw [a4 1 aa aa]; exact e1
     ·rw [a4 0 aa aa,d4 0 aa aa]; exact g0
     ·rw [←hp,oy,if_pos oM]
    ·rw [decide_eq_false oM] at hb
     simp only [bD] at hb
     simp only [VY,az,seval,ae,hi,lp,d1,hb,ij,fP,ig,cO,jA,nA,uL,aC,bF,uK]
     refine ih (m,Dp r) _ _ (aV m) ⟨d2,?_,?_,by omega,Dn hr,by omega,?_⟩ rfl
     ·rw [d4 1 aa aa]; exact g1
     ·rw [d4 0 aa aa]; exact g0
     ·rw [←hp,oy,if_neg oM]
  ·exact ⟨rfl,rfl,rfl,aD _,Qw,aD _,rfl⟩
def D9Fa:=J @KJ.eq_1 (J @Ek.eq_1 (J @Nt.eq_1 (@F239.eq_1)))
def EZ (w:Wd):W4:=⟨w.x.val,w.y.val,w.z.val,w.t.val⟩
def wE (w:Wd):AV:= .agg (EZ w).cells
theorem mJ (w:W4):w.cells.drop 16= []:=rfl
theorem r_dee:cR 297 []=some (an dK.val):=cQ 100 (by kernel_rfl)
theorem Xl:cR 310 []=some (wE gZ):=cQ 100 (by kernel_rfl)
theorem RT (x y:K):cR 301 [an x.val,an y.val]=some (wE (gR (x,y))):=by
 have hm:=jD x y
 have h1:(1:K).val=1:=rfl
 have h4:=MK
 refine aG (F:=F301) rfl ?_
 unfold wE EZ gR W4.cells pJ
 simp only [h1]
 generalize x*y=t at*
 simp only [an,U,AV.agg.injEq,List.cons.injEq,AV.int.injEq,true_and,and_true] at h4
 obtain ⟨k0,k1,k2,k3⟩:=h4
 simp only [an] at hm ⊢
 simp only [U,k0,k1,k2,k3] at hm ⊢
 simp only [F301,az,seval,ae,hm]
theorem IH (w v:Wd):cR 240 [wE w,wE v]=some (wE (nD w v)):=by
 obtain ⟨x1,y1,z1,t1⟩:=w
 obtain ⟨x2,y2,z2,t2⟩:=v
 have sb:=qE
 have ad:=LQ
 have mu:=jD
 have de:=r_dee
 refine aG (F:=F240) rfl ?_
 simp only [wE,EZ,nD,W4.cells,pJ]
 generalize dK=d at*
 have hd:t1*t2*d+t1*t2*d=(t1*t2+t1*t2)*d:=by grobner
 simp only [hd]
 simp only [an,U] at sb ad mu de ⊢
 simp only [F240,az,seval,ae,sb,ad,mu,de]
def gn (w:Wd) (k:Nat):Nat->Wd->Wd
 | 0,s=>s
 | n+1,s=>gn w k n (if k / 2 ^ n % 2=1 then nD (nD s s) w else nD s s)
theorem yR {w:Wd} {p:K×K} (h:A8 w p) (o:On p) (k:Nat): ∀n s,A8 s (bX p (k / 2 ^ n))->A8 (gn w k n s) (bX p k)
 | 0,s,hs=>by simpa [gn] using hs
 | n+1,s,hs=>by
  rw [gn]
  apply yR h o k n
  have e:k / 2 ^ n=2*(k / 2 ^ (n+1))+k / 2 ^ n % 2:=by
   rw [Nat.pow_succ,←ee]; omega
  have d:=tf hs hs (jj o _) (jj o _)
  rw [←mul_two o] at d
  split
  ·rename_i hb
   rw [e,hb]
   exact tf d h (jj o _) o
  ·rename_i hb
   rw [e,show k / 2 ^ n % 2=0 by omega]
   exact d
theorem Fk {w:Wd} {p:K×K} (h:A8 w p) (o:On p) (k:Nat) (hk:k < 2 ^ 256):A8 (gn w k 256 gZ) (bX p k):=
 yR h o k 256 _ (by rw [Nat.div_eq_of_lt hk]; exact Fi)
theorem Ft {k:aw} (hk:k.length=32) (w:Wd):cR 239 [bD k,wE w]=some (wE (gn w (bE k) 256 gZ)):=by
 have hz:=Xl
 have nA:(af k).length=32:=by rw [af,aH,hk]
 have uL:(af k).take 32=af k:=aJ aa
 refine aG (F:=F239) rfl ?_
 simp only [wE,bD] at hz ⊢
 simp only [KJ,Ek,F239,az,seval,ae,hz,ij,mJ,fP,ig,cO,jA,ax]
 refine aP (S:=Nat×Wd) (fun q=> [(2, .vptr (af k) 0),(3, .vptr (EZ w).cells 0),(4, .ptr 0 0),(5, .ptr 1 0),(6, .int .i64 ((q.1:Int) - 1))]) (fun q=>q.1)
  (fun q σ=>look σ.m 1=some (.own (EZ q.2).cells)/\look σ.m 0=some (.own (List.replicate 16 (.int .u64 0)))/\q.1<=256/\gn w (bE k) q.1 q.2=gn w (bE k) 256 gZ) ?_ (256,gZ) _ ?_
 ·rintro b ⟨n,r⟩ σ ⟨g1,g0,hn,hp⟩ ih
  simp only at g1 g0 hn hp
  cases n with
  | zero=>
   have Qm:r=gn w (bE k) 256 gZ:=hp
   rw [Qm] at g1
   simp only [List.replicate] at g0
   simp only [D9Fa,az,seval,ae,g0,g1,ij,mJ,fP,ig,cO,jA]
  | succ m=>
   have hc:decide (((m+1:Nat):Int) - 1≥0)=true:=by simp
   have hi:((m+1:Nat):Int) - 1=(m:Int):=by omega
   have lp:decide ((m:Int)≥0)=true:=by simp
   have uK:IntKind.wrap .i64 ((m:Int) - 1)=(m:Int) - 1:=aU aa aa
   have d1:=IH r r
   have d2:=IH (nD r r) w
   have hb:=r_rBit (i:=m) hk aa
   simp only [wE] at d1 d2
   simp only [bD] at hb
   by_cases oM:bE k / 2 ^ m % 2=1
   ·rw [decide_eq_true oM] at hb
    simp only [D9Fa,az,seval,ae,hi,lp,g1,d1,d2,hb,ij,mJ,fP,ig,cO,jA,nA,uL,aC,bF,uK]
    refine ih (m,nD (nD r r) w) _ _ (aV m) ⟨rfl,?_,by omega,?_⟩ rfl
    ·simpa [look] using g0
    ·rw [←hp,gn,if_pos oM]
   ·rw [decide_eq_false oM] at hb
    simp only [D9Fa,az,seval,ae,hi,lp,g1,d1,hb,ij,mJ,fP,ig,cO,jA,nA,uL,aC,bF,uK]
    refine ih (m,nD r r) _ _ (aV m) ⟨rfl,?_,by omega,?_⟩ rfl
    ·simpa [look] using g0
    ·rw [←hp,gn,if_neg oM]
 ·exact ⟨rfl,rfl,aD _,rfl⟩
def H8:= @F233.eq_1
def D10Fc:= @F241.eq_1
theorem QJ (b0 b1 b2 b3 b4 b5 b6 b7 b8 b9 dV dU dS dR dQ dP dy dO dN dM dL dJ dI dH dz dG dF dE dD dC dB dA:UInt8) {x y z t:K} (hY:cR 308 [an (y*cY z).val]=some (bD [b0,b1,b2,b3,b4,b5,b6,b7,b8,b9,dV,dU,dS,dR,dQ,dP,dy,dO,dN,dM,dL,dJ,dI,dH,dz,dG,dF,dE,dD,dC,dB,dA])) :
  cR 241 [wE ⟨x,y,z,t⟩]=some (bD [b0,b1,b2,b3,b4,b5,b6,b7,b8,b9,dV,dU,dS,dR,dQ,dP,dy,dO,dN,dM,dL,dJ,dI,dH,dz,dG,dF,dE,dD,dC,dB,if (x*cY z).val % 2=1 then dA ||| 128 else dA]):=by
 have iv:=RA z
 have mx:=jD x (cY z)
 have my:=jD y (cY z)
 have hb:=qB (x*cY z).val
 have dh:uI 1=1:=rfl
 refine aG (F:=F241) rfl ?_
 simp only [wE,EZ,W4.cells,pJ]
 generalize x*cY z=X at*
 generalize y*cY z=Y at*
 generalize cY z=v at*
 by_cases h:X.val % 2=1
 ·rw [if_pos h]
  rw [decide_eq_true h] at hb
  simp only [an,U,bD,af,List.map_cons,List.map_nil] at iv mx my hY ⊢
  simp only [D10Fc,az,seval,ae,@br,@kE,ib,La,dh,hb,iv,mx,my,hY]
 ·rw [if_neg h]
  rw [decide_eq_false h] at hb
  simp only [an,U,bD,af,List.map_cons,List.map_nil] at iv mx my hY ⊢
  simp only [D10Fc,az,seval,ae,@br,@kE,ib,La,dh,hb,iv,mx,my,hY]
theorem RG (w:Wd):cR 241 [wE w]=some (bD (toLE 32 (bM (An w)))):=by
 obtain ⟨x,y,z,t⟩:=w
 show _=some (bD (toLE 32 ((y*cY z).val+2 ^ 255*((x*cY z).val % 2))))
 have hn:=Fw (y*cY z).val
 have hl:=aX 32 (y*cY z).val
 have hm:(y*cY z).val < PP:=(y*cY z).isLt
 have hv:bE (toLE 32 (y*cY z).val)=(y*cY z).val:=gQ 32 _ (bz hm (by decide+kernel))
 have aR:(y*cY z).val < 2 ^ 255:=bz hm (by decide+kernel)
 generalize toLE 32 (y*cY z).val=s at*
 obtain ⟨b0,b1,b2,b3,b4,b5,b6,b7,b8,b9,dV,dU,dS,dR,dQ,dP,dy,dO,dN,dM,dL,dJ,dI,dH,dz,dG,dF,dE,dD,dC,dB,dA,rfl⟩:=JR hl
 have hw:=QJ b0 b1 b2 b3 b4 b5 b6 b7 b8 b9 dV dU dS dR dQ dP dy dO dN dM dL dJ dI dH dz dG dF dE dD dC dB dA (x:=x) (t:=t) hn
 have ht:=Lz b0 b1 b2 b3 b4 b5 b6 b7 b8 b9 dV dU dS dR dQ dP dy dO dN dM dL dJ dI dH dz dG dF dE dD dC dB dA (by rw [hv]; exact aR) (decide ((x*cY z).val % 2=1))
 simp only [dZ] at ht
 rw [ht,hv] at hw
 have e:(decide ((x*cY z).val % 2=1)).toNat=(x*cY z).val % 2:=by
  by_cases h:(x*cY z).val % 2=1
  ·rw [decide_eq_true h,h]; rfl
  ·rw [decide_eq_false h,show (x*cY z).val % 2=0 by omega]; rfl
 rw [e] at hw
 exact hw
theorem pL (b:UInt8):IntKind.wrap .u8 ((BitVec.ofInt (IntKind.bits .u8) (b.toNat:Int) &&& BitVec.ofInt (IntKind.bits .u8) 127).toNat:Int)=((b &&& 127).toNat:Int):=
 eq_of_beq (gE (p:=fun b=>IntKind.wrap .u8 ((BitVec.ofInt (IntKind.bits .u8) (b.toNat:Int) &&& BitVec.ofInt (IntKind.bits .u8) 127).toNat:Int) == ((b &&& 127).toNat:Int)) (by kernel_rfl) b)
def AR:Option (K×K)->AV
 | some p=> .tup [wE (gR p), .bool true]
 | none=> .tup [.agg (List.replicate 16 (.int .u64 0)), .bool false]
theorem eqa_K0 (a:K):r9 4 false (an a.val) (an 0)=some (.bool (decide (a=0))):=by
 rw [show an 0=an (0:K).val from rfl,mi (KT a) (KT 0),if_neg (by decide)]
 have:decide (a.val=(0:K).val)=decide (a=0):=decide_eq_decide.2 ⟨fun h=>Fin.ext h,fun h=>by rw [h]⟩
 rw [this]
theorem Yb (y:K):(y*y - 1)*cY (y*y*dK+1)=(y*y - 1)*cY (dK*(y*y)+1):=by
 have:y*y*dK+1=dK*(y*y)+1:=by generalize dK=d; grobner
 rw [this]
theorem WG (b0 b1 b2 b3 b4 b5 b6 b7 b8 b9 dV dU dS dR dQ dP dy dO dN dM dL dJ dI dH dz dG dF dE dD dC dB dA:UInt8):cR 233 [bD [b0,b1,b2,b3,b4,b5,b6,b7,b8,b9,dV,dU,dS,dR,dQ,dP,dy,dO,dN,dM,dL,dJ,dI,dH,dz,dG,dF,dE,dD,dC,dB,dA]]=some (AR (eF (bE [b0,b1,b2,b3,b4,b5,b6,b7,b8,b9,dV,dU,dS,dR,dQ,dP,dy,dO,dN,dM,dL,dJ,dI,dH,dz,dG,dF,dE,dD,dC,dB,dA]))):=by
 have YQ:=Bd b0 b1 b2 b3 b4 b5 b6 b7 b8 b9 dV dU dS dR dQ dP dy dO dN dM dL dJ dI dH dz dG dF dE dD dC dB dA
 have AH:([b0,b1,b2,b3,b4,b5,b6,b7,b8,b9,dV,dU,dS,dR,dQ,dP,dy,dO,dN,dM,dL,dJ,dI,dH,dz,dG,dF,dE,dD,dC,dB,dA &&& 127] :aw).length=32:=rfl
 have AE:=LP AH
 have hm:bE ([b0,b1,b2,b3,b4,b5,b6,b7,b8,b9,dV,dU,dS,dR,dQ,dP,dy,dO,dN,dM,dL,dJ,dI,dH,dz,dG,dF,dE,dD,dC,dB,dA &&& 127] :aw) < aQ:=lg AH
 rw [YQ.1] at AE hm
 have hw:decide (dA.toNat / 128=1)=decide (bE [b0,b1,b2,b3,b4,b5,b6,b7,b8,b9,dV,dU,dS,dR,dQ,dP,dy,dO,dN,dM,dL,dJ,dI,dH,dz,dG,dF,dE,dD,dC,dB,dA] / 2 ^ 255 % 2=1):=by rw [YQ.2]
 clear YQ
 generalize hn:bE [b0,b1,b2,b3,b4,b5,b6,b7,b8,b9,dV,dU,dS,dR,dQ,dP,dy,dO,dN,dM,dL,dJ,dI,dH,dz,dG,dF,dE,dD,dC,dB,dA]=n at*
 have hr:=CD hm
 have hz:(an 0)= .agg [.int .u64 0, .int .u64 0, .int .u64 0, .int .u64 0]:=pn
 have he:=mi (neg:=true) (bz (aZ (n % 2 ^ 255) (show 0 < PP by decide)) ki) hm
 rw [if_pos rfl] at he
 refine aG (F:=F233) rfl ?_
 by_cases c0:n % 2 ^ 255 < PP
 ·rw [By c0,Yb]
  rw [aO c0,decide_eq_true rfl] at he
  rw [aO c0] at hr
  have hy:n % 2 ^ 255=(⟨n % 2 ^ 255,c0⟩ :K).val:=rfl
  generalize (⟨n % 2 ^ 255,c0⟩ :K)=y at*
  rw [hy] at AE he hr
  have sq:=jD y y
  have de:=r_dee
  have f1:=qE (y*y) 1
  have f2:=jD dK (y*y)
  have f3:=LQ (dK*(y*y)) 1
  have f4:=RA (dK*(y*y)+1)
  have f5:=jD (y*y - 1) (cY (dK*(y*y)+1))
  have f6:=Xm ((y*y - 1)*cY (dK*(y*y)+1))
  have h1:an (1:K).val=_:=MK
  rw [h1] at f1 f3
  clear h1
  generalize hR:pg _=R at*
  generalize (y*y - 1)*cY (dK*(y*y)+1)=q at*
  generalize cY (dK*(y*y)+1)=q1 at*
  generalize dK*(y*y)+1=q2 at*
  generalize dK*(y*y)=q3 at*
  generalize y*y - 1=q4 at*
  generalize y*y=q5 at*
  generalize dK=d at*
  cases R with
  | none=>
   rw [Option.map_none] at f6
   simp only [jw,hz] at f6
   simp only [JO,AR,List.replicate]
   simp only [an,U,bD,af,List.map_cons,List.map_nil] at AE he hr sq de f1 f2 f3 f4 f5 f6 ⊢
   simp only [H8,az,seval,ae,@br,np,pL,hw,AE,he,hr,sq,de,f1,f2,f3,f4,f5,f6]
  | some x=>
   have f7:=eqa_K0 x
   have f8:=qE 0 x
   have f9:=RT (0 - x) y
   have f10:=RT x y
   rw [show an (0:K).val=_ from hz] at f8
   rw [hz] at f7
   rw [Option.map_some] at f6
   simp only [jw] at f6
   generalize Ib:0 - x=x' at*
   by_cases c1:n / 2 ^ 255 % 2=1
   ·rw [decide_eq_true c1] at hw
    by_cases c2:x=0
    ·rw [decide_eq_true c2] at f7
     simp only [JO,AR,c1,c2,if_true,List.replicate]
     simp only [c2] at f6 f7
     simp only [an,U,bD,af,List.map_cons,List.map_nil] at AE he hr sq de f1 f2 f3 f4 f5 f6 f7 ⊢
     simp only [H8,az,seval,ae,@br,np,pL,hw,AE,he,hr,sq,de,f1,f2,f3,f4,f5,f6,f7]
    ·rw [decide_eq_false c2] at f7
     simp only [JO,AR,c1,c2,if_true,if_false,Ib]
     unfold wE at f9 ⊢
     generalize gR (x',y)=fl at*
     simp only [an,U,bD,af,List.map_cons,List.map_nil] at AE he hr sq de f1 f2 f3 f4 f5 f6 f7 f8 f9 ⊢
     simp only [H8,az,seval,ae,@br,np,pL,hw,AE,he,hr,sq,de,f1,f2,f3,f4,f5,f6,f7,f8,f9,ij,mJ,fP,ig,cO,jA]
   ·rw [decide_eq_false c1] at hw
    simp only [JO,AR,c1,if_false]
    unfold wE at f10 ⊢
    generalize gR (x,y)=fl at*
    simp only [an,U,bD,af,List.map_cons,List.map_nil] at AE he hr sq de f1 f2 f3 f4 f5 f6 f10 ⊢
    simp only [H8,az,seval,ae,@br,np,pL,hw,AE,he,hr,sq,de,f1,f2,f3,f4,f5,f6,f10,ij,mJ,fP,ig,cO,jA]
 ·rw [Bz c0]
  have fV: ¬n % 2 ^ 255 % PP=n % 2 ^ 255:=fun h=>c0 (by rw [←h]; exact aZ _ (by decide))
  rw [decide_eq_false fV] at he
  simp only [AR,List.replicate]
  generalize n % 2 ^ 255=m at*
  generalize m % PP=m' at*
  simp only [an,U,bD,af,List.map_cons,List.map_nil] at AE he hr ⊢
  simp only [H8,az,seval,ae,@br,np,pL,hw,AE,he,hr]
theorem LN {s:aw} (h:s.length=32):cR 233 [bD s]=some (AR (eF (bE s))):=by
 obtain ⟨b0,b1,b2,b3,b4,b5,b6,b7,b8,b9,dV,dU,dS,dR,dQ,dP,dy,dO,dN,dM,dL,dJ,dI,dH,dz,dG,dF,dE,dD,dC,dB,dA,rfl⟩:=JR h
 exact WG b0 b1 b2 b3 b4 b5 b6 b7 b8 b9 dV dU dS dR dQ dP dy dO dN dM dL dJ dI dH dz dG dF dE dD dC dB dA
theorem base_n:bE (88 ::List.replicate 31 102)=bM cd:=by decide+kernel
theorem Xo:cR 309 []=some (bD (88 ::List.replicate 31 102)):=cQ 3000 (by kernel_rfl)
theorem RI {k:aw} (hk:k.length=32):cR 238 [bD k]=some (wE (gn (gR cd) (bE k) 256 gZ)):=by
 have hb:=Xo
 have ho:=LN (s:=88 ::List.replicate 31 102) rfl
 rw [base_n,lE jf,AR] at ho
 have ht:=Ft hk (gR cd)
 have nA:(af k).length=32:=by rw [af,aH,hk]
 have uL:(af k).take 32=af k:=aJ aa
 refine aG (F:=F238) rfl ?_
 have hlB:(af (88 ::List.replicate 31 102)).length=32:=rfl
 have htB:(af (88 ::List.replicate 31 102)).take 32=af (88 ::List.replicate 31 102):=rfl
 generalize (88 ::List.replicate 31 102:aw)=B at*
 generalize gn (gR cd) (bE k) 256 gZ=tw at*
 generalize gR cd=fl at*
 simp only [wE,bD] at hb ho ht ⊢
 simp only [F238,az,seval,ae,hb,hlB,htB,ho,ht,ij,mJ,fP,ig,cO,jA,nA,uL,aC,bF]
def D11Fa:= @F234.eq_1
def VW:=J @KA.eq_1 (J @DT.eq_1 (J @Na.eq_1 (@F360.eq_1)))
def vE (n:Nat):ai:= [U (wq n 0),U (wq n 1),U (wq n 2),U (wq n 3),U (wq n 4),U (wq n 5),U (wq n 6),U (wq n 7)]
def T512:Nat:=aQ*aQ
theorem Fv:cR 302 []=some (an LL):=cQ 100 (by kernel_rfl)
theorem LL_T2:LL < aQ:=by decide+kernel
theorem PI {e j:Nat} (hj:j < 8):(vE e)[j]? =some (U (wq e j)):=by
 have:j=0∨j=1∨j=2∨j=3∨j=4∨j=5∨j=6∨j=7:=by omega
 rcases this with rfl | rfl | rfl | rfl | rfl | rfl | rfl | rfl <;> rfl
theorem or_low {r:Nat} {b:UInt64} (hb:b.toNat < 2):wq (r+r) 0 ||| b=wq (r+r+b.toNat) 0:=by
 apply UInt64.toNat.inj
 have h2:(wq (r+r) 0).toNat=2 ^ 1*(r % 9223372036854775808):=by rw [lK]; omega
 rw [UInt64.toNat_or,h2,←Nat.two_pow_add_eq_or_of_lt (i:=1) hb,lK]; omega
theorem Ih {r b i:Nat} (hb:b < 2) (hi:0 < i):wq (r+r) i=wq (r+r+b) i:=by
 apply UInt64.toNat.inj
 rw [lK,lK]
 obtain ⟨j,rfl⟩ : ∃j,i=j+1:=⟨i - 1,by omega⟩
 rw [Nat.pow_succ',←ee,←ee]
 rw [show (r+r) / 18446744073709551616=(r+r+b) / 18446744073709551616 by omega]
theorem aae (x:UInt64):(x &&& 1).toNat < 2:=by
 rw [UInt64.toNat_and,show (1:UInt64).toNat=1 from rfl,Nat.and_one_is_mod]; omega
theorem Ry {N:Nat} (hN:N < T512):cR 360 [.agg (vE N)]=some (an (N % LL)):=by
 have hT:=M2
 have hL:LL=7237005577332262213973186563042994240857116359379907606001950938285454250989:=rfl
 have ho:=Fv
 refine aG (F:=F360) rfl ?_
 simp only [KA,DT,F360,az,seval,ax,vE]
 refine aP (S:=Nat) (fun n=> [(1, .ptr 0 0),(2, .ptr 1 0),(3, .ptr 2 0),(4, .int .i64 ((n:Int) - 1))]) (fun n=>n)
  (fun n σ=>look σ.m 2=some (.own (eG (N / 2 ^ n % LL)))/\look σ.m 0=some (.own (vE N))/\look σ.m 1=some (.own [.int .u64 0, .int .u64 0, .int .u64 0, .int .u64 0])/\n<=512/\3<=σ.next) ?_ 512 _ ?_
 ·rintro b n σ ⟨g2,g0,g1,hn,hx⟩ ih
  cases n with
  | zero=>
   rw [Nat.pow_zero,Nat.div_one] at g2
   unfold eG at g2
   simp only [VW,az,seval,ae,g1,g2,an]
  | succ m=>
   have hi:((m+1:Nat):Int) - 1=(m:Int):=by omega
   have lp:decide ((m:Int)≥0)=true:=by simp
   have ER:Int.tdiv (m:Int) 64=((m / 64:Nat):Int):=rfl
   have fe:Int.tmod (m:Int) 64=((m % 64:Nat):Int):=rfl
   have hq:IntKind.wrap .i64 ((m / 64:Nat):Int)=((m / 64:Nat):Int):=aU aa aa
   have hm:IntKind.wrap .i64 ((m % 64:Nat):Int)=((m % 64:Nat):Int):=aU aa aa
   have rH:=iM (k:= .i64) (n:=8) (b:=0) (j:=m / 64) aa
   have iS:=PI (e:=N) (j:=m / 64) aa
   have mD:=rE (wq N (m / 64)) (m % 64) aa
   have n0: ¬σ.next=0:=by omega
   have n1: ¬σ.next=1:=by omega
   have n2: ¬σ.next=2:=by omega
   have dh:uI 1=1:=rfl
   have oM:=U5 N m
   have ua:=aae (wq N (m / 64) >>> UInt64.ofNat (m % 64))
   have uK:IntKind.wrap .i64 ((m:Int) - 1)=(m:Int) - 1:=aU aa aa
   have V4:N / 2 ^ (m+1) % LL < LL:=aZ _ (by decide)
   have sF:N / 2 ^ m % LL=(N / 2 ^ (m+1) % LL+N / 2 ^ (m+1) % LL+(wq N (m / 64) >>> UInt64.ofNat (m % 64) &&& 1).toNat) % LL:=by
    have e:N / 2 ^ m=2*(N / 2 ^ (m+1))+N / 2 ^ m % 2:=by
     rw [Nat.pow_succ,←ee]; omega
    have e2:N / 2 ^ m % 2=(wq N (m / 64) >>> UInt64.ofNat (m % 64) &&& 1).toNat:=by
     generalize (wq N (m / 64) >>> UInt64.ofNat (m % 64) &&& 1).toNat=c at*
     omega
    rw [e,e2,hL]
    omega
   generalize (wq N (m / 64) >>> UInt64.ofNat (m % 64))=sw at*
   generalize N / 2 ^ (m+1) % LL=r at*
   have hp:=tj (A:=r) (B:=r) aa aa
   rw [aO (show r+r < aQ by omega),Nat.div_eq_of_lt (show r+r < aQ by omega)] at hp
   have o0:=or_low (r:=r) ua
   have o1:=Ih (r:=r) (i:=1) ua (by decide)
   have o2:=Ih (r:=r) (i:=2) ua (by decide)
   have o3:=Ih (r:=r) (i:=3) ua (by decide)
   generalize hX:r+r+(sw &&& 1).toNat=X at*
   have V7:=lX (A:=X) (B:=LL) aa LL_T2
   have hu (x:UInt64):IntKind.wrap .u64 ((BitVec.ofInt (IntKind.bits .u64) (x.toNat:Int) ||| BitVec.ofInt (IntKind.bits .u64) ((sw &&& 1).toNat:Int)).toNat:Int)=((x ||| (sw &&& 1)).toNat:Int):=by
    rw [pK,gH]
   have z0:((0:Nat):Int)=0:=rfl
   simp only [U] at mD iS
   unfold eG at g2
   by_cases aR:X < LL
   ·rw [if_neg aa,if_pos aR] at V7
    rw [aO aR] at sF
    generalize X+aQ - LL=Y at*
    simp only [an,U,z0] at hp V7 ho g2
    simp only [VW,az,seval,ae,hi,lp,g2,g0,hp,hq,hm,ER,fe,rH,iS,mD,ib,hu,o0,o1,o2,o3,dh,ho,V7,uK,@br,n0,n1,n2]
    refine ih m _ _ (aV m) ⟨?_,?_,?_,by omega,Nat.le_succ_of_le hx⟩ rfl
    ·rw [sF]; simp [look,eG,n2]
    ·simpa [look,n0,n2] using g0
    ·simpa [look,n1,n2] using g1
   ·rw [if_pos aa,if_neg aR] at V7
    have e:X % LL=X - LL:=by rw [Nat.mod_eq_sub_mod aa,aO aa]
    rw [e] at sF
    generalize X - LL=Y at*
    simp only [an,U,z0] at hp V7 ho g2
    simp only [VW,az,seval,ae,hi,lp,g2,g0,hp,hq,hm,ER,fe,rH,iS,mD,ib,hu,o0,o1,o2,o3,dh,ho,V7,uK,@br,n0,n1,n2]
    refine ih m _ _ (aV m) ⟨?_,?_,?_,by omega,Nat.le_succ_of_le hx⟩ rfl
    ·rw [sF]; simp [look,eG,n2]
    ·simpa [look,n0,n2] using g0
    ·simpa [look,n1,n2] using g1
 ·refine ⟨?_,rfl,rfl,aD _,aD _⟩
  rw [Nat.div_eq_of_lt (jU hN (by decide+kernel)),Nat.zero_mod]
  have:=pn
  simp only [an,AV.agg.injEq] at this
  unfold eG
  rw [this]; rfl
theorem Xs {s:aw} (h:s.length=32):cR 234 [bD s]=some (.bool (decide (bE s < LL))):=by
 have hf:=LP h
 have ho:=Fv
 have hm:=lX (lg h) LL_T2
 have hl:(af s).length=32:=by rw [af,aH,h]
 have ht:(af s).take 32=af s:=aJ aa
 refine aG (F:=F234) rfl ?_
 simp only [bD] at hf ⊢
 by_cases aR:bE s < LL
 ·rw [if_neg aa,if_pos aR] at hm
  rw [decide_eq_true aR]
  simp only [an,U] at hf ho hm
  simp only [D11Fa,az,seval,ae,hl,ht,aC,bF,hf,ho,hm]
 ·rw [if_pos aa,if_neg aR] at hm
  rw [decide_eq_false aR]
  simp only [an,U] at hf ho hm
  simp only [D11Fa,az,seval,ae,hl,ht,aC,bF,hf,ho,hm]
def C20Fa:= @F228.eq_1
def NN:= @F230.eq_1
theorem r_Add {a b:aw} (ha:a.length=32) (hb:b.length=32):cR 230 [bD a,bD b]=some (IQ ((eF (bE a)).bind fun p=>(eF (bE b)).map fun q=>fZ p q)):=by
 have Jw:=IK ha
 have V1:=IK hb
 have hla:(af a).length=32:=by rw [af,aH,ha]
 have Gc:(af a).take 32=af a:=aJ aa
 have hlb:(af b).length=32:=by rw [af,aH,hb]
 have htb:(af b).take 32=af b:=aJ aa
 have hoa: ∀p,eF (bE a)=some p->On p:=fun p=>tC
 have hob: ∀p,eF (bE b)=some p->On p:=fun p=>tC
 refine aG (F:=F230) rfl ?_
 generalize eF (bE a)=oa at*
 generalize eF (bE b)=ob at*
 cases oa with
 | none=>
  cases ob with
  | none=>
   simp only [bD,tN] at Jw V1 ⊢
   simp only [Option.bind_none,Option.bind_some,Option.map_none,IQ,List.replicate]
   simp only [NN,az,seval,ae,hla,Gc,hlb,htb,aC,bF,Jw,V1,ij,fP,ig,cO,jA]
  | some q=>
   simp only [bD,tN] at Jw V1 ⊢
   simp only [Option.bind_none,Option.bind_some,Option.map_none,IQ,List.replicate]
   simp only [NN,az,seval,ae,hla,Gc,hlb,htb,aC,bF,Jw,V1,ij,fP,ig,cO,jA]
 | some p=>
  cases ob with
  | none=>
   simp only [bD,tN] at Jw V1 ⊢
   simp only [Option.bind_none,Option.bind_some,Option.map_none,IQ,List.replicate]
   simp only [NN,az,seval,ae,hla,Gc,hlb,htb,aC,bF,Jw,V1,ij,fP,ig,cO,jA]
  | some q=>
   have hp:=zQ p
   have hq:=zQ q
   have hpt:=LR (MZ hp hq)
   rw [Lr,Dg,Dg,xh (tf (nP p) (nP q) (hoa p rfl) (hob q rfl))] at hpt
   have hL:=aX 32 (bM (fZ p q))
   simp only [Option.bind_some,Option.map_some,IQ]
   generalize toLE 32 (bM (fZ p q))=v at*
   have tX:(af v).length=32:=by rw [af,aH,hL]
   have AF:(af v).take 32=af v:=aJ aa
   simp only [bD,tN] at Jw V1 ⊢
   obtain ⟨σ2,a1,a2,a3,a4⟩:=c_add (b:=1) (σ:={ next:=3,m:= [(2,jP.own (ub q).cells),(2,jP.own (List.replicate 16 (.int .u64 0))),(1,jP.own (ub p).cells),(1,jP.own (List.replicate 16 (.int .u64 0))),(0,jP.own (List.replicate 32 (.int .u8 0)))] }) hp hq rfl (show 1 < 3 by decide)
   have e0:=a4 0 (show 0 < 3 by decide) (by decide)
   have hP:=Cf a2 (cO _) (jA _) hpt (by simp only [bD,AV.flat,lr])
   simp only [bD] at hP
   simp only [List.replicate,look,Nat.reduceBEq,Nat.reduceEqDiff,if_true,if_false,reduceIte] at a1 e0
   simp only [NN,az,seval,ae,hla,Gc,hlb,htb,aC,bF,cp,Jw,V1,ij,fP,ig,cO,jA,a1,a2,e0,hP,tX,AF]
theorem r_Neg {a:aw} (ha:a.length=32):cR 228 [bD a]=some (IQ ((eF (bE a)).map gP)):=by
 have Jw:=LK ha
 have hla:(af a).length=32:=by rw [af,aH,ha]
 have Gc:(af a).take 32=af a:=aJ aa
 refine aG (F:=F228) rfl ?_
 generalize eF (bE a)=o at*
 have h0:(0:Nat) < aQ:=by decide+kernel
 cases o with
 | none=>
  simp only [bD,zc,an] at Jw ⊢
  simp only [Option.map_none,IQ,List.replicate]
  simp only [C20Fa,az,seval,ae,hla,Gc,aC,bF,Jw]
 | some p=>
  have hl:=jE h0 (HW p.1)
  rw [pn] at hl
  have hj:=Fx (cV (Y:=p.1.val) h0) (HW p.2)
  have e:p.2.val % PP+2 ^ 255*(cX 0 p.1.val % PP % 2)=bM (gP p):=by
   have e1:cX 0 p.1.val % PP=(gP p).1.val:=pM (by
    rw [nZ,ZB,pb]; simp only [gP]; grobner)
   rw [e1,aO p.2.isLt]; rfl
  rw [e] at hj
  have hL:=aX 32 (bM (gP p))
  simp only [Option.map_some,IQ]
  generalize toLE 32 (bM (gP p))=v at*
  have tX:(af v).length=32:=by rw [af,aH,hL]
  have AF:(af v).take 32=af v:=aJ aa
  simp only [bD,zc,an] at Jw hl hj ⊢
  simp only [C20Fa,az,seval,ae,hla,Gc,aC,bF,cp,Jw,hl,hj,tX,AF]
theorem IN:cR 229 []=some (bD (toLE 32 (bM cd))):=by
 have h5:(5:Nat) < aQ:=by decide+kernel
 have h4:(4:Nat) < aQ:=by decide+kernel
 have e5:an 5= .agg [.int .u64 5, .int .u64 0, .int .u64 0, .int .u64 0]:=by kernel_rfl
 have e4:an 4= .agg [.int .u64 4, .int .u64 0, .int .u64 0, .int .u64 0]:=by kernel_rfl
 have iv:=RN h5
 have tm:=cD h4 (C6 h5)
 have nm:=r_num (bA h4 (C6 h5))
 have e:aE 4 (wR 5) % PP=bM cd:=by
  have e1:aE 4 (wR 5) % PP=cd.2.val:=by
   apply pM
   rw [ej,DA,show cY (cN 5)=fy (cN 5) (PP - 2) from rfl,←CQ _ (by decide+kernel)]
   decide+kernel
  rw [e1]; decide+kernel
 rw [e] at nm
 rw [e5] at iv
 rw [e4] at tm
 have hL:=aX 32 (bM cd)
 generalize toLE 32 (bM cd)=v at*
 have tX:(af v).length=32:=by rw [af,aH,hL]
 have AF:(af v).take 32=af v:=aJ aa
 refine aG (F:=F229) rfl ?_
 simp only [bD,an] at iv tm nm ⊢
 simp only [F229,az,seval,ae,aC,bF,cp,iv,tm,nm,tX,AF]
def C21Fc:= @F378.eq_1
theorem MQ {a b:Nat} {F:au} {l:ai} (ha:cA a=some F) (hb:cA b=some F):cR a l=cR b l:=by
 have:cj cA gU (.fn a [] []) l .empty=cj cA gU (.fn b [] []) l .empty:=by
  have e: ∀n,dd cA (run cA gU n) (.fn a [] []) l .empty=dd cA (run cA gU n) (.fn b [] []) l .empty:=by
   intro n; unfold dd; simp only [ha,hb]
  apply Option.ext; intro x
  rw [dY,dY]; simp only [e]
 unfold cR dx; rw [this]
theorem xi {s:aw} (h:s.length=32):cR 275 [bD s]=some (an (bE s)):=by
 rw [MQ (a:=275) (b:=348) (F:=F348) rfl rfl]; exact CC h
theorem Fs {A B:Nat} (hA:A < aQ) (hB:B < aQ):cR 277 [an A,an B]=some (.tup [an (if B<=A then A - B else A+aQ - B), .bool (decide (A < B))]):=by
 rw [MQ (a:=277) (b:=352) (F:=F352) rfl rfl]; exact oH hA hB
theorem TX:an LL= .agg [.int .u64 6346243789798364141, .int .u64 1503914060200516822, .int .u64 0, .int .u64 1152921504606846976]:=by
 have h0:(wq LL 0).toNat=6346243789798364141:=by decide+kernel
 have h1:(wq LL 1).toNat=1503914060200516822:=by decide+kernel
 have h2:(wq LL 2).toNat=0:=by decide+kernel
 have h3:(wq LL 3).toNat=1152921504606846976:=by decide+kernel
 simp only [an,U,h0,h1,h2,h3]; rfl
theorem LU:cR 276 []=some (an LL):=by
 rw [TX]
 refine aG (F:=F276) rfl ?_
 simp only [F276,az,seval,ae]
theorem LL_T:LL < aQ:=by decide+kernel
theorem LL_2:2*LL < aQ:=by decide+kernel
theorem r_snum {X:Nat}:cR 379 [an X]=some (bD (toLE 32 X)):=by
 refine aG (F:=F379) rfl ?_
 rw [Ij]
 simp only [bD,af,List.map_cons,List.map_nil]
 simp only [F379,az,seval,ae,ax,aN,@aU,@br,@qd,an,@sh_v,@wr_8,U]
theorem Xh {s:aw} (h:s.length=32):cR 225 [bD s]=some (.bool (decide (bE s < LL))):=by
 have hl:=xi h
 have ho:=LU
 have hm:=Fs (lg h) LL_T
 have hL:(af s).length=32:=by rw [af,aH,h]
 have ht:(af s).take 32=af s:=aJ aa
 refine aG (F:=F225) rfl ?_
 simp only [bD,an] at hl ho hm ⊢
 simp only [F225,az,seval,ae,hL,ht,aC,bF,hl,ho,hm]
theorem NT {a b c d bit:UInt64} (hb:bit.toNat<=1) (h:2*v4 a b c d+1 < aQ) :
  v4 (a <<< 1 ||| bit) (b <<< 1 ||| a >>> 63) (c <<< 1 ||| b >>> 63) (d <<< 1 ||| c >>> 63)=2*v4 a b c d+bit.toNat:=by
 have e (x y:UInt64) (hy:y.toNat<=1):(x <<< 1 ||| y).toNat=2*x.toNat % 18446744073709551616+y.toNat:=by
  rw [UInt64.toNat_or,UInt64.toNat_shiftLeft,show (1:UInt64).toNat % 64=1 from rfl,Nat.shiftLeft_eq]
  have:=gl x
  have e1:x.toNat*2 ^ 1 % 2 ^ 64=(x.toNat % 2 ^ 63) <<< 1:=by rw [Nat.shiftLeft_eq]; omega
  rw [e1,←Nat.shiftLeft_add_eq_or_of_lt aa,Nat.shiftLeft_eq]
  omega
 have s (x:UInt64):(x >>> 63).toNat=x.toNat / 9223372036854775808:=by
  rw [UInt64.toNat_shiftRight,show (63:UInt64).toNat % 64=63 from rfl,Nat.shiftRight_eq_div_pow]
 have ha:=gl a; have nJ:=gl b; have hc:=gl c; have hd:=gl d
 have sa:=s a; have sb:=s b; have sc:=s c
 have e0:=e a bit hb
 have e1:=e b (a >>> 63) aa
 have e2:=e c (b >>> 63) aa
 have e3:=e d (c >>> 63) aa
 unfold v4 aQ at*
 rw [e0,e1,e2,e3,sa,sb,sc]
 omega
theorem c_step {b X:Nat} {bit:UInt64} {σ:ag} (hX:X < LL) (hb:bit.toNat<=1) (h:look σ.m b=some (.own (eG X))) (hn:b < σ.next) :
  ∃σ',cj cA gU (.fn 378 [.ptr b 0] []) [U bit] σ=some (.tup [],σ')/\look σ'.m b=some (.own (eG ((2*X+bit.toNat) % LL)))/\σ.next<=σ'.next/\∀j,j < σ.next->j≠b->look σ'.m j=look σ.m j:=by
 obtain ⟨x0,x1,x2,x3,rfl⟩:=kv (bz hX LL_T)
 have hL:=LL_2
 have hd:=NT (a:=x0) (b:=x1) (c:=x2) (d:=x3) hb aa
 have ho:=LU
 have hT:2*v4 x0 x1 x2 x3+bit.toNat < aQ:=by omega
 have hm:=Fs hT LL_T
 have dh:((1:UInt64)).toNat=1:=rfl
 have sl (x:UInt64):bk .shl .u64 (x.toNat:Int) 1=some (U (x <<< 1)):=AM x 1 (by decide)
 have sr (x:UInt64):bk .shr .u64 (x.toNat:Int) 63=some (U (x >>> 63)):=rE x 63 (by decide)
 rw [show an (2*v4 x0 x1 x2 x3+bit.toNat)= .agg [U (x0 <<< 1 ||| bit),U (x1 <<< 1 ||| x0 >>> 63),U (x2 <<< 1 ||| x1 >>> 63),U (x3 <<< 1 ||| x2 >>> 63)] by rw [←hd,dj]] at hm
 have nJ (k:Nat): ¬b=σ.next+k:=by omega
 have Gv: ¬b=σ.next:=by omega
 have hb'' (k:Nat): ¬σ.next+k=b:=by omega
 have A6: ¬σ.next=b:=by omega
 refine Af (F:=F378) rfl ?_
 have hF:eG (v4 x0 x1 x2 x3)= [U x0,U x1,U x2,U x3]:=by
  obtain ⟨g0,g1,g2,g3⟩:=QI x0 x1 x2 x3
  rw [eG,g0,g1,g2,g3]
 rw [hF] at h
 rw [TX] at ho hm
 have hsum:=hd
 generalize hN:2*v4 x0 x1 x2 x3+bit.toNat=N at*
 have V2:eG N= [U (x0 <<< 1 ||| bit),U (x1 <<< 1 ||| x0 >>> 63),U (x2 <<< 1 ||| x1 >>> 63),U (x3 <<< 1 ||| x2 >>> 63)]:=by
  rw [←hsum]
  obtain ⟨g0,g1,g2,g3⟩:=QI (x0 <<< 1 ||| bit) (x1 <<< 1 ||| x0 >>> 63) (x2 <<< 1 ||| x1 >>> 63) (x3 <<< 1 ||| x2 >>> 63)
  rw [eG,g0,g1,g2,g3]
 by_cases hc:N < LL
 ·rw [aO hc,V2]
  rw [decide_eq_true hc,if_neg aa] at hm
  clear hN hd hsum V2
  simp only [an] at hm
  simp only [U] at sl sr h hm ⊢
  simp only [C21Fc,az,seval,ae,ax,aN,cy,@aU,@br,h,sl,sr,pK,gH,ho,hm,nJ,Gv,hb'',A6,Nat.add_assoc,Nat.add_eq_left,Nat.left_eq_add,Nat.add_left_cancel_iff]
  refine ⟨by omega,fun j hj BO=> ?_⟩
  have e0: ¬b=j:=fun h=>BO h.symm
  have e1 (k:Nat): ¬σ.next+k=j:=by omega
  have e2: ¬σ.next=j:=by omega
  simp only [e0,e1,e2,if_false]
 ·have zD:N % LL=N - LL:=by
   rw [Nat.mod_eq_sub_mod aa,aO aa]
  rw [zD]
  rw [decide_eq_false hc,if_pos aa] at hm
  clear hN hd hsum V2 zD
  simp only [an] at hm
  unfold eG
  simp only [U] at sl sr h hm ⊢
  simp only [C21Fc,az,seval,ae,ax,aN,cy,@aU,@br,h,sl,sr,pK,gH,ho,hm,nJ,Gv,hb'',A6,Nat.add_assoc,Nat.add_eq_left,Nat.left_eq_add,Nat.add_left_cancel_iff]
  refine ⟨by omega,fun j hj BO=> ?_⟩
  have e0: ¬b=j:=fun h=>BO h.symm
  have e1 (k:Nat): ¬σ.next+k=j:=by omega
  have e2: ¬σ.next=j:=by omega
  simp only [e0,e1,e2,if_false]
def C22Fa:=J @KD.eq_1 (J @DW.eq_1 (J @Nd.eq_1 (@F343.eq_1)))
def w6:List UInt64->Nat
 | []=>0
 | w ::l=>w.toNat+18446744073709551616*w6 l
theorem QD: ∀l,w6 l < 2 ^ (64*l.length)
 | []=>by simp [w6]
 | w ::l=>by
  have:=QD l
  have:=gl w
  rw [w6,List.length_cons,Nat.mul_succ,Nat.pow_add]; omega
theorem K9: ∀(s:List UInt64) (j:Nat) (c:UInt64),s[j]? =some c->w6 s / 2 ^ (64*j) % 18446744073709551616=c.toNat
 | b ::l,0,c,h=>by
  have:=gl b
  simp only [List.getElem?_cons_zero,ah] at h
  subst h
  rw [w6,Nat.mul_zero,Nat.pow_zero,Nat.div_one]; omega
 | b ::l,j+1,c,h=>by
  have:=gl b
  have ih:=K9 l j c (by simpa using h)
  rw [w6,show 64*(j+1)=64+64*j by omega,Nat.pow_add,←ee,show (b.toNat+18446744073709551616*w6 l) / 2 ^ 64=w6 l by omega,ih]
theorem Wz {s:List UInt64} {i:Nat} {c:UInt64} (h:s[i / 64]? =some c):(c >>> UInt64.ofNat (i % 64) &&& 1).toNat=w6 s / 2 ^ i % 2:=by
 have hw:=K9 s (i / 64) c h
 rw [UInt64.toNat_and,UInt64.toNat_shiftRight]
 have e1:(UInt64.ofNat (i % 64)).toNat % 64=i % 64:=by
  rw [bY,aO (show i % 64 < 2 ^ 64 by omega)]; omega
 rw [e1,Nat.shiftRight_eq_div_pow,show (1:UInt64).toNat=1 from rfl,Nat.and_one_is_mod,←hw]
 have e2:w6 s / 2 ^ i=w6 s / 2 ^ (64*(i / 64)) / 2 ^ (i % 64):=by
  rw [ee,←Nat.pow_add,show 64*(i / 64)+i % 64=i by omega]
 rw [e2]
 generalize w6 s / 2 ^ (64*(i / 64))=m
 have hk:i % 64 < 64:=aZ _ (by decide)
 generalize i % 64=k at*
 rw [show 18446744073709551616=2 ^ k*2 ^ (64 - k) by rw [←Nat.pow_add,show k+(64 - k)=64 by omega],Nat.mod_mul_right_div_self]
 rw [show 2 ^ (64 - k)=2*2 ^ (63 - k) by rw [←Nat.pow_succ',show (63 - k).succ=64 - k by omega],Nat.mod_mul_right_mod]
theorem LJ {ws:List UInt64} (hl:ws.length < 1099511627776):cR 343 [.vsl (ws.map U) none]=some (bD (toLE 32 (w6 ws % LL))):=by
 have hLL:0 < LL:=by decide+kernel
 refine aG (F:=F343) rfl ?_
 have hlen:(ws.map U).length=ws.length:=aH _
 have w1:IntKind.wrap .i64 ((ws.length:Int)*64)=((64*ws.length:Nat):Int):=by rw [aU aa aa]; omega
 have w2:IntKind.wrap .i64 (((64*ws.length:Nat):Int) - 1)=((64*ws.length:Nat):Int) - 1:=aU aa aa
 simp only [KD,DW,F343,az,seval,ax,hlen,w1,w2]
 refine aP (S:=Nat×Nat) (fun p=> [(0, .vsl (ws.map U) none),(2, .ptr 0 0),(3, .ptr 1 0),(4, .fn 378 [.ptr 1 0] []),(5, .int .i64 ((p.1:Int) - 1))]) (fun p=>p.1)
  (fun p σ=>look σ.m 1=some (.own (eG p.2))/\look σ.m 0=some (.own (List.replicate 32 (.int .u8 0)))/\2<=σ.next/\p.2=w6 ws / 2 ^ p.1 % LL/\p.1<=64*ws.length) ?_ (64*ws.length,0) _ ?_
 ·rintro b ⟨n,r⟩ σ ⟨g1,g0,BJ,hr,hn⟩ ih
  simp only at g1 g0 BJ hr hn
  cases n with
  | zero=>
   rw [Nat.pow_zero,Nat.div_one] at hr
   rw [←hr]
   have hq:=r_snum (X:=r)
   have hL:=aX 32 r
   generalize toLE 32 r=v at*
   have tX:(af v).length=32:=by rw [af,aH,hL]
   have AF:(af v).take 32=af v:=aJ aa
   unfold eG at g1
   simp only [List.replicate] at g0
   simp only [bD,an] at hq ⊢
   simp only [C22Fa,az,seval,ae,g0,g1,hq,tX,AF,aC,bF,cp]
  | succ m=>
   have hi:((m+1:Nat):Int) - 1=(m:Int):=by omega
   have lp:decide ((m:Int)≥0)=true:=by simp
   have uK:IntKind.wrap .i64 ((m:Int) - 1)=(m:Int) - 1:=aU aa aa
   obtain ⟨c,hc⟩ : ∃c,ws[m / 64]? =some c:=⟨ws[m / 64]'(by omega),bx aa⟩
   have Qs:(ws.map U)[m / 64]? =some (U c):=by rw [bV,hc]; rfl
   have rH:=mS (sz:=1) (c:=none) Qs rfl
   have oM:=Wz hc
   have hble:(c >>> UInt64.ofNat (m % 64) &&& 1).toNat<=1:=by rw [oM]; omega
   have Ql:r < LL:=by rw [hr]; exact aZ _ hLL
   obtain ⟨σ1,d1,d2,d3,d4⟩:=c_step Ql hble g1 aa
   have ER:Int.tdiv (m:Int) 64=((m / 64:Nat):Int):=rfl
   have fe:Int.tmod (m:Int) 64=((m % 64:Nat):Int):=rfl
   have hq:IntKind.wrap .i64 ((m / 64:Nat):Int)=((m / 64:Nat):Int):=aU aa aa
   have hm:IntKind.wrap .i64 ((m % 64:Nat):Int)=((m % 64:Nat):Int):=aU aa aa
   have mD:=rE c (m % 64) aa
   have dh:uI 1=1:=rfl
   simp only [U] at mD rH d1
   simp only [AV.cells] at rH
   simp only [C22Fa,az,seval,ae,hi,lp,hq,hm,ER,fe,rH,mD,ib,dh,d1,uK]
   refine ih (m,(2*r+(c >>> UInt64.ofNat (m % 64) &&& 1).toNat) % LL) _ _ (aV m) ⟨d2,?_,by omega,?_,by omega⟩ rfl
   ·rw [d4 0 aa aa]; exact g0
   ·show (2*r+(c >>> UInt64.ofNat (m % 64) &&& 1).toNat) % LL=w6 ws / 2 ^ m % LL
    rw [oM,hr]
    have e1:w6 ws / 2 ^ m=2*(w6 ws / 2 ^ (m+1))+w6 ws / 2 ^ m % 2:=by
     rw [Nat.pow_succ,←ee]; omega
    conv=>rhs; rw [e1]
    rw [Nat.add_mod,Nat.mul_mod_mod,←Nat.add_mod]
 ·refine ⟨?_,rfl,aD _,?_,aD _⟩
  ·rw [show eG 0= [.int .u64 0, .int .u64 0, .int .u64 0, .int .u64 0] from by kernel_rfl]; rfl
  ·show 0=_
   rw [Nat.div_eq_of_lt (QD ws),Nat.zero_mod]
def C23Fa:=J @KG.eq_1 (J @Ed.eq_1 (J @No.eq_1 (@F279.eq_1)))
theorem Dv: ∀cs:ai,chunks 1 cs.length cs=cs
 | []=>rfl
 | c ::cs=>by
  rw [List.length_cons,chunks,if_pos rfl,List.drop_one,List.tail_cons,Dv cs]; rfl
theorem HC {l m:ai} (h:ay l=true) (hs: ∀x∈m,x∈l):ay m=true:=ft.2 fun x hx=>ft.1 h x (hs x hx)
theorem jC {σ:ag} {d b off n:Nat} {c:aA} {cs:ai} (h:look σ.m b=some (.own cs)) (hn:off+n<=cs.length) (hc:ay cs=true) (ha:cs.all AV.notAgg=true) :
  rb σ (d+1) (.sl b off n 1 c)=some (.vsl ((cs.drop off).take n) none):=by
 have hb:σ.cells b=some cs:=by unfold ag.cells ag.get; rw [h]
 have hm: ∀x∈(cs.drop off).take n,x∈cs:=fun x hx=>List.mem_of_mem_drop (List.mem_of_mem_take hx)
 have hl:((cs.drop off).take n).length=n:=by rw [bU,fw]; omega
 have ha':((cs.drop off).take n).all AV.notAgg=true:=bG.2 fun x hx=>bG.1 ha x (hm x hx)
 have e:rb σ (d+1) (.sl b off n 1 c)=(match σ.cells b with
   | some cs=>
    if off+n*1<=cs.length/\0 < 1 then
     match cS (rb σ d) ((cs.drop off).take (n*1)) with
     | some cs'=>if cs'.all AV.notAgg then some (.vsl (chunks 1 n cs') none) else none
     | none=>none
    else none
   | none=>none):=rfl
 rw [e,hb]
 simp only
 rw [Nat.mul_one,if_pos ⟨hn,by decide⟩,cP (HC hc hm)]
 simp only
 rw [if_pos ha']
 conv=>lhs; rw [show n=((cs.drop off).take n).length from hl.symm]
 rw [hl,←hl]; simp only [hl]
 conv=>lhs; rw [show chunks 1 n (List.take n (List.drop off cs))=chunks 1 ((cs.drop off).take n).length ((cs.drop off).take n) by rw [hl]]
 rw [Dv]
theorem J4 {f:Nat} {args args':ai} {σ:ag} {r:AV} (h2:cS (rb σ bJ) args=some args') (he:eP args'=args') (hr:cR f args'=some r) (hf:r.flat=true):gf cA gU false (.fn f [] []) args σ=some (r,σ):=
 iz (args':=args') rfl h2 (by rw [he]; exact hr) hf
theorem qw {f b off n:Nat} {c:aA} {cs:ai} {σ:ag} {r:AV} (h:look σ.m b=some (.own cs)) (hn:off+n<=cs.length) (hc:ay cs=true) (ha:cs.all AV.notAgg=true)
  (he:eP ((cs.drop off).take n)=(cs.drop off).take n) (hr:cR f [.vsl ((cs.drop off).take n) none]=some r) (hf:r.flat=true):gf cA gU false (.fn f [] []) [.sl b off n 1 c] σ=some (r,σ):=
 J4 (args':= [.vsl ((cs.drop off).take n) none]) (by rw [tJ,show bJ=23+1 from rfl,jC h hn hc ha]; rfl) (by rw [cg,fW,he,dt]) hr hf
theorem yM {σ:ag} {b n:Nat} {cs:ai} (h:look σ.m b=some (.own cs)) (hl:cs.length=n) (hn:0 < n):eQ σ n 1 (.ptr b 0) none none=some (.sl b 0 n 1 (some n)):=by
 have hb:σ.cells b=some cs:=by unfold ag.cells ag.get; rw [h]
 simp [eQ,bounds,hb,hl,hn]
theorem yD (n k:Nat):wq n k=UInt64.ofNat (n / 2 ^ (64*k)):=by
 rw [wq,show (18446744073709551616:Nat)=2 ^ 64 from rfl,←Nat.pow_mul]
theorem Wy {n i k:Nat} {b:UInt8} (hn:n < 256 ^ i):wq (n+256 ^ i*b.toNat) k=if k=i / 8 then wq n k ||| b.toUInt64 <<< UInt64.ofNat (8*(i % 8)) else wq n k:=by
 have hb:=b.toNat_lt
 have e256:256 ^ i=2 ^ (64*(i / 8))*2 ^ (8*(i % 8)):=by
  rw [←Nat.pow_add,show (256:Nat)=2 ^ 8 from rfl,←Nat.pow_mul,show 64*(i / 8)+8*(i % 8)=8*i by omega]
 split
 ·rename_i hk
  subst hk
  apply UInt64.toNat_inj.1
  have hw:(wq n (i / 8)).toNat < 2 ^ (8*(i % 8)):=by
   rw [yD,bY]
   refine Nat.lt_of_le_of_lt (Nat.mod_le _ _) (Nat.div_lt_of_lt_mul ?_)
   rw [←e256]; exact hn
  rw [pZ _ _ _ aa hw (show b.toUInt64.toNat < 256 from hb),yD,yD,bY,bY]
  have e1:(n+256 ^ i*b.toNat) / 2 ^ (64*(i / 8))=n / 2 ^ (64*(i / 8))+2 ^ (8*(i % 8))*b.toNat:=by
   rw [e256,Nat.mul_assoc,Nat.add_mul_div_left _ _ (Nat.two_pow_pos _)]
  have zz:n / 2 ^ (64*(i / 8)) < 2 ^ (8*(i % 8)):=Nat.div_lt_of_lt_mul (by rw [←e256]; exact hn)
  have h56:2 ^ (8*(i % 8))<=2 ^ 56:=Nat.pow_le_pow_right (by decide) aa
  have h3:2 ^ (8*(i % 8))*b.toNat<=2 ^ 56*255:=Nat.mul_le_mul h56 aa
  have nJ:b.toUInt64.toNat=b.toNat:=rfl
  rw [e1,nJ]
  generalize 2 ^ (8*(i % 8))*b.toNat=q at*
  generalize n / 2 ^ (64*(i / 8))=p at*
  generalize 2 ^ (8*(i % 8))=u at*
  omega
 ·rename_i hk
  apply UInt64.toNat_inj.1
  rw [yD,yD,bY,bY]
  by_cases h:k < i / 8
  ·have e2:256 ^ i*b.toNat=2 ^ (64*k)*(2 ^ 64*(2 ^ (8*i - 64*k - 64)*b.toNat)):=by
    rw [←Nat.mul_assoc,←Nat.mul_assoc,←Nat.pow_add,←Nat.pow_add,show (256:Nat)=2 ^ 8 from rfl,←Nat.pow_mul,show 64*k+64+(8*i - 64*k - 64)=8*i by omega]
   rw [e2,Nat.add_mul_div_left _ _ (Nat.two_pow_pos _),Nat.add_mul_mod_self_left]
  ·have h1:n+256 ^ i*b.toNat < 256 ^ (i+1):=by
    rw [Nat.pow_succ]
    have:256 ^ i*b.toNat<=256 ^ i*255:=Nat.mul_le_mul_left _ aa
    omega
   have h2:256 ^ (i+1)<=2 ^ (64*k):=by
    rw [show (256:Nat)=2 ^ 8 from rfl,←Nat.pow_mul]
    exact Nat.pow_le_pow_right (by decide) aa
   rw [Nat.div_eq_of_lt aa,Nat.div_eq_of_lt aa]
theorem SR {s:aw} {i:Nat} {b:UInt8} (h:s[i]? =some b):bE (s.take (i+1))=bE (s.take i)+256 ^ i*b.toNat:=by
 have hi:i < s.length:=(bI.1 h).1
 have hb:s[i]=b:=(bI.1 h).2
 rw [fM hi,tP,hb,bU,Nat.min_eq_left aa]
 simp [bE]
def wC (n:Nat):ai:= [U (wq n 0),U (wq n 1),U (wq n 2),U (wq n 3),U (wq n 4),U (wq n 5),U (wq n 6),U (wq n 7)]
theorem wC_map (n:Nat):wC n=(List.range 8).map fun k=>U (wq n k):=rfl
theorem QM {n j:Nat} (h:j < 8):(wC n)[j]? =some (U (wq n j)):=by
 rw [wC_map,bV,List.getElem?_range h]; rfl
theorem WI {n i:Nat} {b:UInt8} (hn:n < 256 ^ i):(wC n).set (i / 8) (U (wq n (i / 8) ||| b.toUInt64 <<< UInt64.ofNat (8*(i % 8))))=wC (n+256 ^ i*b.toNat):=by
 apply List.ext_getElem?
 intro k
 rw [List.getElem?_set]
 by_cases h8:k < 8
 ·rw [QM h8,QM h8,Wy hn]
  by_cases hk:i / 8=k
  ·subst hk; simp [wC]; omega
  ·rw [if_neg hk,if_neg (fun h=>hk h.symm)]
 ·have e1: ∀m,(wC m)[k]? =none:=fun m=>cM (by simp [wC]; omega)
  rw [e1,e1]
  split
  ·rename_i hk; simp [wC]; omega
  ·rfl
theorem wC_put {n i:Nat} {b:UInt8} (hn:n < 256 ^ i) (hi:i < 64):(wC n).take (i / 8) ++ [U (wq n (i / 8) ||| b.toUInt64 <<< UInt64.ofNat (8*(i % 8)))] ++(wC n).drop (i / 8+1)=wC (n+256 ^ i*b.toNat):=by
 rw [←WI hn,List.set_eq_take_append_cons_drop,if_pos (by simp [wC]; omega),bb]; rfl
theorem oE {cs:ai} {c:aA} {n:Nat} (h:n<=cs.length):dq 1 (.vsl cs c) none (some (n:Int)) none=some (.vsl (cs.take n) (c.map (· - 0))):=by
 simp [dq,bounds,h]
theorem r_ofL {s:aw} (h:s.length=64):cR 279 [.vsl (af s) none]=some (bD (toLE 32 (bE s % LL))):=by
 have hl:(af s).length=64:=by rw [af,aH,h]
 have C9:=oE (cs:=af s) (c:=none) (n:=64) aa
 rw [aJ aa] at C9
 have hI:((64:Nat):Int)=64:=rfl
 rw [hI] at C9
 refine aG (F:=F279) rfl ?_
 simp only [KG,Ed,F279,az,seval,ax,hl,hI,C9,Option.map_none]
 refine aP (S:=Nat) (fun n=> [(2, .ptr 0 0),(3, .ptr 1 0),(10, .vsl (af s) none),(11, .int .i64 64),(12, .int .i64 ((64 - n:Nat):Int))]) (fun n=>n)
  (fun n σ=>look σ.m 1=some (.own (wC (bE (s.take (64 - n)))))/\look σ.m 0=some (.own (List.replicate 32 (.int .u8 0)))/\n<=64) ?_ 64 _ ?_
 ·rintro b n σ ⟨g1,g0,hn⟩ ih
  cases n with
  | zero=>
   rw [Nat.sub_zero,aJ aa] at g1
   have hws:wC (bE s)=((List.range 8).map fun k=>wq (bE s) k).map U:=rfl
   have hN:w6 ((List.range 8).map fun k=>wq (bE s) k)=bE s:=by
    have aR:=qb s
    rw [h] at aR
    show w6 [wq (bE s) 0,wq (bE s) 1,wq (bE s) 2,wq (bE s) 3,wq (bE s) 4,wq (bE s) 5,wq (bE s) 6,wq (bE s) 7]=bE s
    simp only [w6,lK,Nat.pow_zero,Nat.pow_succ,Nat.one_mul,Nat.reduceMul]
    rw [show (256:Nat) ^ 64=13407807929942597099574024998205846127479365820592393377723561443721764030073546976801874298166903427690031858186486050853753882811946569946433649006084096 by decide] at aR
    omega
   have hr:=LJ (ws:=(List.range 8).map fun k=>wq (bE s) k) (by rw [aH,List.length_range]; decide)
   rw [←hws,hN] at hr
   have hP:=qw (off:=0) (n:=8) (c:=some 8) g1 (by simp [wC]) (by simp [wC,ay,AV.closed]) (by simp [wC,AV.notAgg]) (by simp only [wC,List.drop_zero,List.take_succ_cons,List.take_zero,cg,kV,dt]) hr (by simp only [bD,AV.flat,lr])
   have hL:=aX 32 (bE s % LL)
   generalize toLE 32 (bE s % LL)=v at*
   have tX:(af v).length=32:=by rw [af,aH,hL]
   have AF:(af v).take 32=af v:=aJ aa
   simp only [List.replicate] at g0
   have hw8:(wC (bE s)).length=8:=rfl
   have Jw:=yM g1 hw8 (by decide)
   simp only [bD] at hP ⊢
   simp only [C23Fa,az,seval,ae,g0,g1,hw8,Jw,hP,tX,AF,aC,bF,cp,dZ,Int.lt_irrefl]
  | succ m=>
   have hi:64 - (m+1) < 64:=by omega
   generalize hj:64 - (m+1)=j at*
   have hjm:64 - m=j+1:=by omega
   obtain ⟨c,hc⟩ : ∃c,s[j]? =some c:=⟨s[j]'(by omega),bx aa⟩
   have Qs:(af s)[j]? =some (.int .u8 (c.toNat:Int)):=by rw [af,bV,hc]; rfl
   have rH:=mS (sz:=1) (c:=none) Qs rfl
   have aR:decide ((j:Int) < 64)=true:=decide_eq_true aa
   have ER:Int.tdiv (j:Int) 8=((j / 8:Nat):Int):=rfl
   have fe:Int.tmod (j:Int) 8=((j % 8:Nat):Int):=rfl
   have hq:IntKind.wrap .i64 ((j / 8:Nat):Int)=((j / 8:Nat):Int):=aU aa aa
   have hm:IntKind.wrap .i64 ((j % 8:Nat):Int)=((j % 8:Nat):Int):=aU aa aa
   have h8:IntKind.wrap .i64 (8*((j % 8:Nat):Int))=((8*(j % 8):Nat):Int):=by rw [aU aa aa]; omega
   have uK:IntKind.wrap .i64 ((j:Int)+1)=((j+1:Nat):Int):=aU aa aa
   have hx:=iM (k:= .i64) (n:=8) (b:=1) (j:=j / 8) aa
   have iS:=QM (n:=bE (s.take j)) (j:=j / 8) aa
   have mD:=AM c.toUInt64 (8*(j % 8)) aa
   have BJ:=SR hc
   have Da:bE (s.take j) < 256 ^ j:=by
    have:=qb (s.take j)
    rwa [bU,Nat.min_eq_left aa] at this
   have hset:=wC_put (b:=c) Da hi
   have h7:j / 8<=7:=by omega
   rw [←BJ] at hset
   have hw8:(wC (bE (s.take j))).length=8:=rfl
   simp only [U] at mD iS hset
   simp only [AV.cells] at rH
   simp only [C23Fa,az,seval,ae,aR,rH,hq,hm,ER,fe,h8,hx,g1,iS,ot,mD,pK,gH,uK,hw8,h7,hset]
   exact ih m _ _ (aV m) ⟨by rw [hjm]; rfl,by simpa [look] using g0,by omega⟩ (by rw [hjm]; rfl)
 ·exact ⟨by kernel_rfl,rfl,aD _⟩
theorem UH {σ:ag} {b d n m:Nat} {c e:aA} {cs new:ai} (hb:look σ.m b=some (.own cs)) (hd:look σ.m d=some (.own new)) (hm:0 < m) (V7:m<=n) (hc:cs.length=n) (hn:new.length=m) (ho:new.all AV.one=true) :
  js σ 1 (.sl b 0 n 1 c) (.sl d 0 m 1 e)=some (.int .i64 m,{ σ with m:=(b, .own (new ++cs.drop m)) ::σ.m }):=by
 have e1:σ.cells d=some new:=by unfold ag.cells ag.get; rw [hd]
 have e2:σ.owned b=some cs:=by unfold ag.owned ag.get; rw [hb]
 have e3:rowOf σ 1 (.sl d 0 m 1 e)=some new:=by
  simp only [rowOf,if_true,e1]
  rw [if_pos aa,List.drop_zero,aJ aa]
 simp only [js,lenOf,e3,e2,ag.set,splice,List.take_zero,List.nil_append,Nat.zero_add,hn]
 rw [if_neg aa,if_pos ⟨trivial,by decide,V7,by omega,by omega,ho⟩]
def pA:Option jP->Nat
 | some (.own cs)=>cs.length
 | _=>0
theorem eJ {σ:ag} {b n:Nat} (hn:0 < n) (h:pA (look σ.m b)=n):eQ σ n 1 (.ptr b 0) none none=some (.sl b 0 n 1 (some n)):=by
 unfold pA at h
 split at h
 ·rename_i cs e
  exact yM e h hn
 ·omega
theorem rows4 {a0 a1 a2 a3 b0 b1 b2 b3 d0 d1 d2 d3 CO q1u q2u q3u cu CN q1v q2v q3v cv CM q1w q2w q3w cw CL Bq Bp Bo cz:UInt64}
  (eu:v4 CO q1u q2u q3u+aQ*cu.toNat=v4 d0 d1 d2 d3+a0.toNat*v4 b0 b1 b2 b3) (ev:v4 CN q1v q2v q3v+aQ*cv.toNat=v4 q1u q2u q3u cu+a1.toNat*v4 b0 b1 b2 b3)
  (ew:v4 CM q1w q2w q3w+aQ*cw.toNat=v4 q1v q2v q3v cv+a2.toNat*v4 b0 b1 b2 b3) (ez:v4 CL Bq Bp Bo+aQ*cz.toNat=v4 q1w q2w q3w cw+a3.toNat*v4 b0 b1 b2 b3) :
  w6 [CO,CN,CM,CL,Bq,Bp,Bo,cz]=v4 a0 a1 a2 a3*v4 b0 b1 b2 b3+v4 d0 d1 d2 d3:=by
 have em:v4 a0 a1 a2 a3*v4 b0 b1 b2 b3=a0.toNat*v4 b0 b1 b2 b3+18446744073709551616*(a1.toNat*v4 b0 b1 b2 b3+18446744073709551616*(a2.toNat*v4 b0 b1 b2 b3+18446744073709551616*(a3.toNat*v4 b0 b1 b2 b3))):=by
  rw [v4]; simp only [Nat.add_mul,Nat.mul_assoc]
 rw [em]
 clear em
 simp only [w6]
 generalize a0.toNat*v4 b0 b1 b2 b3=m0 at*
 generalize a1.toNat*v4 b0 b1 b2 b3=m1 at*
 generalize a2.toNat*v4 b0 b1 b2 b3=m2 at*
 generalize a3.toNat*v4 b0 b1 b2 b3=m3 at*
 unfold v4 aQ at*
 omega
theorem QK (a0 a1 a2 a3 b0 b1 b2 b3 d0 d1 d2 d3:UInt64) {A B D:aw} (hA:A.length=32) (hB:B.length=32) (hD:D.length=32) (eA:bE A=v4 a0 a1 a2 a3) (eB:bE B=v4 b0 b1 b2 b3) (eD:bE D=v4 d0 d1 d2 d3) :
  cR 361 [bD A,bD B,bD D]=some (bD (toLE 32 ((bE A*bE B+bE D) % LL))):=by
 have z0:((0:UInt64).toNat:Int)=0:=rfl
 obtain ⟨CO,q1u,q2u,q3u,cu,eu,_,_,_,_,_,_,_,_,_,_,_,_,_,_,_,_,_,_,_,_,_,_,_,_,_,_,_,fu0,fu1,fu2,fu3,fu4,fu5,fu6,fu7,fu8,fu9,Hi,Hh,Hg,Hf,He,Hd,Hc,Hb,Ha,G9⟩:=row a0 b0 b1 b2 b3 d0 d1 d2 d3
 obtain ⟨CN,q1v,q2v,q3v,cv,ev,_,_,_,_,_,_,_,_,_,_,_,_,_,_,_,_,_,_,_,_,_,_,_,_,_,_,_,fv0,fv1,fv2,fv3,fv4,fv5,fv6,fv7,fv8,fv9,G8,G7,G6,G5,G4,G3,G2,G1,G0,GZ⟩:=row a1 b0 b1 b2 b3 q1u q2u q3u cu
 obtain ⟨CM,q1w,q2w,q3w,cw,ew,_,_,_,_,_,_,_,_,_,_,_,_,_,_,_,_,_,_,_,_,_,_,_,_,_,_,_,fw0,fw1,fw2,fw3,fw4,fw5,fw6,fw7,fw8,fw9,GY,GX,GW,GV,GU,GS,GR,GQ,GP,GO⟩:=row a2 b0 b1 b2 b3 q1v q2v q3v cv
 obtain ⟨CL,Bq,Bp,Bo,cz,ez,_,_,_,_,_,_,_,_,_,_,_,_,_,_,_,_,_,_,_,_,_,_,_,_,_,_,_,fz0,fz1,Wg,fz3,fz4,fz5,fz6,fz7,fz8,fz9,GN,GL,GK,GJ,GI,GH,GG,GF,GD,GC⟩:=row a3 b0 b1 b2 b3 q1w q2w q3w cw
 have hlA:=xi hA
 have hlB:=xi hB
 have hlD:=xi hD
 rw [eA,dj] at hlA
 rw [eB,dj] at hlB
 rw [eD,dj] at hlD
 have hm:=rows4 eu ev ew ez
 rw [←eA,←eB,←eD] at hm
 have hr:=LJ (ws:= [CO,CN,CM,CL,Bq,Bp,Bo,cz]) (show 8 < 1099511627776 by decide)
 rw [hm] at hr
 have hL:=aX 32 ((bE A*bE B+bE D) % LL)
 generalize toLE 32 ((bE A*bE B+bE D) % LL)=v at*
 have tX:(af v).length=32:=by rw [af,aH,hL]
 have AF:(af v).take 32=af v:=aJ aa
 have hcA:(af A).length=32:=by rw [af,aH,hA]
 have hcB:(af B).length=32:=by rw [af,aH,hB]
 have hcD:(af D).length=32:=by rw [af,aH,hD]
 have htA:(af A).take 32=af A:=aJ aa
 have htB:(af B).take 32=af B:=aJ aa
 have htD:(af D).take 32=af D:=aJ aa
 clear hm eA eB eD eu ev ew ez hA hB hD
 refine aG (F:=F361) rfl ?_
 simp only [bD] at hlA hlB hlD hr ⊢
 simp only [List.map_cons,List.map_nil] at hr
 simp only [U,z0] at fu0 fu1 fu2 fu3 fu4 fu5 fu6 fu7 fu8 fu9 Hi Hh Hg Hf He Hd Hc Hb Ha G9 fv0 fv1 fv2 fv3 fv4 fv5 fv6 fv7 fv8 fv9 G8 G7 G6 G5 G4 G3 G2 G1 G0 GZ fw0 fw1 fw2 fw3 fw4 fw5 fw6 fw7 fw8 fw9 GY GX GW GV GU GS GR GQ GP GO fz0 fz1 Wg fz3 fz4 fz5 fz6 fz7 fz8 fz9 GN GL GK GJ GI GH GG GF GD GC hlA hlB hlD hr ⊢
 have copy84 {σ:ag} (h:look σ.m 3=some (.own [.int .u64 0, .int .u64 0, .int .u64 0, .int .u64 0, .int .u64 0, .int .u64 0, .int .u64 0, .int .u64 0])) (g:look σ.m 4=some (.own [.int .u64 d0.toNat, .int .u64 d1.toNat, .int .u64 d2.toNat, .int .u64 d3.toNat])):=UH (n:=8) (m:=4) (c:=some 8) (e:=some 4) h g (by decide) (by decide) rfl rfl rfl
 have hP (σ:ag) (h:look σ.m 3=some (.own [.int .u64 (CO.toNat:Int), .int .u64 (CN.toNat:Int), .int .u64 (CM.toNat:Int), .int .u64 (CL.toNat:Int), .int .u64 (Bq.toNat:Int), .int .u64 (Bp.toNat:Int), .int .u64 (Bo.toNat:Int), .int .u64 (cz.toNat:Int)])):gf cA gU false (.fn 343 [] []) [.sl 3 0 8 1 (some 8)] σ=some (.agg (af v),σ):=
  qw (off:=0) (n:=8) h (aD 8) (by simp [ay,AV.closed]) (by simp [AV.notAgg]) (by simp only [List.drop_zero,List.take_succ_cons,List.take_zero,cg,kV,dt]) hr (by simp only [AV.flat,lr])
 simp only [F361,az,seval,ae,@eJ,pA,copy84,ax,aN,@aU,@fI,@br,@qd,hP,hcA,hcB,hcD,htA,htB,htD,tX,AF,aC,bF,cp,hlA,hlB,hlD,fu0,fu1,fu2,fu3,fu4,fu5,fu6,fu7,fu8,fu9,Hi,Hh,Hg,Hf,He,Hd,Hc,Hb,Ha,G9,fv0,fv1,fv2,fv3,fv4,fv5,fv6,fv7,fv8,fv9,G8,G7,G6,G5,G4,G3,G2,G1,G0,GZ,fw0,fw1,fw2,fw3,fw4,fw5,fw6,fw7,fw8,fw9,GY,GX,GW,GV,GU,GS,GR,GQ,GP,GO,fz0,fz1,Wg,fz3,fz4,fz5,fz6,fz7,fz8,fz9,GN,GL,GK,GJ,GI,GH,GG,GF,GD,GC]
theorem RL {A B D:aw} (hA:A.length=32) (hB:B.length=32) (hD:D.length=32):cR 361 [bD A,bD B,bD D]=some (bD (toLE 32 ((bE A*bE B+bE D) % LL))):=by
 obtain ⟨a0,a1,a2,a3,eA⟩:=kv (lg hA)
 obtain ⟨b0,b1,b2,b3,eB⟩:=kv (lg hB)
 obtain ⟨d0,d1,d2,d3,eD⟩:=kv (lg hD)
 exact QK a0 a1 a2 a3 b0 b1 b2 b3 d0 d1 d2 d3 hA hB hD eA eB eD
def rotl (x:UInt64) (k:Nat):UInt64:=x <<< UInt64.ofNat k ||| x >>> UInt64.ofNat (64 - k)
structure V8 where
 a:UInt64
 b:UInt64
 c:UInt64
 d:UInt64
 e:UInt64
 f:UInt64
 g:UInt64
 h:UInt64
def Bb (v:V8) (x:UInt64):V8:=
 let t1:=v.h+(rotl v.e 50 ^^^ rotl v.e 46 ^^^ rotl v.e 23)+((v.e &&& v.f) ^^^ (~~~v.e &&& v.g))+x
 let t2:=(rotl v.a 36 ^^^ rotl v.a 30 ^^^ rotl v.a 25)+((v.a &&& v.b) ^^^ (v.a &&& v.c) ^^^ (v.b &&& v.c))
 ⟨t1+t2,v.a,v.b,v.c,v.d+t1,v.e,v.f,v.g⟩
def Q6 (x:UInt64):UInt64:=rotl x 63 ^^^ rotl x 56 ^^^ x >>> 7
def Q5 (y:UInt64):UInt64:=rotl y 45 ^^^ rotl y 3 ^^^ y >>> 6
def zf (l:List UInt64):UInt64:=l.getD (l.length - 16) 0+Q6 (l.getD (l.length - 15) 0)+l.getD (l.length - 7) 0+Q5 (l.getD (l.length - 2) 0)
def yP:Nat->List UInt64->List UInt64
 | 0,l=>l
 | n+1,l=>yP n (l ++ [zf l])
def Qv (l:aw):UInt64:=l.foldl (fun w c=>w <<< 8 ||| c.toUInt64) 0
def DE (s:aw) (n:Nat):List UInt64:=(List.range n).map fun i=>Qv ((s.drop (8*i)).take 8)
def V8.add (v w:V8):V8:=⟨v.a+w.a,v.b+w.b,v.c+w.c,v.d+w.d,v.e+w.e,v.f+w.f,v.g+w.g,v.h+w.h⟩
def gX (v:V8):List UInt64->V8
 | []=>v
 | x ::l=>gX (Bb v x) l
def mF (l k:List UInt64):List UInt64:=List.zipWith (· + ·) l k
def O0 (k:List UInt64) (v:V8) (s:aw):V8:=v.add (gX v (mF (yP 64 (DE s 16)) k))
def ny (k:List UInt64):Nat->V8->aw->V8
 | 0,v,_=>v
 | n+1,v,s=>ny k n (O0 k v (s.take 128)) (s.drop 128)
def nC (n:Nat):aw:=(toLE 8 n).reverse
def ld (n:Nat):Nat:=(n+17+127) / 128*128
def fJ (s:aw):aw:=s ++ [128] ++List.replicate (ld s.length - s.length - 9) 0 ++nC (8*s.length)
def V8.list (v:V8):List UInt64:= [v.a,v.b,v.c,v.d,v.e,v.f,v.g,v.h]
def I2 (v:V8):aw:=v.list.flatMap fun w=>(toLE 8 w.toNat).reverse
def KK:List UInt64:= [
 0x428a2f98d728ae22,0x7137449123ef65cd,0xb5c0fbcfec4d3b2f,0xe9b5dba58189dbbc,
 0x3956c25bf348b538,0x59f111f1b605d019,0x923f82a4af194f9b,0xab1c5ed5da6d8118,
 0xd807aa98a3030242,0x12835b0145706fbe,0x243185be4ee4b28c,0x550c7dc3d5ffb4e2,
 0x72be5d74f27b896f,0x80deb1fe3b1696b1,0x9bdc06a725c71235,0xc19bf174cf692694,
 0xe49b69c19ef14ad2,0xefbe4786384f25e3,0x0fc19dc68b8cd5b5,0x240ca1cc77ac9c65,
 0x2de92c6f592b0275,0x4a7484aa6ea6e483,0x5cb0a9dcbd41fbd4,0x76f988da831153b5,
 0x983e5152ee66dfab,0xa831c66d2db43210,0xb00327c898fb213f,0xbf597fc7beef0ee4,
 0xc6e00bf33da88fc2,0xd5a79147930aa725,0x06ca6351e003826f,0x142929670a0e6e70,
 0x27b70a8546d22ffc,0x2e1b21385c26c926,0x4d2c6dfc5ac42aed,0x53380d139d95b3df,
 0x650a73548baf63de,0x766a0abb3c77b2a8,0x81c2c92e47edaee6,0x92722c851482353b,
 0xa2bfe8a14cf10364,0xa81a664bbc423001,0xc24b8b70d0f89791,0xc76c51a30654be30,
 0xd192e819d6ef5218,0xd69906245565a910,0xf40e35855771202a,0x106aa07032bbd1b8,
 0x19a4c116b8d2d0c8,0x1e376c085141ab53,0x2748774cdf8eeb99,0x34b0bcb5e19b48a8,
 0x391c0cb3c5c95a63,0x4ed8aa4ae3418acb,0x5b9cca4f7763e373,0x682e6ff3d6b2b8a3,
 0x748f82ee5defb2fc,0x78a5636f43172f60,0x84c87814a1f0ab72,0x8cc702081a6439ec,
 0x90befffa23631e28,0xa4506cebde82bde9,0xbef9a3f7b2c67915,0xc67178f2e372532b,
 0xca273eceea26619c,0xd186b8c721c0c207,0xeada7dd6cde0eb1e,0xf57d4f7fee6ed178,
 0x06f067aa72176fba,0x0a637dc5a2c898a6,0x113f9804bef90dae,0x1b710b35131c471b,
 0x28db77f523047d84,0x32caab7b40c72493,0x3c9ebe0a15c9bebc,0x431d67c49c100d4c,
 0x4cc5d4becb3e42b6,0x597f299cfc657e2a,0x5fcb6fab3ad6faec,0x6c44198c4a475817]
def HH:V8:=⟨0x6a09e667f3bcc908,0xbb67ae8584caa73b,0x3c6ef372fe94f82b,0xa54ff53a5f1d36f1,0x510e527fade682d1,0x9b05688c2b3e6c1f,0x1f83d9abfb41bd6b,0x5be0cd19137e2179⟩
def aB (s:aw):aw:=I2 (ny KK (ld s.length / 128) HH (fJ s))
theorem qH (n:Nat):n+17<=ld n/\ld n % 128=0/\ld n < n+145:=by unfold ld; omega
theorem oc (n:Nat):(nC n).length=8:=by rw [nC,List.length_reverse,aX]
theorem tu (s:aw):(fJ s).length=ld s.length:=by
 have:=qH s.length
 simp only [fJ,aq,List.length_cons,List.length_nil,iB,oc]; omega
theorem Sv (v:V8):(I2 v).length=64:=by
 simp [I2,V8.list,aX]
theorem lT (s:aw):(aB s).length=64:=Sv _
theorem Fe: ∀n l,(yP n l).length=l.length+n
 | 0,l=>rfl
 | n+1,l=>by rw [yP,Fe n,aq]; simp; omega
theorem jx {x:UInt64} {k:Int} {j:Nat} (h:IntKind.wrap .u64 ((BitVec.ofInt (IntKind.bits .u64) (IntKind.wrap .u64 k) &&& BitVec.ofInt (IntKind.bits .u64) 63).toNat:Int)=(j:Int)) (h0:0 < j) (h1:j < 64) :
  cR 359 [U x, .int .i64 k]=some (U (rotl x j)):=by
 have s1:=AM x j h1
 have s2:=rE x (64 - j) aa
 have e:IntKind.wrap .u64 (64 - (j:Int))=((64 - j:Nat):Int):=by rw [fI aa aa]; omega
 simp only [U] at s1 s2
 refine aG (F:=F359) rfl ?_
 simp only [F359,az,seval,ae,U,h,e,s1,s2,pK,gH,rotl]
def V8.cells (v:V8):ai:= [U v.a,U v.b,U v.c,U v.d,U v.e,U v.f,U v.g,U v.h]
theorem w_not (x:UInt64):IntKind.wrap .u64 ((BitVec.ofInt (IntKind.bits .u64) (if IntKind.signed .u64=true then -1 else IntKind.max .u64) ^^^ BitVec.ofInt (IntKind.bits .u64) (x.toNat:Int)).toNat:Int)=((~~~x).toNat:Int):=by
 show IntKind.wrap .u64 ((BitVec.ofInt 64 (if IntKind.signed .u64=true then -1 else IntKind.max .u64) ^^^ BitVec.ofInt 64 (x.toNat:Int)).toNat:Int)=_
 rw [w9,bvU,show BitVec.ofInt 64 (if IntKind.signed .u64=true then -1 else IntKind.max .u64)=BitVec.allOnes 64 by decide,BitVec.allOnes_xor]; rfl
theorem c_turn {b:Nat} {v:V8} {x:UInt64} {σ:ag} (h:look σ.m b=some (.own v.cells)) :
  cj cA gU (.fn 377 [.ptr b 0] []) [U x] σ=some (.tup [],{ σ with m:=(b, .own (Bb v x).cells) ::σ.m }):=by
 have r1 {y:UInt64}:=jx (x:=y) (k:= -14) (j:=50) (by kernel_rfl) (by decide) (by decide)
 have r2 {y:UInt64}:=jx (x:=y) (k:= -18) (j:=46) (by kernel_rfl) (by decide) (by decide)
 have r3 {y:UInt64}:=jx (x:=y) (k:= -41) (j:=23) (by kernel_rfl) (by decide) (by decide)
 have r4 {y:UInt64}:=jx (x:=y) (k:= -28) (j:=36) (by kernel_rfl) (by decide) (by decide)
 have r5 {y:UInt64}:=jx (x:=y) (k:= -34) (j:=30) (by kernel_rfl) (by decide) (by decide)
 have r6 {y:UInt64}:=jx (x:=y) (k:= -39) (j:=25) (by kernel_rfl) (by decide) (by decide)
 obtain ⟨a,b',c,d,e,f,g,h'⟩:=v
 unfold V8.cells at h ⊢
 simp only [U] at r1 r2 r3 r4 r5 r6 h ⊢
 simp only [Bb]
 refine cU (F:=F377) rfl ?_
 simp only [F377,az,seval,ae,cy,@br,h,r1,r2,r3,r4,r5,r6,w_not,lL,ib,pK,EX,gH]
end Go.Ab
