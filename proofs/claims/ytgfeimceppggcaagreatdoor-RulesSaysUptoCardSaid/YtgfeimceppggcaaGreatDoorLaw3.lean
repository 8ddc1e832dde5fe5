/- What functions of the program, and of the library, answer. Conditions: none. -/
import Derived.Test.YtgfeimceppggcaaGreatDoorLaw2
set_option linter.unusedVariables false
set_option linter.unusedSimpArgs false
set_option linter.defProp false
set_option linter.unnecessarySimpa false
namespace Go.Ab
set_option maxRecDepth 100000
set_option maxHeartbeats 1000000
def mT:= @lP.eq_1
theorem Bg (s:Bs):cR 88 [.str s]=some (.bool (vu s)):=by
 refine aC (F:=F88) rfl ?_
 simp only [F88,ax,Nat.reduceEqDiff,reduceIte,reduceCtorEq,Nat.reduceAdd,Nat.reduceLeDiff,Nat.reduceSub,Nat.reduceMul,Int.reduceEq,Int.reduceBEq,Int.reduceBNe,Int.reduceLT,Int.reduceLE,Nat.reduceLT,Ve]
def dN:Bs->Nat
 | []=>0
 | a ::r=>
  if jv a=1 then 1
  else if jv a=2 then (match r with | b ::_=>if rH a b=true then 2 else 0 | []=>0)
  else if jv a=3 then (match r with | b ::c ::_=>if rH a b=true/\ct c=true then 3 else 0 | _=>0)
  else if jv a=4 then (match r with | b ::c ::d ::_=>if rH a b=true/\ct c=true/\ct d=true then 4 else 0 | _=>0)
  else 0
theorem UL {a:UInt8} {r:Bs}:vu (a ::r)=(decide (dN (a ::r)≠0) && vu ((a ::r).drop (dN (a ::r)))):=by
 rw [Jk]
 simp only [dN]
 by_cases h1:jv a=1
 ·simp [h1]
 by_cases h2:jv a=2
 ·cases r with
  | nil=>simp [h2]
  | cons b r=>cases hb:rH a b <;> simp [h2,hb]
 by_cases h3:jv a=3
 ·match r with
  | []=>simp [h3]
  | [b]=>simp [h3]
  | b ::c ::r=>cases hb:rH a b <;> cases hc:ct c <;> simp [h3,hb,hc]
 by_cases h4:jv a=4
 ·match r with
  | []=>simp [h4]
  | [b]=>simp [h4]
  | [b,c]=>simp [h4]
  | b ::c ::d ::r=>cases hb:rH a b <;> cases hc:ct c <;> cases hd:ct d <;> simp [h4,hb,hc,hd]
 simp [h1,h2,h3,h4]
theorem LO {x:Nat} (h:x < 1099511627776):aY .shl .i64 (x:Int) 6=some (.int .i64 ((x*64:Nat):Int)):=by
 simp [aY,IntKind.wrap,IntKind.bits,IntKind.signed]
 omega
theorem MB {x y:Nat} (h:x < 1099511627776) (hy:y < 64):IntKind.wrap .i64 ((BitVec.ofInt IntKind.i64.bits ((x*64:Nat):Int) ||| BitVec.ofInt IntKind.i64.bits ((y:Nat):Int)).toNat:Int)=((x*64+y:Nat):Int):=by
 have e:(BitVec.ofInt 64 ((x*64:Nat):Int) ||| BitVec.ofInt 64 (y:Int)).toNat=x*64+y:=by
  rw [BitVec.toNat_or,BitVec.ofInt_natCast,BitVec.ofInt_natCast,BitVec.toNat_ofNat,BitVec.toNat_ofNat,aO aa,aO aa]
  have:=Nat.shiftLeft_add_eq_or_of_lt (i:=6) (b:=y) aa x
  rw [Nat.shiftLeft_eq,show 2 ^ 6=64 from rfl] at this
  omega
 show IntKind.wrap .i64 ((BitVec.ofInt 64 ((x*64:Nat):Int) ||| BitVec.ofInt 64 (y:Int)).toNat:Int)=_
 rw [e]
 simp [IntKind.wrap,IntKind.bits,IntKind.signed]
 omega
def Ag (b:UInt8):Nat:=(b &&& 63).toNat
theorem jm (b:UInt8):IntKind.wrap .u8 ((BitVec.ofInt IntKind.u8.bits (b.toNat:Int) &&& BitVec.ofInt IntKind.u8.bits 63).toNat:Int)=(Ag b:Int):=
 jg (P:=fun b=>IntKind.wrap .u8 ((BitVec.ofInt IntKind.u8.bits (b.toNat:Int) &&& BitVec.ofInt IntKind.u8.bits 63).toNat:Int)=(Ag b:Int)) (by decide+kernel) b
theorem rj (b:UInt8):Ag b < 64:=jg (P:=fun b=>Ag b < 64) (by decide+kernel) b
theorem uc (b:UInt8):ct b=true->Ag b+128=b.toNat/\128<=b.toNat/\b.toNat < 192:=jg (P:=fun b=>ct b=true->Ag b+128=b.toNat/\128<=b.toNat/\b.toNat < 192) (by decide+kernel) b
theorem sE (b:UInt8):(IntKind.wrap .u8 ((BitVec.ofInt IntKind.u8.bits (b.toNat:Int) &&& BitVec.ofInt IntKind.u8.bits 192).toNat:Int) != 128)= !ct b:=
 jg (P:=fun b=>(IntKind.wrap .u8 ((BitVec.ofInt IntKind.u8.bits (b.toNat:Int) &&& BitVec.ofInt IntKind.u8.bits 192).toNat:Int) != 128)= !ct b) (by decide+kernel) b
theorem mW (a:UInt8):IntKind.wrap .i64 (a.toNat:Int)=(a.toNat:Int):=by
 have:=a.toNat_lt
 simp [IntKind.wrap,IntKind.bits,IntKind.signed]; omega
theorem rO (b:UInt8):IntKind.wrap .i64 (Ag b:Int)=(Ag b:Int):=by
 have:=rj b
 simp [IntKind.wrap,IntKind.bits,IntKind.signed]; omega
theorem Tf (a:UInt8):jv a=2->IntKind.wrap .i64 ((BitVec.ofInt IntKind.i64.bits (a.toNat:Int) &&& BitVec.ofInt IntKind.i64.bits 31).toNat:Int)=((a.toNat - 192:Nat):Int):=
 jg (P:=fun a=>jv a=2->IntKind.wrap .i64 ((BitVec.ofInt IntKind.i64.bits (a.toNat:Int) &&& BitVec.ofInt IntKind.i64.bits 31).toNat:Int)=((a.toNat - 192:Nat):Int)) (by decide+kernel) a
theorem yW (a:UInt8):jv a=3->IntKind.wrap .i64 ((BitVec.ofInt IntKind.i64.bits (a.toNat:Int) &&& BitVec.ofInt IntKind.i64.bits 15).toNat:Int)=((a.toNat - 224:Nat):Int):=
 jg (P:=fun a=>jv a=3->IntKind.wrap .i64 ((BitVec.ofInt IntKind.i64.bits (a.toNat:Int) &&& BitVec.ofInt IntKind.i64.bits 15).toNat:Int)=((a.toNat - 224:Nat):Int)) (by decide+kernel) a
theorem HZ (a:UInt8):jv a=4->IntKind.wrap .i64 ((BitVec.ofInt IntKind.i64.bits (a.toNat:Int) &&& BitVec.ofInt IntKind.i64.bits 7).toNat:Int)=((a.toNat - 240:Nat):Int):=
 jg (P:=fun a=>jv a=4->IntKind.wrap .i64 ((BitVec.ofInt IntKind.i64.bits (a.toNat:Int) &&& BitVec.ofInt IntKind.i64.bits 7).toNat:Int)=((a.toNat - 240:Nat):Int)) (by decide+kernel) a
theorem lead (a:UInt8):(jv a=1↔a.toNat < 128)/\(jv a=2↔194<=a.toNat/\a.toNat < 224)/\(jv a=3↔224<=a.toNat/\a.toNat < 240)/\(jv a=4↔240<=a.toNat/\a.toNat < 245):=
 jg (P:=fun a=>(jv a=1↔a.toNat < 128)/\(jv a=2↔194<=a.toNat/\a.toNat < 224)/\(jv a=3↔224<=a.toNat/\a.toNat < 240)/\(jv a=4↔240<=a.toNat/\a.toNat < 245)) (by decide+kernel) a
theorem WB (a:UInt8):((WD a).toNat=if a.toNat=224 then 160 else if a.toNat=240 then 144 else 128)/\((Xg a).toNat=if a.toNat=237 then 159 else if a.toNat=244 then 143 else 191):=
 jg (P:=fun a=>((WD a).toNat=if a.toNat=224 then 160 else if a.toNat=240 then 144 else 128)/\((Xg a).toNat=if a.toNat=237 then 159 else if a.toNat=244 then 143 else 191)) (by decide+kernel) a
theorem wh (a b:UInt8):rH a b=true↔(WD a).toNat<=b.toNat/\b.toNat<=(Xg a).toNat:=by
 unfold rH
 simp [UInt8.le_iff_toNat_le]
theorem ct_iff (b:UInt8):ct b=true↔128<=b.toNat/\b.toNat<=191:=by
 unfold ct
 simp [UInt8.le_iff_toNat_le]
theorem Hi {a b:UInt8} (h:rH a b=true):ct b=true:=by
 rw [wh] at h
 rw [ct_iff]
 obtain ⟨h1,h2⟩:=WB a
 rw [h1,h2] at h
 split at h <;> split at h <;> (try split at h) <;> (try split at h) <;> omega
theorem Jj:IntKind.wrap .i64 (1+1)=2:=by decide
theorem Ji:IntKind.wrap .i64 (2+1)=3:=by decide
theorem Jh:IntKind.wrap .i64 (3+1)=4:=by decide
theorem gd (a:UInt8) (r:Bs):dN (a ::r)=
  if jv a=1 then 1
  else if jv a=2 then (match r with | b ::_=>if rH a b=true then 2 else 0 | []=>0)
  else if jv a=3 then (match r with | b ::c ::_=>if rH a b=true/\ct c=true then 3 else 0 | _=>0)
  else if jv a=4 then (match r with | b ::c ::d ::_=>if rH a b=true/\ct c=true/\ct d=true then 4 else 0 | _=>0)
  else 0:=by rw [dN.eq_def]; rfl
set_option maxHeartbeats 4000000 in
theorem Vq (a:UInt8) (r:Bs) (c2:jv a=2): ∃c:Int,cR 111 [.str (a ::r)]=some (.tup [.int .i64 c, .int .i64 (dN (a ::r):Nat)]):=by
   have hl:(((r.length+1:Nat):Int) == 0)=false:=by
    rw [cc]; omega
   have ha:cC (.str (a ::r)) (.int .i64 0)=some (.int .u8 a.toNat):=rfl
   obtain ⟨z1,z2,z3,z4⟩:=lead a
   have aN:=a.toNat_lt
   have hz:=z2.1 c2
   have k1:decide ((a.toNat:Int) < 128)=false:=by simp; omega
   have p2:decide ((a.toNat:Int)≥194)=true:=by simp; omega
   have q2:decide ((a.toNat:Int) < 224)=true:=by simp; omega
   by_cases hn:r.length < 1
   ·have dn:decide (((r.length+1:Nat):Int) < 2)=true:=by simp; omega
    have e:dN (a ::r)=0:=by
     rw [gd]
     rw [if_neg (by rw [c2]; decide)]
     rw [if_pos c2]
     split
     ·exact absurd hn (by simp)
     ·rfl
    refine ⟨0,aC (F:=lP) rfl ?_⟩
    simp only [mT,ay,aT,ax,Nat.reduceEqDiff,reduceIte,reduceCtorEq,Nat.reduceAdd,Nat.reduceLeDiff,Nat.reduceSub,Nat.reduceMul,Int.reduceEq,Int.reduceBEq,Int.reduceBNe,Int.reduceLT,Int.reduceLE,Nat.reduceLT,hl,ha,mW,k1,p2,q2,Tf a c2,dn,e]
    rfl
   obtain ⟨b1,rr,hr⟩ : ∃b1 rr,r=b1 ::rr:=by
    match r,hn with
    | b1 ::rr,_=>exact ⟨b1,rr,rfl⟩
    | [],hn=>exact absurd (by simp) hn
   have dn:decide (((r.length+1:Nat):Int) < 2)=false:=by simp; omega
   have er:dN (a ::r)=(if rH a b1=true then 2 else 0):=by
    rw [hr,gd]
    rw [if_neg (by rw [c2]; decide)]
    rw [if_pos c2]
   have y1:cC (.str (a ::r)) (.int .i64 1)=some (.int .u8 b1.toNat):=by rw [hr]; rfl
   have QN:=rj b1
   have uh:=MB (x:=(a.toNat - 192)) (y:=Ag b1) aa QN
   have vk:=LO (x:=(a.toNat - 192)) aa
   obtain ⟨X1,Ui⟩ : ∃X:Nat,X=(a.toNat - 192)*64+Ag b1:=⟨_,rfl⟩
   rw [←Ui] at uh
   by_cases rK:ct b1=true
   case neg=>
    have sJ:(!ct b1)=true:=by simp [rK]
    have e:dN (a ::r)=0:=by
     rw [er,if_neg]; intro h; exact rK (Hi h)
    refine ⟨0,aC (F:=lP) rfl ?_⟩
    simp only [mT,ay,aT,ax,Nat.reduceEqDiff,reduceIte,reduceCtorEq,Nat.reduceAdd,Nat.reduceLeDiff,Nat.reduceSub,Nat.reduceMul,Int.reduceEq,Int.reduceBEq,Int.reduceBNe,Int.reduceLT,Int.reduceLE,Nat.reduceLT,hl,ha,mW,k1,p2,q2,Tf a c2,dn,sE,jm,rO,Jj,Ji,Jh,y1,sJ,e]
    rfl
   have sJ:(!ct b1)=false:=by simp [rK]
   obtain ⟨g1a,g1b,g1c⟩:=uc b1 rK
   obtain ⟨jc,yq⟩:=WB a
   have Hs:=wh a b1
   by_cases tu:rH a b1=true
   ·have e:dN (a ::r)=2:=by rw [er,if_pos]; exact tu
    rw [tu] at Hs
    have sM:=Hs.1 rfl
    rw [jc,yq] at sM
    have hin3:(a.toNat=224->160<=b1.toNat)/\(a.toNat=237->b1.toNat<=159)/\(a.toNat=240->144<=b1.toNat)/\(a.toNat=244->b1.toNat<=143):=by
     refine ⟨fun h=> ?_,fun h=> ?_,fun h=> ?_,fun h=> ?_⟩ <;> simp only [h] at sM <;> simp at sM <;> omega
    clear sM
    have t1:decide (((X1:Nat):Int) < 128)=false:=by simp; omega
    have t2:decide (1114111 < ((X1:Nat):Int))=false:=by simp; omega
    have t3:decide (((X1:Nat):Int)≥55296)=false:=by simp; omega
    refine ⟨((X1:Nat):Int),aC (F:=lP) rfl ?_⟩
    simp only [mT,ay,aT,ax,Nat.reduceEqDiff,reduceIte,reduceCtorEq,Nat.reduceAdd,Nat.reduceLeDiff,Nat.reduceSub,Nat.reduceMul,Int.reduceEq,Int.reduceBEq,Int.reduceBNe,Int.reduceLT,Int.reduceLE,Nat.reduceLT,hl,ha,mW,k1,p2,q2,Tf a c2,dn,sE,jm,rO,Jj,Ji,Jh,y1,sJ,vk,uh,e,t1,t2,t3]
    rfl
   ·have e:dN (a ::r)=0:=by rw [er,if_neg]; intro h; exact tu h
    have lR: ¬((WD a).toNat<=b1.toNat/\b1.toNat<=(Xg a).toNat):=fun h=>tu (Hs.2 h)
    rw [jc,yq] at lR
    have Z7:(a.toNat=224/\b1.toNat < 160)∨(a.toNat=237/\159 < b1.toNat)∨(a.toNat=240/\b1.toNat < 144)∨(a.toNat=244/\143 < b1.toNat):=by
     split at lR <;> (try split at lR) <;> (try split at lR) <;> (try split at lR) <;> omega
    clear lR
    omega
set_option maxHeartbeats 4000000 in
theorem Vp (a:UInt8) (r:Bs) (c3:jv a=3): ∃c:Int,cR 111 [.str (a ::r)]=some (.tup [.int .i64 c, .int .i64 (dN (a ::r):Nat)]):=by
   have hl:(((r.length+1:Nat):Int) == 0)=false:=by
    rw [cc]; omega
   have ha:cC (.str (a ::r)) (.int .i64 0)=some (.int .u8 a.toNat):=rfl
   obtain ⟨z1,z2,z3,z4⟩:=lead a
   have aN:=a.toNat_lt
   have hz:=z3.1 c3
   have k1:decide ((a.toNat:Int) < 128)=false:=by simp; omega
   have p2:decide ((a.toNat:Int)≥194)=true:=by simp; omega
   have q2:decide ((a.toNat:Int) < 224)=false:=by simp; omega
   have p3:decide ((a.toNat:Int)≥224)=true:=by simp; omega
   have q3:decide ((a.toNat:Int) < 240)=true:=by simp; omega
   by_cases hn:r.length < 2
   ·have dn:decide (((r.length+1:Nat):Int) < 3)=true:=by simp; omega
    have e:dN (a ::r)=0:=by
     rw [gd]
     rw [if_neg (by rw [c3]; decide)]
     rw [if_neg (by rw [c3]; decide)]
     rw [if_pos c3]
     split
     ·exact absurd hn (by simp)
     ·rfl
    refine ⟨0,aC (F:=lP) rfl ?_⟩
    simp only [mT,ay,aT,ax,Nat.reduceEqDiff,reduceIte,reduceCtorEq,Nat.reduceAdd,Nat.reduceLeDiff,Nat.reduceSub,Nat.reduceMul,Int.reduceEq,Int.reduceBEq,Int.reduceBNe,Int.reduceLT,Int.reduceLE,Nat.reduceLT,hl,ha,mW,k1,p2,q2,p3,q3,yW a c3,dn,e]
    rfl
   obtain ⟨b1,b2,rr,hr⟩ : ∃b1 b2 rr,r=b1 ::b2 ::rr:=by
    match r,hn with
    | b1 ::b2 ::rr,_=>exact ⟨b1,b2,rr,rfl⟩
    | [b1],hn=>exact absurd (by simp) hn
    | [],hn=>exact absurd (by simp) hn
   have dn:decide (((r.length+1:Nat):Int) < 3)=false:=by simp; omega
   have er:dN (a ::r)=(if rH a b1=true/\ct b2=true then 3 else 0):=by
    rw [hr,gd]
    rw [if_neg (by rw [c3]; decide)]
    rw [if_neg (by rw [c3]; decide)]
    rw [if_pos c3]
   have y1:cC (.str (a ::r)) (.int .i64 1)=some (.int .u8 b1.toNat):=by rw [hr]; rfl
   have QN:=rj b1
   have uh:=MB (x:=(a.toNat - 224)) (y:=Ag b1) aa QN
   have vk:=LO (x:=(a.toNat - 224)) aa
   obtain ⟨X1,Ui⟩ : ∃X:Nat,X=(a.toNat - 224)*64+Ag b1:=⟨_,rfl⟩
   rw [←Ui] at uh
   have y2:cC (.str (a ::r)) (.int .i64 2)=some (.int .u8 b2.toNat):=by rw [hr]; rfl
   have QM:=rj b2
   have nt:=MB (x:=X1) (y:=Ag b2) aa QM
   have oS:=LO (x:=X1) aa
   obtain ⟨X2,hX2⟩ : ∃X:Nat,X=X1*64+Ag b2:=⟨_,rfl⟩
   rw [←hX2] at nt
   by_cases rK:ct b1=true
   case neg=>
    have sJ:(!ct b1)=true:=by simp [rK]
    have e:dN (a ::r)=0:=by
     rw [er,if_neg]; intro h; exact rK (Hi h.1)
    refine ⟨0,aC (F:=lP) rfl ?_⟩
    simp only [mT,ay,aT,ax,Nat.reduceEqDiff,reduceIte,reduceCtorEq,Nat.reduceAdd,Nat.reduceLeDiff,Nat.reduceSub,Nat.reduceMul,Int.reduceEq,Int.reduceBEq,Int.reduceBNe,Int.reduceLT,Int.reduceLE,Nat.reduceLT,hl,ha,mW,k1,p2,q2,p3,q3,yW a c3,dn,sE,jm,rO,Jj,Ji,Jh,y1,sJ,e]
    rfl
   have sJ:(!ct b1)=false:=by simp [rK]
   obtain ⟨g1a,g1b,g1c⟩:=uc b1 rK
   by_cases rJ:ct b2=true
   case neg=>
    have BC:(!ct b2)=true:=by simp [rJ]
    have e:dN (a ::r)=0:=by
     rw [er,if_neg]; intro h; exact rJ h.2
    refine ⟨0,aC (F:=lP) rfl ?_⟩
    simp only [mT,ay,aT,ax,Nat.reduceEqDiff,reduceIte,reduceCtorEq,Nat.reduceAdd,Nat.reduceLeDiff,Nat.reduceSub,Nat.reduceMul,Int.reduceEq,Int.reduceBEq,Int.reduceBNe,Int.reduceLT,Int.reduceLE,Nat.reduceLT,hl,ha,mW,k1,p2,q2,p3,q3,yW a c3,dn,sE,jm,rO,Jj,Ji,Jh,y1,sJ,vk,uh,y2,BC,e]
    rfl
   have BC:(!ct b2)=false:=by simp [rJ]
   obtain ⟨g2a,g2b,g2c⟩:=uc b2 rJ
   obtain ⟨jc,yq⟩:=WB a
   have Hs:=wh a b1
   by_cases tu:rH a b1=true
   ·have e:dN (a ::r)=3:=by rw [er,if_pos]; exact ⟨tu,rJ⟩
    rw [tu] at Hs
    have sM:=Hs.1 rfl
    rw [jc,yq] at sM
    have hin3:(a.toNat=224->160<=b1.toNat)/\(a.toNat=237->b1.toNat<=159)/\(a.toNat=240->144<=b1.toNat)/\(a.toNat=244->b1.toNat<=143):=by
     refine ⟨fun h=> ?_,fun h=> ?_,fun h=> ?_,fun h=> ?_⟩ <;> simp only [h] at sM <;> simp at sM <;> omega
    clear sM
    by_cases h5:X2 < 55296
    ·skip
     have t1:decide (((X2:Nat):Int) < 2048)=false:=by simp; omega
     have t2:decide (1114111 < ((X2:Nat):Int))=false:=by simp; omega
     have t3:decide (((X2:Nat):Int)≥55296)=false:=by simp; omega
     refine ⟨((X2:Nat):Int),aC (F:=lP) rfl ?_⟩
     simp only [mT,ay,aT,ax,Nat.reduceEqDiff,reduceIte,reduceCtorEq,Nat.reduceAdd,Nat.reduceLeDiff,Nat.reduceSub,Nat.reduceMul,Int.reduceEq,Int.reduceBEq,Int.reduceBNe,Int.reduceLT,Int.reduceLE,Nat.reduceLT,hl,ha,mW,k1,p2,q2,p3,q3,yW a c3,dn,sE,jm,rO,Jj,Ji,Jh,y1,sJ,vk,uh,y2,BC,oS,nt,e,t1,t2,t3]
     rfl
    ·skip
     have t1:decide (((X2:Nat):Int) < 2048)=false:=by simp; omega
     have t2:decide (1114111 < ((X2:Nat):Int))=false:=by simp; omega
     have t3:decide (((X2:Nat):Int)≥55296)=true:=by simp; omega
     have t4:decide (((X2:Nat):Int) < 57344)=false:=by simp; omega
     refine ⟨((X2:Nat):Int),aC (F:=lP) rfl ?_⟩
     simp only [mT,ay,aT,ax,Nat.reduceEqDiff,reduceIte,reduceCtorEq,Nat.reduceAdd,Nat.reduceLeDiff,Nat.reduceSub,Nat.reduceMul,Int.reduceEq,Int.reduceBEq,Int.reduceBNe,Int.reduceLT,Int.reduceLE,Nat.reduceLT,hl,ha,mW,k1,p2,q2,p3,q3,yW a c3,dn,sE,jm,rO,Jj,Ji,Jh,y1,sJ,vk,uh,y2,BC,oS,nt,e,t1,t2,t3,t4]
     rfl
   ·have e:dN (a ::r)=0:=by rw [er,if_neg]; intro h; exact tu h.1
    have lR: ¬((WD a).toNat<=b1.toNat/\b1.toNat<=(Xg a).toNat):=fun h=>tu (Hs.2 h)
    rw [jc,yq] at lR
    have Z7:(a.toNat=224/\b1.toNat < 160)∨(a.toNat=237/\159 < b1.toNat)∨(a.toNat=240/\b1.toNat < 144)∨(a.toNat=244/\143 < b1.toNat):=by
     split at lR <;> (try split at lR) <;> (try split at lR) <;> (try split at lR) <;> omega
    clear lR
    by_cases h5:a.toNat=224
    ·skip
     have t1:decide (((X2:Nat):Int) < 2048)=true:=by simp; omega
     refine ⟨0,aC (F:=lP) rfl ?_⟩
     simp only [mT,ay,aT,ax,Nat.reduceEqDiff,reduceIte,reduceCtorEq,Nat.reduceAdd,Nat.reduceLeDiff,Nat.reduceSub,Nat.reduceMul,Int.reduceEq,Int.reduceBEq,Int.reduceBNe,Int.reduceLT,Int.reduceLE,Nat.reduceLT,hl,ha,mW,k1,p2,q2,p3,q3,yW a c3,dn,sE,jm,rO,Jj,Ji,Jh,y1,sJ,vk,uh,y2,BC,oS,nt,e,t1]
     rfl
    ·skip
     have t1:decide (((X2:Nat):Int) < 2048)=false:=by simp; omega
     have t2:decide (1114111 < ((X2:Nat):Int))=false:=by simp; omega
     have t3:decide (((X2:Nat):Int)≥55296)=true:=by simp; omega
     have t4:decide (((X2:Nat):Int) < 57344)=true:=by simp; omega
     refine ⟨0,aC (F:=lP) rfl ?_⟩
     simp only [mT,ay,aT,ax,Nat.reduceEqDiff,reduceIte,reduceCtorEq,Nat.reduceAdd,Nat.reduceLeDiff,Nat.reduceSub,Nat.reduceMul,Int.reduceEq,Int.reduceBEq,Int.reduceBNe,Int.reduceLT,Int.reduceLE,Nat.reduceLT,hl,ha,mW,k1,p2,q2,p3,q3,yW a c3,dn,sE,jm,rO,Jj,Ji,Jh,y1,sJ,vk,uh,y2,BC,oS,nt,e,t1,t2,t3,t4]
     rfl
set_option maxHeartbeats 4000000 in
theorem Vo (a:UInt8) (r:Bs) (c4:jv a=4): ∃c:Int,cR 111 [.str (a ::r)]=some (.tup [.int .i64 c, .int .i64 (dN (a ::r):Nat)]):=by
   have hl:(((r.length+1:Nat):Int) == 0)=false:=by
    rw [cc]; omega
   have ha:cC (.str (a ::r)) (.int .i64 0)=some (.int .u8 a.toNat):=rfl
   obtain ⟨z1,z2,z3,z4⟩:=lead a
   have aN:=a.toNat_lt
   have hz:=z4.1 c4
   have k1:decide ((a.toNat:Int) < 128)=false:=by simp; omega
   have p2:decide ((a.toNat:Int)≥194)=true:=by simp; omega
   have q2:decide ((a.toNat:Int) < 224)=false:=by simp; omega
   have p3:decide ((a.toNat:Int)≥224)=true:=by simp; omega
   have q3:decide ((a.toNat:Int) < 240)=false:=by simp; omega
   have p4:decide ((a.toNat:Int)≥240)=true:=by simp; omega
   have q4:decide ((a.toNat:Int) < 245)=true:=by simp; omega
   by_cases hn:r.length < 3
   ·have dn:decide (((r.length+1:Nat):Int) < 4)=true:=by simp; omega
    have e:dN (a ::r)=0:=by
     rw [gd]
     rw [if_neg (by rw [c4]; decide)]
     rw [if_neg (by rw [c4]; decide)]
     rw [if_neg (by rw [c4]; decide)]
     rw [if_pos c4]
     split
     ·exact absurd hn (by simp)
     ·rfl
    refine ⟨0,aC (F:=lP) rfl ?_⟩
    simp only [mT,ay,aT,ax,Nat.reduceEqDiff,reduceIte,reduceCtorEq,Nat.reduceAdd,Nat.reduceLeDiff,Nat.reduceSub,Nat.reduceMul,Int.reduceEq,Int.reduceBEq,Int.reduceBNe,Int.reduceLT,Int.reduceLE,Nat.reduceLT,hl,ha,mW,k1,p2,q2,p3,q3,p4,q4,HZ a c4,dn,e]
    rfl
   obtain ⟨b1,b2,b3,rr,hr⟩ : ∃b1 b2 b3 rr,r=b1 ::b2 ::b3 ::rr:=by
    match r,hn with
    | b1 ::b2 ::b3 ::rr,_=>exact ⟨b1,b2,b3,rr,rfl⟩
    | [b1],hn=>exact absurd (by simp) hn
    | [b1,b2],hn=>exact absurd (by simp) hn
    | [],hn=>exact absurd (by simp) hn
   have dn:decide (((r.length+1:Nat):Int) < 4)=false:=by simp; omega
   have er:dN (a ::r)=(if rH a b1=true/\ct b2=true/\ct b3=true then 4 else 0):=by
    rw [hr,gd]
    rw [if_neg (by rw [c4]; decide)]
    rw [if_neg (by rw [c4]; decide)]
    rw [if_neg (by rw [c4]; decide)]
    rw [if_pos c4]
   have y1:cC (.str (a ::r)) (.int .i64 1)=some (.int .u8 b1.toNat):=by rw [hr]; rfl
   have QN:=rj b1
   have uh:=MB (x:=(a.toNat - 240)) (y:=Ag b1) aa QN
   have vk:=LO (x:=(a.toNat - 240)) aa
   obtain ⟨X1,Ui⟩ : ∃X:Nat,X=(a.toNat - 240)*64+Ag b1:=⟨_,rfl⟩
   rw [←Ui] at uh
   have y2:cC (.str (a ::r)) (.int .i64 2)=some (.int .u8 b2.toNat):=by rw [hr]; rfl
   have QM:=rj b2
   have nt:=MB (x:=X1) (y:=Ag b2) aa QM
   have oS:=LO (x:=X1) aa
   obtain ⟨X2,hX2⟩ : ∃X:Nat,X=X1*64+Ag b2:=⟨_,rfl⟩
   rw [←hX2] at nt
   have y3:cC (.str (a ::r)) (.int .i64 3)=some (.int .u8 b3.toNat):=by rw [hr]; rfl
   have hm3:=rj b3
   have hx3:=MB (x:=X2) (y:=Ag b3) aa hm3
   have Ki:=LO (x:=X2) aa
   obtain ⟨X3,hX3⟩ : ∃X:Nat,X=X2*64+Ag b3:=⟨_,rfl⟩
   rw [←hX3] at hx3
   by_cases rK:ct b1=true
   case neg=>
    have sJ:(!ct b1)=true:=by simp [rK]
    have e:dN (a ::r)=0:=by
     rw [er,if_neg]; intro h; exact rK (Hi h.1)
    refine ⟨0,aC (F:=lP) rfl ?_⟩
    simp only [mT,ay,aT,ax,Nat.reduceEqDiff,reduceIte,reduceCtorEq,Nat.reduceAdd,Nat.reduceLeDiff,Nat.reduceSub,Nat.reduceMul,Int.reduceEq,Int.reduceBEq,Int.reduceBNe,Int.reduceLT,Int.reduceLE,Nat.reduceLT,hl,ha,mW,k1,p2,q2,p3,q3,p4,q4,HZ a c4,dn,sE,jm,rO,Jj,Ji,Jh,y1,sJ,e]
    rfl
   have sJ:(!ct b1)=false:=by simp [rK]
   obtain ⟨g1a,g1b,g1c⟩:=uc b1 rK
   by_cases rJ:ct b2=true
   case neg=>
    have BC:(!ct b2)=true:=by simp [rJ]
    have e:dN (a ::r)=0:=by
     rw [er,if_neg]; intro h; exact rJ h.2.1
    refine ⟨0,aC (F:=lP) rfl ?_⟩
    simp only [mT,ay,aT,ax,Nat.reduceEqDiff,reduceIte,reduceCtorEq,Nat.reduceAdd,Nat.reduceLeDiff,Nat.reduceSub,Nat.reduceMul,Int.reduceEq,Int.reduceBEq,Int.reduceBNe,Int.reduceLT,Int.reduceLE,Nat.reduceLT,hl,ha,mW,k1,p2,q2,p3,q3,p4,q4,HZ a c4,dn,sE,jm,rO,Jj,Ji,Jh,y1,sJ,vk,uh,y2,BC,e]
    rfl
   have BC:(!ct b2)=false:=by simp [rJ]
   obtain ⟨g2a,g2b,g2c⟩:=uc b2 rJ
   by_cases vO:ct b3=true
   case neg=>
    have hn3:(!ct b3)=true:=by simp [vO]
    have e:dN (a ::r)=0:=by
     rw [er,if_neg]; intro h; exact vO h.2.2
    refine ⟨0,aC (F:=lP) rfl ?_⟩
    simp only [mT,ay,aT,ax,Nat.reduceEqDiff,reduceIte,reduceCtorEq,Nat.reduceAdd,Nat.reduceLeDiff,Nat.reduceSub,Nat.reduceMul,Int.reduceEq,Int.reduceBEq,Int.reduceBNe,Int.reduceLT,Int.reduceLE,Nat.reduceLT,hl,ha,mW,k1,p2,q2,p3,q3,p4,q4,HZ a c4,dn,sE,jm,rO,Jj,Ji,Jh,y1,sJ,vk,uh,y2,BC,oS,nt,y3,hn3,e]
    rfl
   have hn3:(!ct b3)=false:=by simp [vO]
   obtain ⟨g3a,g3b,g3c⟩:=uc b3 vO
   obtain ⟨jc,yq⟩:=WB a
   have Hs:=wh a b1
   by_cases tu:rH a b1=true
   ·have e:dN (a ::r)=4:=by rw [er,if_pos]; exact ⟨tu,rJ,vO⟩
    rw [tu] at Hs
    have sM:=Hs.1 rfl
    rw [jc,yq] at sM
    have hin3:(a.toNat=224->160<=b1.toNat)/\(a.toNat=237->b1.toNat<=159)/\(a.toNat=240->144<=b1.toNat)/\(a.toNat=244->b1.toNat<=143):=by
     refine ⟨fun h=> ?_,fun h=> ?_,fun h=> ?_,fun h=> ?_⟩ <;> simp only [h] at sM <;> simp at sM <;> omega
    clear sM
    have t1:decide (((X3:Nat):Int) < 65536)=false:=by simp; omega
    have t2:decide (1114111 < ((X3:Nat):Int))=false:=by simp; omega
    have t3:decide (((X3:Nat):Int)≥55296)=true:=by simp; omega
    have t4:decide (((X3:Nat):Int) < 57344)=false:=by simp; omega
    refine ⟨((X3:Nat):Int),aC (F:=lP) rfl ?_⟩
    simp only [mT,ay,aT,ax,Nat.reduceEqDiff,reduceIte,reduceCtorEq,Nat.reduceAdd,Nat.reduceLeDiff,Nat.reduceSub,Nat.reduceMul,Int.reduceEq,Int.reduceBEq,Int.reduceBNe,Int.reduceLT,Int.reduceLE,Nat.reduceLT,hl,ha,mW,k1,p2,q2,p3,q3,p4,q4,HZ a c4,dn,sE,jm,rO,Jj,Ji,Jh,y1,sJ,vk,uh,y2,BC,oS,nt,y3,hn3,Ki,hx3,e,t1,t2,t3,t4]
    rfl
   ·have e:dN (a ::r)=0:=by rw [er,if_neg]; intro h; exact tu h.1
    have lR: ¬((WD a).toNat<=b1.toNat/\b1.toNat<=(Xg a).toNat):=fun h=>tu (Hs.2 h)
    rw [jc,yq] at lR
    have Z7:(a.toNat=224/\b1.toNat < 160)∨(a.toNat=237/\159 < b1.toNat)∨(a.toNat=240/\b1.toNat < 144)∨(a.toNat=244/\143 < b1.toNat):=by
     split at lR <;> (try split at lR) <;> (try split at lR) <;> (try split at lR) <;> omega
    clear lR
    by_cases h5:a.toNat=240
    ·skip
     have t1:decide (((X3:Nat):Int) < 65536)=true:=by simp; omega
     refine ⟨0,aC (F:=lP) rfl ?_⟩
     simp only [mT,ay,aT,ax,Nat.reduceEqDiff,reduceIte,reduceCtorEq,Nat.reduceAdd,Nat.reduceLeDiff,Nat.reduceSub,Nat.reduceMul,Int.reduceEq,Int.reduceBEq,Int.reduceBNe,Int.reduceLT,Int.reduceLE,Nat.reduceLT,hl,ha,mW,k1,p2,q2,p3,q3,p4,q4,HZ a c4,dn,sE,jm,rO,Jj,Ji,Jh,y1,sJ,vk,uh,y2,BC,oS,nt,y3,hn3,Ki,hx3,e,t1]
     rfl
    ·skip
     have t1:decide (((X3:Nat):Int) < 65536)=false:=by simp; omega
     have t2:decide (1114111 < ((X3:Nat):Int))=true:=by simp; omega
     refine ⟨0,aC (F:=lP) rfl ?_⟩
     simp only [mT,ay,aT,ax,Nat.reduceEqDiff,reduceIte,reduceCtorEq,Nat.reduceAdd,Nat.reduceLeDiff,Nat.reduceSub,Nat.reduceMul,Int.reduceEq,Int.reduceBEq,Int.reduceBNe,Int.reduceLT,Int.reduceLE,Nat.reduceLT,hl,ha,mW,k1,p2,q2,p3,q3,p4,q4,HZ a c4,dn,sE,jm,rO,Jj,Ji,Jh,y1,sJ,vk,uh,y2,BC,oS,nt,y3,hn3,Ki,hx3,e,t1,t2]
     rfl
theorem r_rune (s:Bs): ∃c:Int,cR 111 [.str s]=some (.tup [.int .i64 c, .int .i64 (dN s:Nat)]):=by
 cases s with
 | nil=>
  refine ⟨0,aC (F:=lP) rfl ?_⟩
  simp only [mT,ax,Nat.reduceEqDiff,reduceIte,reduceCtorEq,Nat.reduceAdd,Nat.reduceLeDiff,Nat.reduceSub,Nat.reduceMul,Int.reduceEq,Int.reduceBEq,Int.reduceBNe,Int.reduceLT,Int.reduceLE,Nat.reduceLT]
  rfl
 | cons a r=>
  have hl:(((r.length+1:Nat):Int) == 0)=false:=by
   rw [cc]; omega
  have ha:cC (.str (a ::r)) (.int .i64 0)=some (.int .u8 a.toNat):=rfl
  obtain ⟨z1,z2,z3,z4⟩:=lead a
  have aN:=a.toNat_lt
  by_cases c1:jv a=1
  ·have k1:decide ((a.toNat:Int) < 128)=true:=by simp; have:=z1.1 c1; omega
   refine ⟨a.toNat,aC (F:=lP) rfl ?_⟩
   have e:dN (a ::r)=1:=by rw [gd,if_pos c1]
   simp only [mT,ax,Nat.reduceEqDiff,reduceIte,reduceCtorEq,Nat.reduceAdd,Nat.reduceLeDiff,Nat.reduceSub,Nat.reduceMul,Int.reduceEq,Int.reduceBEq,Int.reduceBNe,Int.reduceLT,Int.reduceLE,Nat.reduceLT,hl,ha,mW,k1,e]
   rfl
  have k1:decide ((a.toNat:Int) < 128)=false:=by simp; have:=mt z1.2 c1; omega
  by_cases c2:jv a=2
  ·exact Vq a r c2
  by_cases c3:jv a=3
  ·exact Vp a r c3
  by_cases c4:jv a=4
  ·exact Vo a r c4
  have e:dN (a ::r)=0:=by rw [gd,if_neg c1,if_neg c2,if_neg c3,if_neg c4]
  by_cases h1:a.toNat < 194
  ·have p2:decide ((a.toNat:Int)≥194)=false:=by simp; omega
   have p3:decide ((a.toNat:Int)≥224)=false:=by simp; omega
   have p4:decide ((a.toNat:Int)≥240)=false:=by simp; omega
   refine ⟨0,aC (F:=lP) rfl ?_⟩
   simp only [mT,ax,Nat.reduceEqDiff,reduceIte,reduceCtorEq,Nat.reduceAdd,Nat.reduceLeDiff,Nat.reduceSub,Nat.reduceMul,Int.reduceEq,Int.reduceBEq,Int.reduceBNe,Int.reduceLT,Int.reduceLE,Nat.reduceLT,hl,ha,mW,k1,p2,p3,p4,e]
   rfl
  ·have p2:decide ((a.toNat:Int)≥194)=true:=by simp; omega
   have q2:decide ((a.toNat:Int) < 224)=false:=by simp; omega
   have p3:decide ((a.toNat:Int)≥224)=true:=by simp; omega
   have q3:decide ((a.toNat:Int) < 240)=false:=by simp; omega
   have p4:decide ((a.toNat:Int)≥240)=true:=by simp; omega
   have q4:decide ((a.toNat:Int) < 245)=false:=by simp; omega
   refine ⟨0,aC (F:=lP) rfl ?_⟩
   simp only [mT,ax,Nat.reduceEqDiff,reduceIte,reduceCtorEq,Nat.reduceAdd,Nat.reduceLeDiff,Nat.reduceSub,Nat.reduceMul,Int.reduceEq,Int.reduceBEq,Int.reduceBNe,Int.reduceLT,Int.reduceLE,Nat.reduceLT,hl,ha,mW,k1,p2,p3,p4,q2,q3,q4,e]
   rfl
end Go.Ab
