/- What functions of the program, and of the library, answer. Conditions: none. -/
import Derived.Test.YtgfeimceppggcaaGreatDoorLaw2
set_option linter.unusedVariables false
set_option linter.unusedSimpArgs false
set_option linter.defProp false
set_option linter.unnecessarySimpa false
namespace Go.Ab
set_option maxRecDepth 100000
set_option maxHeartbeats 1000000
def nE:= @mB.eq_1
theorem CJ (s:Bs):cR 88 [.str s]=some (.bool (vu s)):=by
 refine aG (F:=F88) rfl ?_
 simp only [F88,az,Nat.reduceEqDiff,reduceIte,reduceCtorEq,Nat.reduceAdd,Nat.reduceLeDiff,Nat.reduceSub,Nat.reduceMul,Int.reduceEq,Int.reduceBEq,Int.reduceBNe,Int.reduceLT,Int.reduceLE,Nat.reduceLT,Xb]
def eN:Bs->Nat
 | []=>0
 | a ::r=>
  if jT a=1 then 1
  else if jT a=2 then (match r with | b ::_=>if sO a b=true then 2 else 0 | []=>0)
  else if jT a=3 then (match r with | b ::c ::_=>if sO a b=true/\ct c=true then 3 else 0 | _=>0)
  else if jT a=4 then (match r with | b ::c ::d ::_=>if sO a b=true/\ct c=true/\ct d=true then 4 else 0 | _=>0)
  else 0
theorem WJ {a:UInt8} {r:Bs}:vu (a ::r)=(decide (eN (a ::r)≠0) && vu ((a ::r).drop (eN (a ::r)))):=by
 rw [Lh]
 simp only [eN]
 by_cases h1:jT a=1
 ·simp [h1]
 by_cases h2:jT a=2
 ·cases r with
  | nil=>simp [h2]
  | cons b r=>cases hb:sO a b <;> simp [h2,hb]
 by_cases h3:jT a=3
 ·match r with
  | []=>simp [h3]
  | [b]=>simp [h3]
  | b ::c ::r=>cases hb:sO a b <;> cases hc:ct c <;> simp [h3,hb,hc]
 by_cases h4:jT a=4
 ·match r with
  | []=>simp [h4]
  | [b]=>simp [h4]
  | [b,c]=>simp [h4]
  | b ::c ::d ::r=>cases hb:sO a b <;> cases hc:ct c <;> cases hd:ct d <;> simp [h4,hb,hc,hd]
 simp [h1,h2,h3,h4]
theorem Ob {x:Nat} (h:x < 1099511627776):bk .shl .i64 (x:Int) 6=some (.int .i64 ((x*64:Nat):Int)):=by
 simp [bk,IntKind.wrap,IntKind.bits,IntKind.signed]
 omega
theorem OP {x y:Nat} (h:x < 1099511627776) (hy:y < 64):IntKind.wrap .i64 ((BitVec.ofInt IntKind.i64.bits ((x*64:Nat):Int) ||| BitVec.ofInt IntKind.i64.bits ((y:Nat):Int)).toNat:Int)=((x*64+y:Nat):Int):=by
 have e:(BitVec.ofInt 64 ((x*64:Nat):Int) ||| BitVec.ofInt 64 (y:Int)).toNat=x*64+y:=by
  rw [BitVec.toNat_or,BitVec.ofInt_natCast,BitVec.ofInt_natCast,BitVec.toNat_ofNat,BitVec.toNat_ofNat,aO aa,aO aa]
  have:=Nat.shiftLeft_add_eq_or_of_lt (i:=6) (b:=y) aa x
  rw [Nat.shiftLeft_eq,show 2 ^ 6=64 from rfl] at this
  omega
 show IntKind.wrap .i64 ((BitVec.ofInt 64 ((x*64:Nat):Int) ||| BitVec.ofInt 64 (y:Int)).toNat:Int)=_
 rw [e]
 simp [IntKind.wrap,IntKind.bits,IntKind.signed]
 omega
def BF (b:UInt8):Nat:=(b &&& 63).toNat
theorem jH (b:UInt8):IntKind.wrap .u8 ((BitVec.ofInt IntKind.u8.bits (b.toNat:Int) &&& BitVec.ofInt IntKind.u8.bits 63).toNat:Int)=(BF b:Int):=
 lQ (P:=fun b=>IntKind.wrap .u8 ((BitVec.ofInt IntKind.u8.bits (b.toNat:Int) &&& BitVec.ofInt IntKind.u8.bits 63).toNat:Int)=(BF b:Int)) (by decide+kernel) b
theorem sD (b:UInt8):BF b < 64:=lQ (P:=fun b=>BF b < 64) (by decide+kernel) b
theorem vj (b:UInt8):ct b=true->BF b+128=b.toNat/\128<=b.toNat/\b.toNat < 192:=lQ (P:=fun b=>ct b=true->BF b+128=b.toNat/\128<=b.toNat/\b.toNat < 192) (by decide+kernel) b
theorem tK (b:UInt8):(IntKind.wrap .u8 ((BitVec.ofInt IntKind.u8.bits (b.toNat:Int) &&& BitVec.ofInt IntKind.u8.bits 192).toNat:Int) != 128)= !ct b:=
 lQ (P:=fun b=>(IntKind.wrap .u8 ((BitVec.ofInt IntKind.u8.bits (b.toNat:Int) &&& BitVec.ofInt IntKind.u8.bits 192).toNat:Int) != 128)= !ct b) (by decide+kernel) b
theorem nL (a:UInt8):IntKind.wrap .i64 (a.toNat:Int)=(a.toNat:Int):=by
 have:=a.toNat_lt
 simp [IntKind.wrap,IntKind.bits,IntKind.signed]; omega
theorem sU (b:UInt8):IntKind.wrap .i64 (BF b:Int)=(BF b:Int):=by
 have:=sD b
 simp [IntKind.wrap,IntKind.bits,IntKind.signed]; omega
theorem Vh (a:UInt8):jT a=2->IntKind.wrap .i64 ((BitVec.ofInt IntKind.i64.bits (a.toNat:Int) &&& BitVec.ofInt IntKind.i64.bits 31).toNat:Int)=((a.toNat - 192:Nat):Int):=
 lQ (P:=fun a=>jT a=2->IntKind.wrap .i64 ((BitVec.ofInt IntKind.i64.bits (a.toNat:Int) &&& BitVec.ofInt IntKind.i64.bits 31).toNat:Int)=((a.toNat - 192:Nat):Int)) (by decide+kernel) a
theorem Al (a:UInt8):jT a=3->IntKind.wrap .i64 ((BitVec.ofInt IntKind.i64.bits (a.toNat:Int) &&& BitVec.ofInt IntKind.i64.bits 15).toNat:Int)=((a.toNat - 224:Nat):Int):=
 lQ (P:=fun a=>jT a=3->IntKind.wrap .i64 ((BitVec.ofInt IntKind.i64.bits (a.toNat:Int) &&& BitVec.ofInt IntKind.i64.bits 15).toNat:Int)=((a.toNat - 224:Nat):Int)) (by decide+kernel) a
theorem J9 (a:UInt8):jT a=4->IntKind.wrap .i64 ((BitVec.ofInt IntKind.i64.bits (a.toNat:Int) &&& BitVec.ofInt IntKind.i64.bits 7).toNat:Int)=((a.toNat - 240:Nat):Int):=
 lQ (P:=fun a=>jT a=4->IntKind.wrap .i64 ((BitVec.ofInt IntKind.i64.bits (a.toNat:Int) &&& BitVec.ofInt IntKind.i64.bits 7).toNat:Int)=((a.toNat - 240:Nat):Int)) (by decide+kernel) a
theorem lead (a:UInt8):(jT a=1↔a.toNat < 128)/\(jT a=2↔194<=a.toNat/\a.toNat < 224)/\(jT a=3↔224<=a.toNat/\a.toNat < 240)/\(jT a=4↔240<=a.toNat/\a.toNat < 245):=
 lQ (P:=fun a=>(jT a=1↔a.toNat < 128)/\(jT a=2↔194<=a.toNat/\a.toNat < 224)/\(jT a=3↔224<=a.toNat/\a.toNat < 240)/\(jT a=4↔240<=a.toNat/\a.toNat < 245)) (by decide+kernel) a
theorem Yw (a:UInt8):((Yy a).toNat=if a.toNat=224 then 160 else if a.toNat=240 then 144 else 128)/\((Y5 a).toNat=if a.toNat=237 then 159 else if a.toNat=244 then 143 else 191):=
 lQ (P:=fun a=>((Yy a).toNat=if a.toNat=224 then 160 else if a.toNat=240 then 144 else 128)/\((Y5 a).toNat=if a.toNat=237 then 159 else if a.toNat=244 then 143 else 191)) (by decide+kernel) a
theorem xu (a b:UInt8):sO a b=true↔(Yy a).toNat<=b.toNat/\b.toNat<=(Y5 a).toNat:=by
 unfold sO
 simp [UInt8.le_iff_toNat_le]
theorem ct_iff (b:UInt8):ct b=true↔128<=b.toNat/\b.toNat<=191:=by
 unfold ct
 simp [UInt8.le_iff_toNat_le]
theorem Ju {a b:UInt8} (h:sO a b=true):ct b=true:=by
 rw [xu] at h
 rw [ct_iff]
 obtain ⟨h1,h2⟩:=Yw a
 rw [h1,h2] at h
 split at h <;> split at h <;> (try split at h) <;> (try split at h) <;> omega
theorem Lg:IntKind.wrap .i64 (1+1)=2:=by decide
theorem Lf:IntKind.wrap .i64 (2+1)=3:=by decide
theorem Le:IntKind.wrap .i64 (3+1)=4:=by decide
theorem gJ (a:UInt8) (r:Bs):eN (a ::r)=
  if jT a=1 then 1
  else if jT a=2 then (match r with | b ::_=>if sO a b=true then 2 else 0 | []=>0)
  else if jT a=3 then (match r with | b ::c ::_=>if sO a b=true/\ct c=true then 3 else 0 | _=>0)
  else if jT a=4 then (match r with | b ::c ::d ::_=>if sO a b=true/\ct c=true/\ct d=true then 4 else 0 | _=>0)
  else 0:=by rw [eN.eq_def]; rfl
set_option maxHeartbeats 4000000 in
theorem Xk (a:UInt8) (r:Bs) (c2:jT a=2): ∃c:Int,cR 111 [.str (a ::r)]=some (.tup [.int .i64 c, .int .i64 (eN (a ::r):Nat)]):=by
   have hl:(((r.length+1:Nat):Int) == 0)=false:=by
    rw [cE]; omega
   have ha:et (.str (a ::r)) (.int .i64 0)=some (.int .u8 a.toNat):=rfl
   obtain ⟨z1,z2,z3,z4⟩:=lead a
   have aR:=a.toNat_lt
   have hz:=z2.1 c2
   have k1:decide ((a.toNat:Int) < 128)=false:=by simp; omega
   have p2:decide ((a.toNat:Int)≥194)=true:=by simp; omega
   have q2:decide ((a.toNat:Int) < 224)=true:=by simp; omega
   by_cases hn:r.length < 1
   ·have dn:decide (((r.length+1:Nat):Int) < 2)=true:=by simp; omega
    have e:eN (a ::r)=0:=by
     rw [gJ]
     rw [if_neg (by rw [c2]; decide)]
     rw [if_pos c2]
     split
     ·exact absurd hn (by simp)
     ·rfl
    refine ⟨0,aG (F:=mB) rfl ?_⟩
    simp only [nE,ax,aN,az,Nat.reduceEqDiff,reduceIte,reduceCtorEq,Nat.reduceAdd,Nat.reduceLeDiff,Nat.reduceSub,Nat.reduceMul,Int.reduceEq,Int.reduceBEq,Int.reduceBNe,Int.reduceLT,Int.reduceLE,Nat.reduceLT,hl,ha,nL,k1,p2,q2,Vh a c2,dn,e]
    rfl
   obtain ⟨b1,rr,hr⟩ : ∃b1 rr,r=b1 ::rr:=by
    match r,hn with
    | b1 ::rr,_=>exact ⟨b1,rr,rfl⟩
    | [],hn=>exact absurd (by simp) hn
   have dn:decide (((r.length+1:Nat):Int) < 2)=false:=by simp; omega
   have er:eN (a ::r)=(if sO a b1=true then 2 else 0):=by
    rw [hr,gJ]
    rw [if_neg (by rw [c2]; decide)]
    rw [if_pos c2]
   have y1:et (.str (a ::r)) (.int .i64 1)=some (.int .u8 b1.toNat):=by rw [hr]; rfl
   have MA:=sD b1
   have vn:=OP (x:=(a.toNat - 192)) (y:=BF b1) aa MA
   have rF:=Ob (x:=(a.toNat - 192)) aa
   obtain ⟨X1,We⟩ : ∃X:Nat,X=(a.toNat - 192)*64+BF b1:=⟨_,rfl⟩
   rw [←We] at vn
   by_cases r7:ct b1=true
   case neg=>
    have rG:(!ct b1)=true:=by simp [r7]
    have e:eN (a ::r)=0:=by
     rw [er,if_neg]; intro h; exact r7 (Ju h)
    refine ⟨0,aG (F:=mB) rfl ?_⟩
    simp only [nE,ax,aN,az,Nat.reduceEqDiff,reduceIte,reduceCtorEq,Nat.reduceAdd,Nat.reduceLeDiff,Nat.reduceSub,Nat.reduceMul,Int.reduceEq,Int.reduceBEq,Int.reduceBNe,Int.reduceLT,Int.reduceLE,Nat.reduceLT,hl,ha,nL,k1,p2,q2,Vh a c2,dn,tK,jH,sU,Lg,Lf,Le,y1,rG,e]
    rfl
   have rG:(!ct b1)=false:=by simp [r7]
   obtain ⟨g1a,g1b,g1c⟩:=vj b1 r7
   obtain ⟨jm,A5⟩:=Yw a
   have wV:=xu a b1
   by_cases sH:sO a b1=true
   ·have e:eN (a ::r)=2:=by rw [er,if_pos]; exact sH
    rw [sH] at wV
    have rJ:=wV.1 rfl
    rw [jm,A5] at rJ
    have hin3:(a.toNat=224->160<=b1.toNat)/\(a.toNat=237->b1.toNat<=159)/\(a.toNat=240->144<=b1.toNat)/\(a.toNat=244->b1.toNat<=143):=by
     refine ⟨fun h=> ?_,fun h=> ?_,fun h=> ?_,fun h=> ?_⟩ <;> simp only [h] at rJ <;> simp at rJ <;> omega
    clear rJ
    have t1:decide (((X1:Nat):Int) < 128)=false:=by simp; omega
    have t2:decide (1114111 < ((X1:Nat):Int))=false:=by simp; omega
    have t3:decide (((X1:Nat):Int)≥55296)=false:=by simp; omega
    refine ⟨((X1:Nat):Int),aG (F:=mB) rfl ?_⟩
    simp only [nE,ax,aN,az,Nat.reduceEqDiff,reduceIte,reduceCtorEq,Nat.reduceAdd,Nat.reduceLeDiff,Nat.reduceSub,Nat.reduceMul,Int.reduceEq,Int.reduceBEq,Int.reduceBNe,Int.reduceLT,Int.reduceLE,Nat.reduceLT,hl,ha,nL,k1,p2,q2,Vh a c2,dn,tK,jH,sU,Lg,Lf,Le,y1,rG,rF,vn,e,t1,t2,t3]
    rfl
   ·have e:eN (a ::r)=0:=by rw [er,if_neg]; intro h; exact sH h
    have mE: ¬((Yy a).toNat<=b1.toNat/\b1.toNat<=(Y5 a).toNat):=fun h=>sH (wV.2 h)
    rw [jm,A5] at mE
    have hout3:(a.toNat=224/\b1.toNat < 160)∨(a.toNat=237/\159 < b1.toNat)∨(a.toNat=240/\b1.toNat < 144)∨(a.toNat=244/\143 < b1.toNat):=by
     split at mE <;> (try split at mE) <;> (try split at mE) <;> (try split at mE) <;> omega
    clear mE
    omega
set_option maxHeartbeats 4000000 in
theorem Xj (a:UInt8) (r:Bs) (c3:jT a=3): ∃c:Int,cR 111 [.str (a ::r)]=some (.tup [.int .i64 c, .int .i64 (eN (a ::r):Nat)]):=by
   have hl:(((r.length+1:Nat):Int) == 0)=false:=by
    rw [cE]; omega
   have ha:et (.str (a ::r)) (.int .i64 0)=some (.int .u8 a.toNat):=rfl
   obtain ⟨z1,z2,z3,z4⟩:=lead a
   have aR:=a.toNat_lt
   have hz:=z3.1 c3
   have k1:decide ((a.toNat:Int) < 128)=false:=by simp; omega
   have p2:decide ((a.toNat:Int)≥194)=true:=by simp; omega
   have q2:decide ((a.toNat:Int) < 224)=false:=by simp; omega
   have p3:decide ((a.toNat:Int)≥224)=true:=by simp; omega
   have q3:decide ((a.toNat:Int) < 240)=true:=by simp; omega
   by_cases hn:r.length < 2
   ·have dn:decide (((r.length+1:Nat):Int) < 3)=true:=by simp; omega
    have e:eN (a ::r)=0:=by
     rw [gJ]
     rw [if_neg (by rw [c3]; decide)]
     rw [if_neg (by rw [c3]; decide)]
     rw [if_pos c3]
     split
     ·exact absurd hn (by simp)
     ·rfl
    refine ⟨0,aG (F:=mB) rfl ?_⟩
    simp only [nE,ax,aN,az,Nat.reduceEqDiff,reduceIte,reduceCtorEq,Nat.reduceAdd,Nat.reduceLeDiff,Nat.reduceSub,Nat.reduceMul,Int.reduceEq,Int.reduceBEq,Int.reduceBNe,Int.reduceLT,Int.reduceLE,Nat.reduceLT,hl,ha,nL,k1,p2,q2,p3,q3,Al a c3,dn,e]
    rfl
   obtain ⟨b1,b2,rr,hr⟩ : ∃b1 b2 rr,r=b1 ::b2 ::rr:=by
    match r,hn with
    | b1 ::b2 ::rr,_=>exact ⟨b1,b2,rr,rfl⟩
    | [b1],hn=>exact absurd (by simp) hn
    | [],hn=>exact absurd (by simp) hn
   have dn:decide (((r.length+1:Nat):Int) < 3)=false:=by simp; omega
   have er:eN (a ::r)=(if sO a b1=true/\ct b2=true then 3 else 0):=by
    rw [hr,gJ]
    rw [if_neg (by rw [c3]; decide)]
    rw [if_neg (by rw [c3]; decide)]
    rw [if_pos c3]
   have y1:et (.str (a ::r)) (.int .i64 1)=some (.int .u8 b1.toNat):=by rw [hr]; rfl
   have MA:=sD b1
   have vn:=OP (x:=(a.toNat - 224)) (y:=BF b1) aa MA
   have rF:=Ob (x:=(a.toNat - 224)) aa
   obtain ⟨X1,We⟩ : ∃X:Nat,X=(a.toNat - 224)*64+BF b1:=⟨_,rfl⟩
   rw [←We] at vn
   have y2:et (.str (a ::r)) (.int .i64 2)=some (.int .u8 b2.toNat):=by rw [hr]; rfl
   have Pl:=sD b2
   have nV:=OP (x:=X1) (y:=BF b2) aa Pl
   have nH:=Ob (x:=X1) aa
   obtain ⟨X2,hX2⟩ : ∃X:Nat,X=X1*64+BF b2:=⟨_,rfl⟩
   rw [←hX2] at nV
   by_cases r7:ct b1=true
   case neg=>
    have rG:(!ct b1)=true:=by simp [r7]
    have e:eN (a ::r)=0:=by
     rw [er,if_neg]; intro h; exact r7 (Ju h.1)
    refine ⟨0,aG (F:=mB) rfl ?_⟩
    simp only [nE,ax,aN,az,Nat.reduceEqDiff,reduceIte,reduceCtorEq,Nat.reduceAdd,Nat.reduceLeDiff,Nat.reduceSub,Nat.reduceMul,Int.reduceEq,Int.reduceBEq,Int.reduceBNe,Int.reduceLT,Int.reduceLE,Nat.reduceLT,hl,ha,nL,k1,p2,q2,p3,q3,Al a c3,dn,tK,jH,sU,Lg,Lf,Le,y1,rG,e]
    rfl
   have rG:(!ct b1)=false:=by simp [r7]
   obtain ⟨g1a,g1b,g1c⟩:=vj b1 r7
   by_cases rZ:ct b2=true
   case neg=>
    have AG:(!ct b2)=true:=by simp [rZ]
    have e:eN (a ::r)=0:=by
     rw [er,if_neg]; intro h; exact rZ h.2
    refine ⟨0,aG (F:=mB) rfl ?_⟩
    simp only [nE,ax,aN,az,Nat.reduceEqDiff,reduceIte,reduceCtorEq,Nat.reduceAdd,Nat.reduceLeDiff,Nat.reduceSub,Nat.reduceMul,Int.reduceEq,Int.reduceBEq,Int.reduceBNe,Int.reduceLT,Int.reduceLE,Nat.reduceLT,hl,ha,nL,k1,p2,q2,p3,q3,Al a c3,dn,tK,jH,sU,Lg,Lf,Le,y1,rG,rF,vn,y2,AG,e]
    rfl
   have AG:(!ct b2)=false:=by simp [rZ]
   obtain ⟨g2a,g2b,g2c⟩:=vj b2 rZ
   obtain ⟨jm,A5⟩:=Yw a
   have wV:=xu a b1
   by_cases sH:sO a b1=true
   ·have e:eN (a ::r)=3:=by rw [er,if_pos]; exact ⟨sH,rZ⟩
    rw [sH] at wV
    have rJ:=wV.1 rfl
    rw [jm,A5] at rJ
    have hin3:(a.toNat=224->160<=b1.toNat)/\(a.toNat=237->b1.toNat<=159)/\(a.toNat=240->144<=b1.toNat)/\(a.toNat=244->b1.toNat<=143):=by
     refine ⟨fun h=> ?_,fun h=> ?_,fun h=> ?_,fun h=> ?_⟩ <;> simp only [h] at rJ <;> simp at rJ <;> omega
    clear rJ
    by_cases h5:X2 < 55296
    ·skip
     have t1:decide (((X2:Nat):Int) < 2048)=false:=by simp; omega
     have t2:decide (1114111 < ((X2:Nat):Int))=false:=by simp; omega
     have t3:decide (((X2:Nat):Int)≥55296)=false:=by simp; omega
     refine ⟨((X2:Nat):Int),aG (F:=mB) rfl ?_⟩
     simp only [nE,ax,aN,az,Nat.reduceEqDiff,reduceIte,reduceCtorEq,Nat.reduceAdd,Nat.reduceLeDiff,Nat.reduceSub,Nat.reduceMul,Int.reduceEq,Int.reduceBEq,Int.reduceBNe,Int.reduceLT,Int.reduceLE,Nat.reduceLT,hl,ha,nL,k1,p2,q2,p3,q3,Al a c3,dn,tK,jH,sU,Lg,Lf,Le,y1,rG,rF,vn,y2,AG,nH,nV,e,t1,t2,t3]
     rfl
    ·skip
     have t1:decide (((X2:Nat):Int) < 2048)=false:=by simp; omega
     have t2:decide (1114111 < ((X2:Nat):Int))=false:=by simp; omega
     have t3:decide (((X2:Nat):Int)≥55296)=true:=by simp; omega
     have t4:decide (((X2:Nat):Int) < 57344)=false:=by simp; omega
     refine ⟨((X2:Nat):Int),aG (F:=mB) rfl ?_⟩
     simp only [nE,ax,aN,az,Nat.reduceEqDiff,reduceIte,reduceCtorEq,Nat.reduceAdd,Nat.reduceLeDiff,Nat.reduceSub,Nat.reduceMul,Int.reduceEq,Int.reduceBEq,Int.reduceBNe,Int.reduceLT,Int.reduceLE,Nat.reduceLT,hl,ha,nL,k1,p2,q2,p3,q3,Al a c3,dn,tK,jH,sU,Lg,Lf,Le,y1,rG,rF,vn,y2,AG,nH,nV,e,t1,t2,t3,t4]
     rfl
   ·have e:eN (a ::r)=0:=by rw [er,if_neg]; intro h; exact sH h.1
    have mE: ¬((Yy a).toNat<=b1.toNat/\b1.toNat<=(Y5 a).toNat):=fun h=>sH (wV.2 h)
    rw [jm,A5] at mE
    have hout3:(a.toNat=224/\b1.toNat < 160)∨(a.toNat=237/\159 < b1.toNat)∨(a.toNat=240/\b1.toNat < 144)∨(a.toNat=244/\143 < b1.toNat):=by
     split at mE <;> (try split at mE) <;> (try split at mE) <;> (try split at mE) <;> omega
    clear mE
    by_cases h5:a.toNat=224
    ·skip
     have t1:decide (((X2:Nat):Int) < 2048)=true:=by simp; omega
     refine ⟨0,aG (F:=mB) rfl ?_⟩
     simp only [nE,ax,aN,az,Nat.reduceEqDiff,reduceIte,reduceCtorEq,Nat.reduceAdd,Nat.reduceLeDiff,Nat.reduceSub,Nat.reduceMul,Int.reduceEq,Int.reduceBEq,Int.reduceBNe,Int.reduceLT,Int.reduceLE,Nat.reduceLT,hl,ha,nL,k1,p2,q2,p3,q3,Al a c3,dn,tK,jH,sU,Lg,Lf,Le,y1,rG,rF,vn,y2,AG,nH,nV,e,t1]
     rfl
    ·skip
     have t1:decide (((X2:Nat):Int) < 2048)=false:=by simp; omega
     have t2:decide (1114111 < ((X2:Nat):Int))=false:=by simp; omega
     have t3:decide (((X2:Nat):Int)≥55296)=true:=by simp; omega
     have t4:decide (((X2:Nat):Int) < 57344)=true:=by simp; omega
     refine ⟨0,aG (F:=mB) rfl ?_⟩
     simp only [nE,ax,aN,az,Nat.reduceEqDiff,reduceIte,reduceCtorEq,Nat.reduceAdd,Nat.reduceLeDiff,Nat.reduceSub,Nat.reduceMul,Int.reduceEq,Int.reduceBEq,Int.reduceBNe,Int.reduceLT,Int.reduceLE,Nat.reduceLT,hl,ha,nL,k1,p2,q2,p3,q3,Al a c3,dn,tK,jH,sU,Lg,Lf,Le,y1,rG,rF,vn,y2,AG,nH,nV,e,t1,t2,t3,t4]
     rfl
set_option maxHeartbeats 4000000 in
theorem Xi (a:UInt8) (r:Bs) (c4:jT a=4): ∃c:Int,cR 111 [.str (a ::r)]=some (.tup [.int .i64 c, .int .i64 (eN (a ::r):Nat)]):=by
   have hl:(((r.length+1:Nat):Int) == 0)=false:=by
    rw [cE]; omega
   have ha:et (.str (a ::r)) (.int .i64 0)=some (.int .u8 a.toNat):=rfl
   obtain ⟨z1,z2,z3,z4⟩:=lead a
   have aR:=a.toNat_lt
   have hz:=z4.1 c4
   have k1:decide ((a.toNat:Int) < 128)=false:=by simp; omega
   have p2:decide ((a.toNat:Int)≥194)=true:=by simp; omega
   have q2:decide ((a.toNat:Int) < 224)=false:=by simp; omega
   have p3:decide ((a.toNat:Int)≥224)=true:=by simp; omega
   have q3:decide ((a.toNat:Int) < 240)=false:=by simp; omega
   have p4:decide ((a.toNat:Int)≥240)=true:=by simp; omega
   have q4:decide ((a.toNat:Int) < 245)=true:=by simp; omega
   by_cases hn:r.length < 3
   ·have dn:decide (((r.length+1:Nat):Int) < 4)=true:=by simp; omega
    have e:eN (a ::r)=0:=by
     rw [gJ]
     rw [if_neg (by rw [c4]; decide)]
     rw [if_neg (by rw [c4]; decide)]
     rw [if_neg (by rw [c4]; decide)]
     rw [if_pos c4]
     split
     ·exact absurd hn (by simp)
     ·rfl
    refine ⟨0,aG (F:=mB) rfl ?_⟩
    simp only [nE,ax,aN,az,Nat.reduceEqDiff,reduceIte,reduceCtorEq,Nat.reduceAdd,Nat.reduceLeDiff,Nat.reduceSub,Nat.reduceMul,Int.reduceEq,Int.reduceBEq,Int.reduceBNe,Int.reduceLT,Int.reduceLE,Nat.reduceLT,hl,ha,nL,k1,p2,q2,p3,q3,p4,q4,J9 a c4,dn,e]
    rfl
   obtain ⟨b1,b2,b3,rr,hr⟩ : ∃b1 b2 b3 rr,r=b1 ::b2 ::b3 ::rr:=by
    match r,hn with
    | b1 ::b2 ::b3 ::rr,_=>exact ⟨b1,b2,b3,rr,rfl⟩
    | [b1],hn=>exact absurd (by simp) hn
    | [b1,b2],hn=>exact absurd (by simp) hn
    | [],hn=>exact absurd (by simp) hn
   have dn:decide (((r.length+1:Nat):Int) < 4)=false:=by simp; omega
   have er:eN (a ::r)=(if sO a b1=true/\ct b2=true/\ct b3=true then 4 else 0):=by
    rw [hr,gJ]
    rw [if_neg (by rw [c4]; decide)]
    rw [if_neg (by rw [c4]; decide)]
    rw [if_neg (by rw [c4]; decide)]
    rw [if_pos c4]
   have y1:et (.str (a ::r)) (.int .i64 1)=some (.int .u8 b1.toNat):=by rw [hr]; rfl
   have MA:=sD b1
   have vn:=OP (x:=(a.toNat - 240)) (y:=BF b1) aa MA
   have rF:=Ob (x:=(a.toNat - 240)) aa
   obtain ⟨X1,We⟩ : ∃X:Nat,X=(a.toNat - 240)*64+BF b1:=⟨_,rfl⟩
   rw [←We] at vn
   have y2:et (.str (a ::r)) (.int .i64 2)=some (.int .u8 b2.toNat):=by rw [hr]; rfl
   have Pl:=sD b2
   have nV:=OP (x:=X1) (y:=BF b2) aa Pl
   have nH:=Ob (x:=X1) aa
   obtain ⟨X2,hX2⟩ : ∃X:Nat,X=X1*64+BF b2:=⟨_,rfl⟩
   rw [←hX2] at nV
   have y3:et (.str (a ::r)) (.int .i64 3)=some (.int .u8 b3.toNat):=by rw [hr]; rfl
   have hm3:=sD b3
   have hx3:=OP (x:=X2) (y:=BF b3) aa hm3
   have Mx:=Ob (x:=X2) aa
   obtain ⟨X3,hX3⟩ : ∃X:Nat,X=X2*64+BF b3:=⟨_,rfl⟩
   rw [←hX3] at hx3
   by_cases r7:ct b1=true
   case neg=>
    have rG:(!ct b1)=true:=by simp [r7]
    have e:eN (a ::r)=0:=by
     rw [er,if_neg]; intro h; exact r7 (Ju h.1)
    refine ⟨0,aG (F:=mB) rfl ?_⟩
    simp only [nE,ax,aN,az,Nat.reduceEqDiff,reduceIte,reduceCtorEq,Nat.reduceAdd,Nat.reduceLeDiff,Nat.reduceSub,Nat.reduceMul,Int.reduceEq,Int.reduceBEq,Int.reduceBNe,Int.reduceLT,Int.reduceLE,Nat.reduceLT,hl,ha,nL,k1,p2,q2,p3,q3,p4,q4,J9 a c4,dn,tK,jH,sU,Lg,Lf,Le,y1,rG,e]
    rfl
   have rG:(!ct b1)=false:=by simp [r7]
   obtain ⟨g1a,g1b,g1c⟩:=vj b1 r7
   by_cases rZ:ct b2=true
   case neg=>
    have AG:(!ct b2)=true:=by simp [rZ]
    have e:eN (a ::r)=0:=by
     rw [er,if_neg]; intro h; exact rZ h.2.1
    refine ⟨0,aG (F:=mB) rfl ?_⟩
    simp only [nE,ax,aN,az,Nat.reduceEqDiff,reduceIte,reduceCtorEq,Nat.reduceAdd,Nat.reduceLeDiff,Nat.reduceSub,Nat.reduceMul,Int.reduceEq,Int.reduceBEq,Int.reduceBNe,Int.reduceLT,Int.reduceLE,Nat.reduceLT,hl,ha,nL,k1,p2,q2,p3,q3,p4,q4,J9 a c4,dn,tK,jH,sU,Lg,Lf,Le,y1,rG,rF,vn,y2,AG,e]
    rfl
   have AG:(!ct b2)=false:=by simp [rZ]
   obtain ⟨g2a,g2b,g2c⟩:=vj b2 rZ
   by_cases wW:ct b3=true
   case neg=>
    have hn3:(!ct b3)=true:=by simp [wW]
    have e:eN (a ::r)=0:=by
     rw [er,if_neg]; intro h; exact wW h.2.2
    refine ⟨0,aG (F:=mB) rfl ?_⟩
    simp only [nE,ax,aN,az,Nat.reduceEqDiff,reduceIte,reduceCtorEq,Nat.reduceAdd,Nat.reduceLeDiff,Nat.reduceSub,Nat.reduceMul,Int.reduceEq,Int.reduceBEq,Int.reduceBNe,Int.reduceLT,Int.reduceLE,Nat.reduceLT,hl,ha,nL,k1,p2,q2,p3,q3,p4,q4,J9 a c4,dn,tK,jH,sU,Lg,Lf,Le,y1,rG,rF,vn,y2,AG,nH,nV,y3,hn3,e]
    rfl
   have hn3:(!ct b3)=false:=by simp [wW]
   obtain ⟨g3a,g3b,g3c⟩:=vj b3 wW
   obtain ⟨jm,A5⟩:=Yw a
   have wV:=xu a b1
   by_cases sH:sO a b1=true
   ·have e:eN (a ::r)=4:=by rw [er,if_pos]; exact ⟨sH,rZ,wW⟩
    rw [sH] at wV
    have rJ:=wV.1 rfl
    rw [jm,A5] at rJ
    have hin3:(a.toNat=224->160<=b1.toNat)/\(a.toNat=237->b1.toNat<=159)/\(a.toNat=240->144<=b1.toNat)/\(a.toNat=244->b1.toNat<=143):=by
     refine ⟨fun h=> ?_,fun h=> ?_,fun h=> ?_,fun h=> ?_⟩ <;> simp only [h] at rJ <;> simp at rJ <;> omega
    clear rJ
    have t1:decide (((X3:Nat):Int) < 65536)=false:=by simp; omega
    have t2:decide (1114111 < ((X3:Nat):Int))=false:=by simp; omega
    have t3:decide (((X3:Nat):Int)≥55296)=true:=by simp; omega
    have t4:decide (((X3:Nat):Int) < 57344)=false:=by simp; omega
    refine ⟨((X3:Nat):Int),aG (F:=mB) rfl ?_⟩
    simp only [nE,ax,aN,az,Nat.reduceEqDiff,reduceIte,reduceCtorEq,Nat.reduceAdd,Nat.reduceLeDiff,Nat.reduceSub,Nat.reduceMul,Int.reduceEq,Int.reduceBEq,Int.reduceBNe,Int.reduceLT,Int.reduceLE,Nat.reduceLT,hl,ha,nL,k1,p2,q2,p3,q3,p4,q4,J9 a c4,dn,tK,jH,sU,Lg,Lf,Le,y1,rG,rF,vn,y2,AG,nH,nV,y3,hn3,Mx,hx3,e,t1,t2,t3,t4]
    rfl
   ·have e:eN (a ::r)=0:=by rw [er,if_neg]; intro h; exact sH h.1
    have mE: ¬((Yy a).toNat<=b1.toNat/\b1.toNat<=(Y5 a).toNat):=fun h=>sH (wV.2 h)
    rw [jm,A5] at mE
    have hout3:(a.toNat=224/\b1.toNat < 160)∨(a.toNat=237/\159 < b1.toNat)∨(a.toNat=240/\b1.toNat < 144)∨(a.toNat=244/\143 < b1.toNat):=by
     split at mE <;> (try split at mE) <;> (try split at mE) <;> (try split at mE) <;> omega
    clear mE
    by_cases h5:a.toNat=240
    ·skip
     have t1:decide (((X3:Nat):Int) < 65536)=true:=by simp; omega
     refine ⟨0,aG (F:=mB) rfl ?_⟩
     simp only [nE,ax,aN,az,Nat.reduceEqDiff,reduceIte,reduceCtorEq,Nat.reduceAdd,Nat.reduceLeDiff,Nat.reduceSub,Nat.reduceMul,Int.reduceEq,Int.reduceBEq,Int.reduceBNe,Int.reduceLT,Int.reduceLE,Nat.reduceLT,hl,ha,nL,k1,p2,q2,p3,q3,p4,q4,J9 a c4,dn,tK,jH,sU,Lg,Lf,Le,y1,rG,rF,vn,y2,AG,nH,nV,y3,hn3,Mx,hx3,e,t1]
     rfl
    ·skip
     have t1:decide (((X3:Nat):Int) < 65536)=false:=by simp; omega
     have t2:decide (1114111 < ((X3:Nat):Int))=true:=by simp; omega
     refine ⟨0,aG (F:=mB) rfl ?_⟩
     simp only [nE,ax,aN,az,Nat.reduceEqDiff,reduceIte,reduceCtorEq,Nat.reduceAdd,Nat.reduceLeDiff,Nat.reduceSub,Nat.reduceMul,Int.reduceEq,Int.reduceBEq,Int.reduceBNe,Int.reduceLT,Int.reduceLE,Nat.reduceLT,hl,ha,nL,k1,p2,q2,p3,q3,p4,q4,J9 a c4,dn,tK,jH,sU,Lg,Lf,Le,y1,rG,rF,vn,y2,AG,nH,nV,y3,hn3,Mx,hx3,e,t1,t2]
     rfl
theorem r_rune (s:Bs): ∃c:Int,cR 111 [.str s]=some (.tup [.int .i64 c, .int .i64 (eN s:Nat)]):=by
 cases s with
 | nil=>
  refine ⟨0,aG (F:=mB) rfl ?_⟩
  simp only [nE,az,Nat.reduceEqDiff,reduceIte,reduceCtorEq,Nat.reduceAdd,Nat.reduceLeDiff,Nat.reduceSub,Nat.reduceMul,Int.reduceEq,Int.reduceBEq,Int.reduceBNe,Int.reduceLT,Int.reduceLE,Nat.reduceLT]
  rfl
 | cons a r=>
  have hl:(((r.length+1:Nat):Int) == 0)=false:=by
   rw [cE]; omega
  have ha:et (.str (a ::r)) (.int .i64 0)=some (.int .u8 a.toNat):=rfl
  obtain ⟨z1,z2,z3,z4⟩:=lead a
  have aR:=a.toNat_lt
  by_cases c1:jT a=1
  ·have k1:decide ((a.toNat:Int) < 128)=true:=by simp; have:=z1.1 c1; omega
   refine ⟨a.toNat,aG (F:=mB) rfl ?_⟩
   have e:eN (a ::r)=1:=by rw [gJ,if_pos c1]
   simp only [nE,az,Nat.reduceEqDiff,reduceIte,reduceCtorEq,Nat.reduceAdd,Nat.reduceLeDiff,Nat.reduceSub,Nat.reduceMul,Int.reduceEq,Int.reduceBEq,Int.reduceBNe,Int.reduceLT,Int.reduceLE,Nat.reduceLT,hl,ha,nL,k1,e]
   rfl
  have k1:decide ((a.toNat:Int) < 128)=false:=by simp; have:=mt z1.2 c1; omega
  by_cases c2:jT a=2
  ·exact Xk a r c2
  by_cases c3:jT a=3
  ·exact Xj a r c3
  by_cases c4:jT a=4
  ·exact Xi a r c4
  have e:eN (a ::r)=0:=by rw [gJ,if_neg c1,if_neg c2,if_neg c3,if_neg c4]
  by_cases h1:a.toNat < 194
  ·have p2:decide ((a.toNat:Int)≥194)=false:=by simp; omega
   have p3:decide ((a.toNat:Int)≥224)=false:=by simp; omega
   have p4:decide ((a.toNat:Int)≥240)=false:=by simp; omega
   refine ⟨0,aG (F:=mB) rfl ?_⟩
   simp only [nE,az,Nat.reduceEqDiff,reduceIte,reduceCtorEq,Nat.reduceAdd,Nat.reduceLeDiff,Nat.reduceSub,Nat.reduceMul,Int.reduceEq,Int.reduceBEq,Int.reduceBNe,Int.reduceLT,Int.reduceLE,Nat.reduceLT,hl,ha,nL,k1,p2,p3,p4,e]
   rfl
  ·have p2:decide ((a.toNat:Int)≥194)=true:=by simp; omega
   have q2:decide ((a.toNat:Int) < 224)=false:=by simp; omega
   have p3:decide ((a.toNat:Int)≥224)=true:=by simp; omega
   have q3:decide ((a.toNat:Int) < 240)=false:=by simp; omega
   have p4:decide ((a.toNat:Int)≥240)=true:=by simp; omega
   have q4:decide ((a.toNat:Int) < 245)=false:=by simp; omega
   refine ⟨0,aG (F:=mB) rfl ?_⟩
   simp only [nE,az,Nat.reduceEqDiff,reduceIte,reduceCtorEq,Nat.reduceAdd,Nat.reduceLeDiff,Nat.reduceSub,Nat.reduceMul,Int.reduceEq,Int.reduceBEq,Int.reduceBNe,Int.reduceLT,Int.reduceLE,Nat.reduceLT,hl,ha,nL,k1,p2,p3,p4,q2,q3,q4,e]
   rfl
end Go.Ab
