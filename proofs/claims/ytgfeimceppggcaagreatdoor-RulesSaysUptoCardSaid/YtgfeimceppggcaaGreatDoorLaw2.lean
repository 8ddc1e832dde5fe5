/- What functions of the program, and of the library, answer. Conditions: none. -/
import Derived.Test.YtgfeimceppggcaaGreatDoorLaw1
set_option linter.unusedVariables false
set_option linter.unusedSimpArgs false
set_option linter.defProp false
set_option linter.unnecessarySimpa false
namespace Go.Ab
set_option maxRecDepth 100000
set_option maxHeartbeats 1000000
def T3Fa:=J @AX.eq_1 (J @AW.eq_1 (J @uM.eq_1 (J @uL.eq_1 (J @y9.eq_1 (J @uK.eq_1 (J @y8.eq_1 (J @uJ.eq_1 (J @y7.eq_1 (J @y6.eq_1 (@F99.eq_1))))))))))
def Tk:=J @AX.eq_1 (J @AW.eq_1 (J @uM.eq_1 (J @uL.eq_1 (J @uK.eq_1 (J @y8.eq_1 (J @uJ.eq_1 (J @y7.eq_1 (J @y6.eq_1 (@F99.eq_1)))))))))
def H9:=J @AX.eq_1 (J @AW.eq_1 (J @uM.eq_1 (J @uL.eq_1 (J @y9.eq_1 (J @uK.eq_1 (J @uJ.eq_1 (J @y7.eq_1 (J @y6.eq_1 (@F99.eq_1)))))))))
theorem dq {s:Bs} {i:Int} (h:0<=i) (h2:i<=s.length):ck (.str s) (some (some i)) (some none)=some (.str (s.drop i.toNat)):=by
 simp [ck,bounds,h,h2]
theorem Jf (w:BitVec 64):(wI w == 0)=decide (w=0#64):=by
 unfold wI
 by_cases h:w=0#64
 ·subst h; rfl
 ·have:w.toNat≠0:=fun h'=>h (BitVec.eq_of_toNat_eq (by simpa using h'))
  simp [h,this]
theorem M8:BitVec.ofInt 64 9259542123273814144=Km:=by decide
theorem ua (x y:BitVec 64):IntKind.wrap .u64 ((BitVec.ofInt IntKind.u64.bits (wI x) ||| BitVec.ofInt IntKind.u64.bits (wI y)).toNat:Int)=wI (x ||| y):=by
 show IntKind.wrap .u64 ((BitVec.ofInt 64 (wI x) ||| BitVec.ofInt 64 (wI y)).toNat:Int)=_
 rw [rR,rR,A1]
theorem uG (x:BitVec 64):IntKind.wrap .u64 ((BitVec.ofInt IntKind.u64.bits (wI x) &&& BitVec.ofInt IntKind.u64.bits 9259542123273814144).toNat:Int)=wI (x &&& Km):=by
 show IntKind.wrap .u64 ((BitVec.ofInt 64 (wI x) &&& BitVec.ofInt 64 9259542123273814144).toNat:Int)=_
 rw [rR,M8,A1]
theorem zT {w:BitVec 64} (h:w=0#64):(wI w == 0)=true:=by rw [Jf]; simp [h]
theorem zF {w:BitVec 64} (h: ¬w=0#64):(wI w == 0)=false:=by rw [Jf]; simp [h]
theorem gU0:gU 0=ur:=rfl
theorem gU1:gU 1=yy:=rfl
theorem d8 (x y:UInt8):decide ((x.toNat:Int) < (y.toNat:Int))=decide (x < y):=by
 rw [decide_eq_decide,UInt8.lt_iff_toNat_lt]; omega
theorem d8a (x:UInt8):decide ((x.toNat:Int) < 128)=decide (x < 0x80):=by
 rw [decide_eq_decide,UInt8.lt_iff_toNat_lt]; simp; omega
theorem d8b (x:UInt8):decide (191 < (x.toNat:Int))=decide (0xbf < x):=by
 rw [decide_eq_decide,UInt8.lt_iff_toNat_lt]; simp; omega
theorem xw (a:UInt8):IntKind.wrap .u8 ((BitVec.ofInt IntKind.u8.bits (xOf a) &&& BitVec.ofInt IntKind.u8.bits 7).toNat:Int)=x7 a:=rfl
theorem sh4 (a:UInt8):aY .shr .u8 (xOf a) 4=some (.int .u8 (x4 a)):=rfl
theorem jI (a:UInt8):idxOf 1 (some 256) (.vptr ur 0) (.int .u8 (a.toNat:Int))=some (.vptr ur a.toNat):=by
 have:=a.toNat_lt
 simp [idxOf]; omega
theorem WU {i:Int} (h:0<=i) (h2:i < 16):idxOf 2 (some 16) (.vptr yy 0) (.int .u8 i)=some (.vptr yy (i.toNat*2)):=by
 simp [idxOf,h,h2]
theorem Pa {n:Nat} (h:n < 16):dG yy (n*2) (some 2)=some (.agg [.int .u8 (zH.getD (n*2) 0), .int .u8 (zH.getD (n*2+1) 0)]):=by
 have hl:yy.length=32:=by rfl
 have F2:zH.length=32:=by rfl
 show (if n*2+2<=yy.length then some (AV.agg ((yy.drop (n*2)).take 2)) else none)=_
 rw [if_pos aa,Xu,List.drop_eq_getElem_cons (by simp; omega),List.drop_eq_getElem_cons (by simp; omega)]
 have h1:n*2 < zH.length:=by omega
 have h3:n*2+1 < zH.length:=by omega
 simp [h1,h3]
theorem Ve (s0:Bs):cR 99 [.str s0]=some (.bool (vu s0)):=by
 refine aC (F:=F99) rfl ?_
 simp only [AX,AW,uM,uL,y9,uK,y8,uJ,y7,F99,ay,ax,seval]
 refine aL (S:=Bs) (fun s=> [(0, .str s)]) (fun s=>s.length) (fun s _=>vu s=vu s0) ?_ s0 _ rfl
 intro b s σ hs ih
 cases s with
 | nil=>
  simp only [AX,AW,uM,uL,y9,uK,y8,uJ,y6,F99,ax,seval]
  rw [←hs]; rfl
 | cons a r=>
  have hl:decide (0 < ((r.length+1:Nat):Int))=true:=by simp
  have ha:cC (.str (a ::r)) (.int .i64 0)=some (.int .u8 a.toNat):=rfl
  by_cases Q3:a < 128
  ·have h1:decide ((a.toNat:Int) < 128)=true:=by rw [UInt8.lt_iff_toNat_lt] at Q3; simp at Q3 ⊢; omega
   have h2:ck (.str (a ::r)) (some (some 1)) (some none)=some (.str r):=dq (s:=a ::r) (i:=1) aa (by simp; omega)
   have hr:vu r=vu s0:=by rw [←hs,nP Q3]
   have go: ∀(s':Bs) (fr':Fr) (σ':ag),s'.length<=r.length->vu s'=vu s0->keep [0] fr'= [(0,AV.str s')]->_:=fun s' fr' σ' q1 q2 q3=>ih s' fr' σ' (by simp; omega) q2 q3
   by_cases c1:8 < r.length
   ·have d1:decide (8 < (r.length:Int))=true:=by simp; omega
    have w1:=Gw (s:=r) aa
    by_cases z1:wd r &&& Km=0#64
    ·have zz1:=zT z1
     have v1:vu (r.drop 8)=vu s0:=by rw [lb aa z1]; exact hr
     have h3:ck (.str r) (some (some 8)) (some none)=some (.str (r.drop 8)):=dq (i:=8) aa aa
     generalize hr8:r.drop 8=r8 at v1 h3
     have hlen8:r8.length=r.length - 8:=by rw [←hr8]; simp
     by_cases c2:16 < r8.length
     ·have d2:decide (16 < (r8.length:Int))=true:=by simp; omega
      have w2:=Gw (s:=r8) aa
      have h4:ck (.str r8) (some (some 8)) (some none)=some (.str (r8.drop 8)):=dq (i:=8) aa aa
      have w3:=Gw (s:=r8.drop 8) (by simp; omega)
      by_cases z2:(wd r8 ||| wd (r8.drop 8)) &&& Km=0#64
      ·have zz2:=zT z2
       have v2:vu ((r8.drop 8).drop 8)=vu s0:=by
        rw [lb (by simp; omega) (z5 z2).2,lb aa (z5 z2).1]; exact v1
       have h5:ck (.str r8) (some (some 16)) (some none)=some (.str (r8.drop 16)):=dq (i:=16) aa aa
       rw [List.drop_drop] at v2
       simp only [Tk,ay,ax,seval,hl,ha,h1,h2,d1,w1,ua,uG,zz1,h3,d2,w2,w3,h4,zz2,h5]
       refine aL (S:=Bs) (fun s=> [(0, .str s)]) (fun s=>s.length) (fun s _=>vu s=vu s0/\s.length<=r.length) ?_ _ _ ⟨v2,by simp; omega⟩
       intro b2 s2 σ2 ⟨oS,hle2⟩ ir
       by_cases c3:32 < s2.length
       ·have d3:decide (32 < (s2.length:Int))=true:=by simp; omega
        have e1:=Gw (s:=s2) aa
        have e2:=Gw (s:=s2.drop 8) (by simp; omega)
        have e3:=Gw (s:=s2.drop 16) (by simp; omega)
        have e4:=Gw (s:=s2.drop 24) (by simp; omega)
        have g1:ck (.str s2) (some (some 8)) (some none)=some (.str (s2.drop 8)):=dq (i:=8) aa aa
        have g2:ck (.str s2) (some (some 16)) (some none)=some (.str (s2.drop 16)):=dq (i:=16) aa aa
        have g3:ck (.str s2) (some (some 24)) (some none)=some (.str (s2.drop 24)):=dq (i:=24) aa aa
        have g4:ck (.str s2) (some (some 32)) (some none)=some (.str (s2.drop 32)):=dq (i:=32) aa aa
        by_cases z3:((wd s2 ||| wd (s2.drop 8)) ||| (wd (s2.drop 16) ||| wd (s2.drop 24))) &&& Km=0#64
        ·have zz3:=zT z3
         simp only [T3Fa,ax,seval,d3,e1,e2,e3,e4,g1,g2,g3,g4,ua,uG,zz3]
         refine ir (s2.drop 32) _ _ (by simp; omega) ⟨?_,by simp; omega⟩ (by simp only [ax,seval])
         have y1:=z5 (z5 z3).1
         have y2:=z5 (z5 z3).2
         have u1:vu ((((s2.drop 8).drop 8).drop 8).drop 8)=vu s2:=by
          have f2:(s2.drop 8).drop 8=s2.drop 16:=by rw [List.drop_drop]
          have f3:(s2.drop 16).drop 8=s2.drop 24:=by rw [List.drop_drop]
          rw [f2,f3,lb (by simp; omega) y2.2,←f3,lb (by simp; omega) y2.1,←f2,lb (by simp; omega) y1.2,lb aa y1.1]
         simp only [List.drop_drop] at u1
         exact u1.trans oS
        ·have zz3:=zF z3
         simp only [T3Fa,ax,seval,d3,e1,e2,e3,e4,g1,g2,g3,g4,ua,uG,zz3]
         exact go s2 _ _ hle2 oS (by simp only [ax,seval])
       ·have d3:decide (32 < (s2.length:Int))=false:=by simp; omega
        simp only [T3Fa,ax,seval,d3]
        exact go s2 _ _ hle2 oS (by simp only [ax,seval])
      ·have zz2:=zF z2
       simp only [Tk,ax,seval,hl,ha,h1,h2,d1,w1,ua,uG,zz1,h3,d2,w2,w3,h4,zz2]
       exact go r8 _ _ aa v1 (by simp only [ax,seval])
     ·have d2:decide (16 < (r8.length:Int))=false:=by simp; omega
      simp only [Tk,ax,seval,hl,ha,h1,h2,d1,w1,ua,uG,zz1,h3,d2]
      exact go r8 _ _ aa v1 (by simp only [ax,seval])
    ·have zz1:=zF z1
     simp only [Tk,ax,seval,hl,ha,h1,h2,d1,w1,ua,uG,zz1]
     exact go r _ _ aa hr (by simp only [ax,seval])
   ·have d1:decide (8 < (r.length:Int))=false:=by simp; omega
    simp only [Tk,ax,seval,hl,ha,h1,h2,d1]
    exact go r _ _ aa hr (by simp only [ax,seval])
  ·have h1:decide ((a.toNat:Int) < 128)=false:=by rw [d8a]; simp; exact UInt8.not_lt.1 Q3
   have kc:128<=a:=UInt8.not_lt.1 Q3
   obtain ⟨s2,s3,s4,sw,s1⟩:=x7_sz a kc
   obtain ⟨a1,a2,a3⟩:=acc_lo a kc
   have i1:=WU a1 a2
   have i2:=Pa (n:=(x4 a).toNat) aa
   have Zv:=Jk a r
   rw [if_neg s1] at Zv
   rw [Zv] at hs
   by_cases c2:jv a=2
   ·have q2:(x7 a == 2)=true:=by simp [s2,c2]
    obtain ⟨l1,l2⟩:=a3 aa
    rw [if_pos c2] at hs
    by_cases hn:r.length < 1
    ·have dn:decide (((r.length+1:Nat):Int) < 2)=true:=by simp; omega
     have hf:vu s0=false:=by
      rw [←hs]
      split
      ·exact absurd hn (by simp)
      ·rfl
     simp only [H9,ax,seval,hl,ha,h1,gU0,gU1,jI,iO,xw,sw,sh4,i1,i2,l1,l2,q2,dn,hf]
    ·obtain ⟨b1,rr,hr⟩ : ∃b1 rr,r=b1 ::rr:=by
      match r,hn with
      | b1 ::rr,_=>exact ⟨b1,rr,rfl⟩
      | [],hn=>exact absurd (by simp) hn
     have dn:decide (((r.length+1:Nat):Int) < 2)=false:=by simp; omega
     have y1:cC (.str (a ::r)) (.int .i64 1)=some (.int .u8 b1.toNat):=by rw [hr]; rfl
     have ys:ck (.str (a ::r)) (some (some 2)) (some none)=some (.str rr):=by rw [hr]; exact dq (s:=a ::b1 ::rr) (i:=2) aa (by simp; omega)
     rw [hr] at hs
     simp only at hs
     have ihr:=fun (hv:vu rr=vu s0) (fr':Fr) (σ':ag) (hk:keep [0] fr'= [(0,AV.str rr)])=>ih rr fr' σ' (by rw [hr]; simp; omega) hv hk
     simp only [H9,ax,seval,hl,ha,h1,gU0,gU1,jI,iO,xw,sw,sh4,i1,i2,l1,l2,q2,dn,y1,ys,d8,d8a,d8b]
     repeat' split
     all_goals first | (simp_all [rH,ct]; done) | exact ihr (by simp_all [rH,ct]) _ _ (by simp only [ax,seval])
   have q2:(x7 a == 2)=false:=by simp [s2,c2]
   by_cases c3:jv a=3
   ·have q3:(x7 a == 3)=true:=by simp [s3,c3]
    obtain ⟨l1,l2⟩:=a3 aa
    rw [if_neg c2] at hs
    rw [if_pos c3] at hs
    by_cases hn:r.length < 2
    ·have dn:decide (((r.length+1:Nat):Int) < 3)=true:=by simp; omega
     have hf:vu s0=false:=by
      rw [←hs]
      split
      ·exact absurd hn (by simp)
      ·rfl
     simp only [H9,ax,seval,hl,ha,h1,gU0,gU1,jI,iO,xw,sw,sh4,i1,i2,l1,l2,q2,q3,dn,hf]
    ·obtain ⟨b1,b2,rr,hr⟩ : ∃b1 b2 rr,r=b1 ::b2 ::rr:=by
      match r,hn with
      | b1 ::b2 ::rr,_=>exact ⟨b1,b2,rr,rfl⟩
      | [b1],hn=>exact absurd (by simp) hn
      | [],hn=>exact absurd (by simp) hn
     have dn:decide (((r.length+1:Nat):Int) < 3)=false:=by simp; omega
     have y1:cC (.str (a ::r)) (.int .i64 1)=some (.int .u8 b1.toNat):=by rw [hr]; rfl
     have y2:cC (.str (a ::r)) (.int .i64 2)=some (.int .u8 b2.toNat):=by rw [hr]; rfl
     have ys:ck (.str (a ::r)) (some (some 3)) (some none)=some (.str rr):=by rw [hr]; exact dq (s:=a ::b1 ::b2 ::rr) (i:=3) aa (by simp; omega)
     rw [hr] at hs
     simp only at hs
     have ihr:=fun (hv:vu rr=vu s0) (fr':Fr) (σ':ag) (hk:keep [0] fr'= [(0,AV.str rr)])=>ih rr fr' σ' (by rw [hr]; simp; omega) hv hk
     simp only [H9,ax,seval,hl,ha,h1,gU0,gU1,jI,iO,xw,sw,sh4,i1,i2,l1,l2,q2,q3,dn,y1,y2,ys,d8,d8a,d8b]
     repeat' split
     all_goals first | (simp_all [rH,ct]; done) | exact ihr (by simp_all [rH,ct]) _ _ (by simp only [ax,seval])
   have q3:(x7 a == 3)=false:=by simp [s3,c3]
   by_cases c4:jv a=4
   ·have q4:(x7 a == 4)=true:=by simp [s4,c4]
    obtain ⟨l1,l2⟩:=a3 aa
    rw [if_neg c2] at hs
    rw [if_neg c3] at hs
    rw [if_pos c4] at hs
    by_cases hn:r.length < 3
    ·have dn:decide (((r.length+1:Nat):Int) < 4)=true:=by simp; omega
     have hf:vu s0=false:=by
      rw [←hs]
      split
      ·exact absurd hn (by simp)
      ·rfl
     simp only [H9,ax,seval,hl,ha,h1,gU0,gU1,jI,iO,xw,sw,sh4,i1,i2,l1,l2,q2,q3,q4,dn,hf]
    ·obtain ⟨b1,b2,b3,rr,hr⟩ : ∃b1 b2 b3 rr,r=b1 ::b2 ::b3 ::rr:=by
      match r,hn with
      | b1 ::b2 ::b3 ::rr,_=>exact ⟨b1,b2,b3,rr,rfl⟩
      | [b1],hn=>exact absurd (by simp) hn
      | [b1,b2],hn=>exact absurd (by simp) hn
      | [],hn=>exact absurd (by simp) hn
     have dn:decide (((r.length+1:Nat):Int) < 4)=false:=by simp; omega
     have y1:cC (.str (a ::r)) (.int .i64 1)=some (.int .u8 b1.toNat):=by rw [hr]; rfl
     have y2:cC (.str (a ::r)) (.int .i64 2)=some (.int .u8 b2.toNat):=by rw [hr]; rfl
     have y3:cC (.str (a ::r)) (.int .i64 3)=some (.int .u8 b3.toNat):=by rw [hr]; rfl
     have ys:ck (.str (a ::r)) (some (some 4)) (some none)=some (.str rr):=by rw [hr]; exact dq (s:=a ::b1 ::b2 ::b3 ::rr) (i:=4) aa (by simp; omega)
     rw [hr] at hs
     simp only at hs
     have ihr:=fun (hv:vu rr=vu s0) (fr':Fr) (σ':ag) (hk:keep [0] fr'= [(0,AV.str rr)])=>ih rr fr' σ' (by rw [hr]; simp; omega) hv hk
     simp only [H9,ax,seval,hl,ha,h1,gU0,gU1,jI,iO,xw,sw,sh4,i1,i2,l1,l2,q2,q3,q4,dn,y1,y2,y3,ys,d8,d8a,d8b]
     repeat' split
     all_goals first | (simp_all [rH,ct]; done) | exact ihr (by simp_all [rH,ct]) _ _ (by simp only [ax,seval])
   have q4:(x7 a == 4)=false:=by simp [s4,c4]
   rw [if_neg c2,if_neg c3,if_neg c4] at hs
   have hf:=hs.symm
   simp only [H9,ax,seval,hl,ha,h1,gU0,gU1,jI,iO,xw,sw,sh4,i1,i2,q2,q3,q4,hf]
end Go.Ab
