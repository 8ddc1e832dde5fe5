/- What functions of the program, and of the library, answer. Conditions: none. -/
import Derived.Test.YtgfeimceppggcaaGreatDoorLaw1
set_option linter.unusedVariables false
set_option linter.unusedSimpArgs false
set_option linter.defProp false
set_option linter.unnecessarySimpa false
namespace Go.Ab
set_option maxRecDepth 100000
set_option maxHeartbeats 1000000
def T3Fa:=J @Cq.eq_1 (J @Cp.eq_1 (J @vN.eq_1 (J @vM.eq_1 (J @Ax.eq_1 (J @vL.eq_1 (J @Aw.eq_1 (J @vK.eq_1 (J @Au.eq_1 (J @At.eq_1 (@F99.eq_1))))))))))
def Vn:=J @Cq.eq_1 (J @Cp.eq_1 (J @vN.eq_1 (J @vM.eq_1 (J @vL.eq_1 (J @Aw.eq_1 (J @vK.eq_1 (J @Au.eq_1 (J @At.eq_1 (@F99.eq_1)))))))))
def Ke:=J @Cq.eq_1 (J @Cp.eq_1 (J @vN.eq_1 (J @vM.eq_1 (J @Ax.eq_1 (J @vL.eq_1 (J @vK.eq_1 (J @Au.eq_1 (J @At.eq_1 (@F99.eq_1)))))))))
theorem fN {s:Bs} {i:Int} (h:0<=i) (h2:i<=s.length):eZ (.str s) (some (some i)) (some none)=some (.str (s.drop i.toNat)):=by
 simp [eZ,bounds,h,h2]
theorem Lc (w:BitVec 64):(wI w == 0)=decide (w=0#64):=by
 unfold wI
 by_cases h:w=0#64
 ·subst h; rfl
 ·have:w.toNat≠0:=fun h'=>h (BitVec.eq_of_toNat_eq (by simpa using h'))
  simp [h,this]
theorem Pp:BitVec.ofInt 64 9259542123273814144=MC:=by decide
theorem vg (x y:BitVec 64):IntKind.wrap .u64 ((BitVec.ofInt IntKind.u64.bits (wI x) ||| BitVec.ofInt IntKind.u64.bits (wI y)).toNat:Int)=wI (x ||| y):=by
 show IntKind.wrap .u64 ((BitVec.ofInt 64 (wI x) ||| BitVec.ofInt 64 (wI y)).toNat:Int)=_
 rw [sY,sY,Cu]
theorem vH (x:BitVec 64):IntKind.wrap .u64 ((BitVec.ofInt IntKind.u64.bits (wI x) &&& BitVec.ofInt IntKind.u64.bits 9259542123273814144).toNat:Int)=wI (x &&& MC):=by
 show IntKind.wrap .u64 ((BitVec.ofInt 64 (wI x) &&& BitVec.ofInt 64 9259542123273814144).toNat:Int)=_
 rw [sY,Pp,Cu]
theorem zT {w:BitVec 64} (h:w=0#64):(wI w == 0)=true:=by rw [Lc]; simp [h]
theorem zF {w:BitVec 64} (h: ¬w=0#64):(wI w == 0)=false:=by rw [Lc]; simp [h]
theorem gU0:gU 0=vz:=rfl
theorem gU1:gU 1=zL:=rfl
theorem d8 (x y:UInt8):decide ((x.toNat:Int) < (y.toNat:Int))=decide (x < y):=by
 rw [decide_eq_decide,UInt8.lt_iff_toNat_lt]; omega
theorem d8a (x:UInt8):decide ((x.toNat:Int) < 128)=decide (x < 0x80):=by
 rw [decide_eq_decide,UInt8.lt_iff_toNat_lt]; simp; omega
theorem d8b (x:UInt8):decide (191 < (x.toNat:Int))=decide (0xbf < x):=by
 rw [decide_eq_decide,UInt8.lt_iff_toNat_lt]; simp; omega
theorem yB (a:UInt8):IntKind.wrap .u8 ((BitVec.ofInt IntKind.u8.bits (xOf a) &&& BitVec.ofInt IntKind.u8.bits 7).toNat:Int)=x7 a:=rfl
theorem sh4 (a:UInt8):bk .shr .u8 (xOf a) 4=some (.int .u8 (x4 a)):=rfl
theorem j9 (a:UInt8):idxOf 1 (some 256) (.vptr vz 0) (.int .u8 (a.toNat:Int))=some (.vptr vz a.toNat):=by
 have:=a.toNat_lt
 simp [idxOf]; omega
theorem YM {i:Int} (h:0<=i) (h2:i < 16):idxOf 2 (some 16) (.vptr zL 0) (.int .u8 i)=some (.vptr zL (i.toNat*2)):=by
 simp [idxOf,h,h2]
theorem Rk {n:Nat} (h:n < 16):df zL (n*2) (some 2)=some (.agg [.int .u8 (A7.getD (n*2) 0), .int .u8 (A7.getD (n*2+1) 0)]):=by
 have hl:zL.length=32:=by rfl
 have Ic:A7.length=32:=by rfl
 show (if n*2+2<=zL.length then some (AV.agg ((zL.drop (n*2)).take 2)) else none)=_
 rw [if_pos aa,Zg,List.drop_eq_getElem_cons (by simp; omega),List.drop_eq_getElem_cons (by simp; omega)]
 have h1:n*2 < A7.length:=by omega
 have h3:n*2+1 < A7.length:=by omega
 simp [h1,h3]
theorem Xb (s0:Bs):cR 99 [.str s0]=some (.bool (vu s0)):=by
 refine aG (F:=F99) rfl ?_
 simp only [Cq,Cp,vN,vM,Ax,vL,Aw,vK,Au,F99,ax,az,seval]
 refine aP (S:=Bs) (fun s=> [(0, .str s)]) (fun s=>s.length) (fun s _=>vu s=vu s0) ?_ s0 _ rfl
 intro b s σ hs ih
 cases s with
 | nil=>
  simp only [Cq,Cp,vN,vM,Ax,vL,Aw,vK,At,F99,az,seval]
  rw [←hs]; rfl
 | cons a r=>
  have hl:decide (0 < ((r.length+1:Nat):Int))=true:=by simp
  have ha:et (.str (a ::r)) (.int .i64 0)=some (.int .u8 a.toNat):=rfl
  by_cases TF:a < 128
  ·have h1:decide ((a.toNat:Int) < 128)=true:=by rw [UInt8.lt_iff_toNat_lt] at TF; simp at TF ⊢; omega
   have h2:eZ (.str (a ::r)) (some (some 1)) (some none)=some (.str r):=fN (s:=a ::r) (i:=1) aa (by simp; omega)
   have hr:vu r=vu s0:=by rw [←hs,nq TF]
   have go: ∀(s':Bs) (fr':Fr) (σ':ag),s'.length<=r.length->vu s'=vu s0->keep [0] fr'= [(0,AV.str s')]->_:=fun s' fr' σ' q1 q2 q3=>ih s' fr' σ' (by simp; omega) q2 q3
   by_cases c1:8 < r.length
   ·have d1:decide (8 < (r.length:Int))=true:=by simp; omega
    have w1:=IE (s:=r) aa
    by_cases z1:wd r &&& MC=0#64
    ·have zz1:=zT z1
     have v1:vu (r.drop 8)=vu s0:=by rw [lM aa z1]; exact hr
     have h3:eZ (.str r) (some (some 8)) (some none)=some (.str (r.drop 8)):=fN (i:=8) aa aa
     generalize hr8:r.drop 8=r8 at v1 h3
     have hlen8:r8.length=r.length - 8:=by rw [←hr8]; simp
     by_cases c2:16 < r8.length
     ·have d2:decide (16 < (r8.length:Int))=true:=by simp; omega
      have w2:=IE (s:=r8) aa
      have h4:eZ (.str r8) (some (some 8)) (some none)=some (.str (r8.drop 8)):=fN (i:=8) aa aa
      have w3:=IE (s:=r8.drop 8) (by simp; omega)
      by_cases z2:(wd r8 ||| wd (r8.drop 8)) &&& MC=0#64
      ·have zz2:=zT z2
       have v2:vu ((r8.drop 8).drop 8)=vu s0:=by
        rw [lM (by simp; omega) (Bx z2).2,lM aa (Bx z2).1]; exact v1
       have h5:eZ (.str r8) (some (some 16)) (some none)=some (.str (r8.drop 16)):=fN (i:=16) aa aa
       rw [List.drop_drop] at v2
       simp only [Vn,ax,az,seval,hl,ha,h1,h2,d1,w1,vg,vH,zz1,h3,d2,w2,w3,h4,zz2,h5]
       refine aP (S:=Bs) (fun s=> [(0, .str s)]) (fun s=>s.length) (fun s _=>vu s=vu s0/\s.length<=r.length) ?_ _ _ ⟨v2,by simp; omega⟩
       intro b2 s2 σ2 ⟨nH,hle2⟩ iY
       by_cases c3:32 < s2.length
       ·have d3:decide (32 < (s2.length:Int))=true:=by simp; omega
        have e1:=IE (s:=s2) aa
        have e2:=IE (s:=s2.drop 8) (by simp; omega)
        have e3:=IE (s:=s2.drop 16) (by simp; omega)
        have e4:=IE (s:=s2.drop 24) (by simp; omega)
        have g1:eZ (.str s2) (some (some 8)) (some none)=some (.str (s2.drop 8)):=fN (i:=8) aa aa
        have g2:eZ (.str s2) (some (some 16)) (some none)=some (.str (s2.drop 16)):=fN (i:=16) aa aa
        have g3:eZ (.str s2) (some (some 24)) (some none)=some (.str (s2.drop 24)):=fN (i:=24) aa aa
        have g4:eZ (.str s2) (some (some 32)) (some none)=some (.str (s2.drop 32)):=fN (i:=32) aa aa
        by_cases z3:((wd s2 ||| wd (s2.drop 8)) ||| (wd (s2.drop 16) ||| wd (s2.drop 24))) &&& MC=0#64
        ·have zz3:=zT z3
         simp only [T3Fa,az,seval,d3,e1,e2,e3,e4,g1,g2,g3,g4,vg,vH,zz3]
         refine iY (s2.drop 32) _ _ (by simp; omega) ⟨?_,by simp; omega⟩ (by simp only [az,seval])
         have y1:=Bx (Bx z3).1
         have y2:=Bx (Bx z3).2
         have u1:vu ((((s2.drop 8).drop 8).drop 8).drop 8)=vu s2:=by
          have f2:(s2.drop 8).drop 8=s2.drop 16:=by rw [List.drop_drop]
          have f3:(s2.drop 16).drop 8=s2.drop 24:=by rw [List.drop_drop]
          rw [f2,f3,lM (by simp; omega) y2.2,←f3,lM (by simp; omega) y2.1,←f2,lM (by simp; omega) y1.2,lM aa y1.1]
         simp only [List.drop_drop] at u1
         exact u1.trans nH
        ·have zz3:=zF z3
         simp only [T3Fa,az,seval,d3,e1,e2,e3,e4,g1,g2,g3,g4,vg,vH,zz3]
         exact go s2 _ _ hle2 nH (by simp only [az,seval])
       ·have d3:decide (32 < (s2.length:Int))=false:=by simp; omega
        simp only [T3Fa,az,seval,d3]
        exact go s2 _ _ hle2 nH (by simp only [az,seval])
      ·have zz2:=zF z2
       simp only [Vn,az,seval,hl,ha,h1,h2,d1,w1,vg,vH,zz1,h3,d2,w2,w3,h4,zz2]
       exact go r8 _ _ aa v1 (by simp only [az,seval])
     ·have d2:decide (16 < (r8.length:Int))=false:=by simp; omega
      simp only [Vn,az,seval,hl,ha,h1,h2,d1,w1,vg,vH,zz1,h3,d2]
      exact go r8 _ _ aa v1 (by simp only [az,seval])
    ·have zz1:=zF z1
     simp only [Vn,az,seval,hl,ha,h1,h2,d1,w1,vg,vH,zz1]
     exact go r _ _ aa hr (by simp only [az,seval])
   ·have d1:decide (8 < (r.length:Int))=false:=by simp; omega
    simp only [Vn,az,seval,hl,ha,h1,h2,d1]
    exact go r _ _ aa hr (by simp only [az,seval])
  ·have h1:decide ((a.toNat:Int) < 128)=false:=by rw [d8a]; simp; exact UInt8.not_lt.1 TF
   have lp:128<=a:=UInt8.not_lt.1 TF
   obtain ⟨s2,s3,s4,sw,s1⟩:=x7_sz a lp
   obtain ⟨a1,a2,a3⟩:=acc_lo a lp
   have i1:=YM a1 a2
   have i2:=Rk (n:=(x4 a).toNat) aa
   have vu_eq:=Lh a r
   rw [if_neg s1] at vu_eq
   rw [vu_eq] at hs
   by_cases c2:jT a=2
   ·have q2:(x7 a == 2)=true:=by simp [s2,c2]
    obtain ⟨l1,l2⟩:=a3 aa
    rw [if_pos c2] at hs
    by_cases hn:r.length < 1
    ·have dn:decide (((r.length+1:Nat):Int) < 2)=true:=by simp; omega
     have hf:vu s0=false:=by
      rw [←hs]
      split
      ·exact absurd hn (by simp)
      ·rfl
     simp only [Ke,az,seval,hl,ha,h1,gU0,gU1,j9,jn,yB,sw,sh4,i1,i2,l1,l2,q2,dn,hf]
    ·obtain ⟨b1,rr,hr⟩ : ∃b1 rr,r=b1 ::rr:=by
      match r,hn with
      | b1 ::rr,_=>exact ⟨b1,rr,rfl⟩
      | [],hn=>exact absurd (by simp) hn
     have dn:decide (((r.length+1:Nat):Int) < 2)=false:=by simp; omega
     have y1:et (.str (a ::r)) (.int .i64 1)=some (.int .u8 b1.toNat):=by rw [hr]; rfl
     have ys:eZ (.str (a ::r)) (some (some 2)) (some none)=some (.str rr):=by rw [hr]; exact fN (s:=a ::b1 ::rr) (i:=2) aa (by simp; omega)
     rw [hr] at hs
     simp only at hs
     have ihr:=fun (hv:vu rr=vu s0) (fr':Fr) (σ':ag) (hk:keep [0] fr'= [(0,AV.str rr)])=>ih rr fr' σ' (by rw [hr]; simp; omega) hv hk
     simp only [Ke,az,seval,hl,ha,h1,gU0,gU1,j9,jn,yB,sw,sh4,i1,i2,l1,l2,q2,dn,y1,ys,d8,d8a,d8b]
     repeat' split
     all_goals first | (simp_all [sO,ct]; done) | exact ihr (by simp_all [sO,ct]) _ _ (by simp only [az,seval])
   have q2:(x7 a == 2)=false:=by simp [s2,c2]
   by_cases c3:jT a=3
   ·have q3:(x7 a == 3)=true:=by simp [s3,c3]
    obtain ⟨l1,l2⟩:=a3 aa
    rw [if_neg c2] at hs
    rw [if_pos c3] at hs
    by_cases hn:r.length < 2
    ·have dn:decide (((r.length+1:Nat):Int) < 3)=true:=by simp; omega
     have hf:vu s0=false:=by
      rw [←hs]
      split
      ·exact absurd hn (by simp)
      ·rfl
     simp only [Ke,az,seval,hl,ha,h1,gU0,gU1,j9,jn,yB,sw,sh4,i1,i2,l1,l2,q2,q3,dn,hf]
    ·obtain ⟨b1,b2,rr,hr⟩ : ∃b1 b2 rr,r=b1 ::b2 ::rr:=by
      match r,hn with
      | b1 ::b2 ::rr,_=>exact ⟨b1,b2,rr,rfl⟩
      | [b1],hn=>exact absurd (by simp) hn
      | [],hn=>exact absurd (by simp) hn
     have dn:decide (((r.length+1:Nat):Int) < 3)=false:=by simp; omega
     have y1:et (.str (a ::r)) (.int .i64 1)=some (.int .u8 b1.toNat):=by rw [hr]; rfl
     have y2:et (.str (a ::r)) (.int .i64 2)=some (.int .u8 b2.toNat):=by rw [hr]; rfl
     have ys:eZ (.str (a ::r)) (some (some 3)) (some none)=some (.str rr):=by rw [hr]; exact fN (s:=a ::b1 ::b2 ::rr) (i:=3) aa (by simp; omega)
     rw [hr] at hs
     simp only at hs
     have ihr:=fun (hv:vu rr=vu s0) (fr':Fr) (σ':ag) (hk:keep [0] fr'= [(0,AV.str rr)])=>ih rr fr' σ' (by rw [hr]; simp; omega) hv hk
     simp only [Ke,az,seval,hl,ha,h1,gU0,gU1,j9,jn,yB,sw,sh4,i1,i2,l1,l2,q2,q3,dn,y1,y2,ys,d8,d8a,d8b]
     repeat' split
     all_goals first | (simp_all [sO,ct]; done) | exact ihr (by simp_all [sO,ct]) _ _ (by simp only [az,seval])
   have q3:(x7 a == 3)=false:=by simp [s3,c3]
   by_cases c4:jT a=4
   ·have q4:(x7 a == 4)=true:=by simp [s4,c4]
    obtain ⟨l1,l2⟩:=a3 aa
    rw [if_neg c2] at hs
    rw [if_neg c3] at hs
    rw [if_pos c4] at hs
    by_cases hn:r.length < 3
    ·have dn:decide (((r.length+1:Nat):Int) < 4)=true:=by simp; omega
     have hf:vu s0=false:=by
      rw [←hs]
      split
      ·exact absurd hn (by simp)
      ·rfl
     simp only [Ke,az,seval,hl,ha,h1,gU0,gU1,j9,jn,yB,sw,sh4,i1,i2,l1,l2,q2,q3,q4,dn,hf]
    ·obtain ⟨b1,b2,b3,rr,hr⟩ : ∃b1 b2 b3 rr,r=b1 ::b2 ::b3 ::rr:=by
      match r,hn with
      | b1 ::b2 ::b3 ::rr,_=>exact ⟨b1,b2,b3,rr,rfl⟩
      | [b1],hn=>exact absurd (by simp) hn
      | [b1,b2],hn=>exact absurd (by simp) hn
      | [],hn=>exact absurd (by simp) hn
     have dn:decide (((r.length+1:Nat):Int) < 4)=false:=by simp; omega
     have y1:et (.str (a ::r)) (.int .i64 1)=some (.int .u8 b1.toNat):=by rw [hr]; rfl
     have y2:et (.str (a ::r)) (.int .i64 2)=some (.int .u8 b2.toNat):=by rw [hr]; rfl
     have y3:et (.str (a ::r)) (.int .i64 3)=some (.int .u8 b3.toNat):=by rw [hr]; rfl
     have ys:eZ (.str (a ::r)) (some (some 4)) (some none)=some (.str rr):=by rw [hr]; exact fN (s:=a ::b1 ::b2 ::b3 ::rr) (i:=4) aa (by simp; omega)
     rw [hr] at hs
     simp only at hs
     have ihr:=fun (hv:vu rr=vu s0) (fr':Fr) (σ':ag) (hk:keep [0] fr'= [(0,AV.str rr)])=>ih rr fr' σ' (by rw [hr]; simp; omega) hv hk
     simp only [Ke,az,seval,hl,ha,h1,gU0,gU1,j9,jn,yB,sw,sh4,i1,i2,l1,l2,q2,q3,q4,dn,y1,y2,y3,ys,d8,d8a,d8b]
     repeat' split
     all_goals first | (simp_all [sO,ct]; done) | exact ihr (by simp_all [sO,ct]) _ _ (by simp only [az,seval])
   have q4:(x7 a == 4)=false:=by simp [s4,c4]
   rw [if_neg c2,if_neg c3,if_neg c4] at hs
   have hf:=hs.symm
   simp only [Ke,az,seval,hl,ha,h1,gU0,gU1,j9,jn,yB,sw,sh4,i1,i2,q2,q3,q4,hf]
end Go.Ab
