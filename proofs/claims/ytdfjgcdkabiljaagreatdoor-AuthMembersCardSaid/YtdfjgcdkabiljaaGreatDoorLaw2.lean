/- What functions of the program, and of the library, answer. Conditions: none. -/
import Derived.Test.YtdfjgcdkabiljaaGreatDoorLaw1
set_option linter.unusedVariables false
set_option linter.unusedSimpArgs false
set_option linter.defProp false
set_option linter.unnecessarySimpa false
namespace Go.Ab
set_option maxHeartbeats 1000000
def T3Fa:=J @F99_7.eq_1 (J @F99_15.eq_1 (J @F99_18.eq_1 (J @F99_19.eq_1 (J @F99_34.eq_1 (J @F99_35.eq_1 (J @F99_98.eq_1 (J @F99_99.eq_1 (@F99.eq_1))))))))
def T3Fb:=J @F99_7.eq_1 (J @F99_15.eq_1 (J @F99_18.eq_1 (J @F99_34.eq_1 (J @F99_35.eq_1 (J @F99_98.eq_1 (J @F99_99.eq_1 (@F99.eq_1)))))))
def T3Fc:=J @F99_7.eq_1 (J @F99_15.eq_1 (J @F99_18.eq_1 (J @F99_19.eq_1 (J @F99_34.eq_1 (J @F99_98.eq_1 (J @F99_99.eq_1 (@F99.eq_1)))))))
theorem sliceS_lo {s:Bs} {i:Int} (h:0≤i) (h2:i≤s.length):sliceSOf (.str s) (some (some i)) (some none)=some (.str (s.drop i.toNat)):=by
 simp [sliceSOf,bounds,h,h2]
theorem wI_zero (w:BitVec 64):(wI w == 0)=decide (w=0#64):=by
 unfold wI
 by_cases h:w=0#64
 ·subst h; rfl
 ·have:w.toNat≠0:=fun h'=>h (BitVec.eq_of_toNat_eq (by simpa using h'))
  simp [h,this]
theorem hiB_ofInt:BitVec.ofInt 64 9259542123273814144=hiB:=by decide
theorem or_u64 (x y:BitVec 64):IntKind.wrap .u64 ((BitVec.ofInt IntKind.u64.bits (wI x) ||| BitVec.ofInt IntKind.u64.bits (wI y)).toNat:Int)=wI (x ||| y):=by
 show IntKind.wrap .u64 ((BitVec.ofInt 64 (wI x) ||| BitVec.ofInt 64 (wI y)).toNat:Int)=_
 rw [wI_ofInt,wI_ofInt,wI_wrap]
theorem and_hi (x:BitVec 64):IntKind.wrap .u64 ((BitVec.ofInt IntKind.u64.bits (wI x) &&& BitVec.ofInt IntKind.u64.bits 9259542123273814144).toNat:Int)=wI (x &&& hiB):=by
 show IntKind.wrap .u64 ((BitVec.ofInt 64 (wI x) &&& BitVec.ofInt 64 9259542123273814144).toNat:Int)=_
 rw [wI_ofInt,hiB_ofInt,wI_wrap]
theorem zT {w:BitVec 64} (h:w=0#64):(wI w == 0)=true:=by rw [wI_zero]; simp [h]
theorem zF {w:BitVec 64} (h: ¬w=0#64):(wI w == 0)=false:=by rw [wI_zero]; simp [h]
theorem gU0:gU 0=gFirst:=rfl
theorem gU1:gU 1=gAcc:=rfl
theorem d8 (x y:UInt8):decide ((x.toNat:Int) < (y.toNat:Int))=decide (x < y):=by
 rw [decide_eq_decide,UInt8.lt_iff_toNat_lt]; omega
theorem d8a (x:UInt8):decide ((x.toNat:Int) < 128)=decide (x < 0x80):=by
 rw [decide_eq_decide,UInt8.lt_iff_toNat_lt]; simp; omega
theorem d8b (x:UInt8):decide (191 < (x.toNat:Int))=decide (0xbf < x):=by
 rw [decide_eq_decide,UInt8.lt_iff_toNat_lt]; simp; omega
theorem x7_eq (a:UInt8):IntKind.wrap .u8 ((BitVec.ofInt IntKind.u8.bits (xOf a) &&& BitVec.ofInt IntKind.u8.bits 7).toNat:Int)=x7 a:=rfl
theorem sh4 (a:UInt8):shiftInt .shr .u8 (xOf a) 4=some (.int .u8 (x4 a)):=rfl
theorem idx_first (a:UInt8):idxOf 1 (some 256) (.vptr gFirst 0) (.int .u8 (a.toNat:Int))=some (.vptr gFirst a.toNat):=by
 have:=a.toNat_lt
 simp [idxOf]; omega
theorem idx_acc {i:Int} (h:0≤i) (h2:i < 16):idxOf 2 (some 16) (.vptr gAcc 0) (.int .u8 i)=some (.vptr gAcc (i.toNat*2)):=by
 simp [idxOf,h,h2]
theorem read_acc {n:Nat} (h:n < 16):readAt gAcc (n*2) (some 2)=some (.agg [.int .u8 (accL.getD (n*2) 0), .int .u8 (accL.getD (n*2+1) 0)]):=by
 have hl:gAcc.length=32:=by rfl
 have hl2:accL.length=32:=by rfl
 show (if n*2+2≤gAcc.length then some (AV.agg ((gAcc.drop (n*2)).take 2)) else none)=_
 rw [if_pos (by omega),gAcc_eq,List.drop_eq_getElem_cons (by simp; omega),List.drop_eq_getElem_cons (by simp; omega)]
 have h1:n*2 < accL.length:=by omega
 have h3:n*2+1 < accL.length:=by omega
 simp [h1,h3]
theorem r_valid (s0:Bs):cR 99 [.str s0]=some (.bool (vu s0)):=by
 refine cR_of (F:=F99) rfl ?_
 simp only [F99,ex_loop,EXA,seval]
 refine ex_whileI (S:=Bs) (fun s=> [(0, .str s)]) (fun s=>s.length) (fun s _=>vu s=vu s0) ?_ s0 _ rfl
 intro b s σ hs ih
 cases s with
 | nil=>
  simp only [F99_99,EXA,seval]
  rw [←hs]; rfl
 | cons a r=>
  have hl:decide (0 < ((r.length+1:Nat):Int))=true:=by simp
  have ha:byteAt (.str (a ::r)) (.int .i64 0)=some (.int .u8 a.toNat):=rfl
  by_cases h128:a < 128
  ·have h1:decide ((a.toNat:Int) < 128)=true:=by rw [UInt8.lt_iff_toNat_lt] at h128; simp at h128 ⊢; omega
   have h2:sliceSOf (.str (a ::r)) (some (some 1)) (some none)=some (.str r):=sliceS_lo (s:=a ::r) (i:=1) (by omega) (by simp; omega)
   have hr:vu r=vu s0:=by rw [←hs,vu_low h128]
   have go: ∀(s':Bs) (fr':Fr) (σ':Store),s'.length≤r.length→vu s'=vu s0→keep [0] fr'= [(0,AV.str s')]→_:=fun s' fr' σ' q1 q2 q3=>ih s' fr' σ' (by simp; omega) q2 q3
   by_cases c1:8 < r.length
   ·have d1:decide (8 < (r.length:Int))=true:=by simp; omega
    have w1:=r_wd (s:=r) (by omega)
    by_cases z1:wd r &&& hiB=0#64
    ·have zz1:=zT z1
     have v1:vu (r.drop 8)=vu s0:=by rw [vu_eight (by omega) z1]; exact hr
     have h3:sliceSOf (.str r) (some (some 8)) (some none)=some (.str (r.drop 8)):=sliceS_lo (i:=8) (by omega) (by omega)
     generalize hr8:r.drop 8=r8 at v1 h3
     have hlen8:r8.length=r.length - 8:=by rw [←hr8]; simp
     by_cases c2:16 < r8.length
     ·have d2:decide (16 < (r8.length:Int))=true:=by simp; omega
      have w2:=r_wd (s:=r8) (by omega)
      have h4:sliceSOf (.str r8) (some (some 8)) (some none)=some (.str (r8.drop 8)):=sliceS_lo (i:=8) (by omega) (by omega)
      have w3:=r_wd (s:=r8.drop 8) (by simp; omega)
      by_cases z2:(wd r8 ||| wd (r8.drop 8)) &&& hiB=0#64
      ·have zz2:=zT z2
       have v2:vu ((r8.drop 8).drop 8)=vu s0:=by
        rw [vu_eight (by simp; omega) (or_hi z2).2,vu_eight (by omega) (or_hi z2).1]; exact v1
       have h5:sliceSOf (.str r8) (some (some 16)) (some none)=some (.str (r8.drop 16)):=sliceS_lo (i:=16) (by omega) (by omega)
       rw [List.drop_drop] at v2
       simp only [T3Fb,ex_loop,EXA,seval,hl,ha,h1,h2,d1,w1,or_u64,and_hi,zz1,h3,d2,w2,w3,h4,zz2,h5]
       refine ex_whileI (S:=Bs) (fun s=> [(0, .str s)]) (fun s=>s.length) (fun s _=>vu s=vu s0∧s.length≤r.length) ?_ _ _ ⟨v2,by simp; omega⟩
       intro b2 s2 σ2 ⟨hs2,hle2⟩ ih2
       by_cases c3:32 < s2.length
       ·have d3:decide (32 < (s2.length:Int))=true:=by simp; omega
        have e1:=r_wd (s:=s2) (by omega)
        have e2:=r_wd (s:=s2.drop 8) (by simp; omega)
        have e3:=r_wd (s:=s2.drop 16) (by simp; omega)
        have e4:=r_wd (s:=s2.drop 24) (by simp; omega)
        have g1:sliceSOf (.str s2) (some (some 8)) (some none)=some (.str (s2.drop 8)):=sliceS_lo (i:=8) (by omega) (by omega)
        have g2:sliceSOf (.str s2) (some (some 16)) (some none)=some (.str (s2.drop 16)):=sliceS_lo (i:=16) (by omega) (by omega)
        have g3:sliceSOf (.str s2) (some (some 24)) (some none)=some (.str (s2.drop 24)):=sliceS_lo (i:=24) (by omega) (by omega)
        have g4:sliceSOf (.str s2) (some (some 32)) (some none)=some (.str (s2.drop 32)):=sliceS_lo (i:=32) (by omega) (by omega)
        by_cases z3:((wd s2 ||| wd (s2.drop 8)) ||| (wd (s2.drop 16) ||| wd (s2.drop 24))) &&& hiB=0#64
        ·have zz3:=zT z3
         simp only [T3Fa,EXA,seval,d3,e1,e2,e3,e4,g1,g2,g3,g4,or_u64,and_hi,zz3]
         refine ih2 (s2.drop 32) _ _ (by simp; omega) ⟨?_,by simp; omega⟩ (by simp only [EXA,seval])
         have y1:=or_hi (or_hi z3).1
         have y2:=or_hi (or_hi z3).2
         have u1:vu ((((s2.drop 8).drop 8).drop 8).drop 8)=vu s2:=by
          have f2:(s2.drop 8).drop 8=s2.drop 16:=by rw [List.drop_drop]
          have f3:(s2.drop 16).drop 8=s2.drop 24:=by rw [List.drop_drop]
          rw [f2,f3,vu_eight (by simp; omega) y2.2,←f3,vu_eight (by simp; omega) y2.1,←f2,vu_eight (by simp; omega) y1.2,vu_eight (by omega) y1.1]
         simp only [List.drop_drop] at u1
         exact u1.trans hs2
        ·have zz3:=zF z3
         simp only [T3Fa,EXA,seval,d3,e1,e2,e3,e4,g1,g2,g3,or_u64,and_hi,zz3]
         exact go s2 _ _ hle2 hs2 (by simp only [EXA,seval])
       ·have d3:decide (32 < (s2.length:Int))=false:=by simp; omega
        simp only [T3Fa,EXA,seval,d3]
        exact go s2 _ _ hle2 hs2 (by simp only [EXA,seval])
      ·have zz2:=zF z2
       simp only [T3Fb,EXA,seval,hl,ha,h1,h2,d1,w1,or_u64,and_hi,zz1,h3,d2,w2,w3,h4,zz2]
       exact go r8 _ _ (by omega) v1 (by simp only [EXA,seval])
     ·have d2:decide (16 < (r8.length:Int))=false:=by simp; omega
      simp only [T3Fb,EXA,seval,hl,ha,h1,h2,d1,w1,and_hi,zz1,h3,d2]
      exact go r8 _ _ (by omega) v1 (by simp only [EXA,seval])
    ·have zz1:=zF z1
     simp only [T3Fb,EXA,seval,hl,ha,h1,h2,d1,w1,and_hi,zz1]
     exact go r _ _ (by omega) hr (by simp only [EXA,seval])
   ·have d1:decide (8 < (r.length:Int))=false:=by simp; omega
    simp only [T3Fb,EXA,seval,hl,ha,h1,h2,d1]
    exact go r _ _ (by omega) hr (by simp only [EXA,seval])
  ·have h1:decide ((a.toNat:Int) < 128)=false:=by rw [d8a]; simp; exact UInt8.not_lt.1 h128
   have hge:128≤a:=UInt8.not_lt.1 h128
   obtain ⟨s2,s3,s4,sw,s1⟩:=x7_sz a hge
   obtain ⟨a1,a2,a3⟩:=acc_lo a hge
   have i1:=idx_acc a1 a2
   have i2:=read_acc (n:=(x4 a).toNat) (by omega)
   have vu_eq:=vu_cons a r
   rw [if_neg s1] at vu_eq
   rw [vu_eq] at hs
   by_cases c2:szN a=2
   ·have q2:(x7 a == 2)=true:=by simp [s2,c2]
    obtain ⟨l1,l2⟩:=a3 (by omega)
    rw [if_pos c2] at hs
    by_cases hn:r.length < 1
    ·have dn:decide (((r.length+1:Nat):Int) < 2)=true:=by simp; omega
     have hf:vu s0=false:=by
      rw [←hs]
      split
      ·exact absurd hn (by simp)
      ·rfl
     simp only [T3Fc,EXA,seval,hl,ha,h1,gU0,gU1,idx_first,gFirst_get,x7_eq,sw,sh4,i1,i2,l1,l2,q2,dn,hf]
    ·obtain ⟨b1,rr,hr⟩ : ∃b1 rr,r=b1 ::rr:=by
      match r,hn with
      | b1 ::rr,_=>exact ⟨b1,rr,rfl⟩
      | [],hn=>exact absurd (by simp) hn
     have dn:decide (((r.length+1:Nat):Int) < 2)=false:=by simp; omega
     have y1:byteAt (.str (a ::r)) (.int .i64 1)=some (.int .u8 b1.toNat):=by rw [hr]; rfl
     have ys:sliceSOf (.str (a ::r)) (some (some 2)) (some none)=some (.str rr):=by rw [hr]; exact sliceS_lo (s:=a ::b1 ::rr) (i:=2) (by omega) (by simp; omega)
     rw [hr] at hs
     simp only at hs
     have ihr:=fun (hv:vu rr=vu s0) (fr':Fr) (σ':Store) (hk:keep [0] fr'= [(0,AV.str rr)])=>ih rr fr' σ' (by rw [hr]; simp; omega) hv hk
     simp only [T3Fc,EXA,seval,hl,ha,h1,gU0,gU1,idx_first,gFirst_get,x7_eq,sw,sh4,i1,i2,l1,l2,q2,dn,y1,ys,d8]
     repeat' split
     all_goals first | (simp_all [in2]; done) | exact ihr (by simp_all [in2]) _ _ (by simp only [EXA,seval])
   have q2:(x7 a == 2)=false:=by simp [s2,c2]
   by_cases c3:szN a=3
   ·have q3:(x7 a == 3)=true:=by simp [s3,c3]
    obtain ⟨l1,l2⟩:=a3 (by omega)
    rw [if_neg c2] at hs
    rw [if_pos c3] at hs
    by_cases hn:r.length < 2
    ·have dn:decide (((r.length+1:Nat):Int) < 3)=true:=by simp; omega
     have hf:vu s0=false:=by
      rw [←hs]
      split
      ·exact absurd hn (by simp)
      ·rfl
     simp only [T3Fc,EXA,seval,hl,ha,h1,gU0,gU1,idx_first,gFirst_get,x7_eq,sw,sh4,i1,i2,l1,l2,q2,q3,dn,hf]
    ·obtain ⟨b1,b2,rr,hr⟩ : ∃b1 b2 rr,r=b1 ::b2 ::rr:=by
      match r,hn with
      | b1 ::b2 ::rr,_=>exact ⟨b1,b2,rr,rfl⟩
      | [b1],hn=>exact absurd (by simp) hn
      | [],hn=>exact absurd (by simp) hn
     have dn:decide (((r.length+1:Nat):Int) < 3)=false:=by simp; omega
     have y1:byteAt (.str (a ::r)) (.int .i64 1)=some (.int .u8 b1.toNat):=by rw [hr]; rfl
     have y2:byteAt (.str (a ::r)) (.int .i64 2)=some (.int .u8 b2.toNat):=by rw [hr]; rfl
     have ys:sliceSOf (.str (a ::r)) (some (some 3)) (some none)=some (.str rr):=by rw [hr]; exact sliceS_lo (s:=a ::b1 ::b2 ::rr) (i:=3) (by omega) (by simp; omega)
     rw [hr] at hs
     simp only at hs
     have ihr:=fun (hv:vu rr=vu s0) (fr':Fr) (σ':Store) (hk:keep [0] fr'= [(0,AV.str rr)])=>ih rr fr' σ' (by rw [hr]; simp; omega) hv hk
     simp only [T3Fc,EXA,seval,hl,ha,h1,gU0,gU1,idx_first,gFirst_get,x7_eq,sw,sh4,i1,i2,l1,l2,q2,q3,dn,y1,y2,ys,d8,d8a,d8b]
     repeat' split
     all_goals first | (simp_all [in2,ct]; done) | exact ihr (by simp_all [in2,ct]) _ _ (by simp only [EXA,seval])
   have q3:(x7 a == 3)=false:=by simp [s3,c3]
   by_cases c4:szN a=4
   ·have q4:(x7 a == 4)=true:=by simp [s4,c4]
    obtain ⟨l1,l2⟩:=a3 (by omega)
    rw [if_neg c2] at hs
    rw [if_neg c3] at hs
    rw [if_pos c4] at hs
    by_cases hn:r.length < 3
    ·have dn:decide (((r.length+1:Nat):Int) < 4)=true:=by simp; omega
     have hf:vu s0=false:=by
      rw [←hs]
      split
      ·exact absurd hn (by simp)
      ·rfl
     simp only [T3Fc,EXA,seval,hl,ha,h1,gU0,gU1,idx_first,gFirst_get,x7_eq,sw,sh4,i1,i2,l1,l2,q2,q3,q4,dn,hf]
    ·obtain ⟨b1,b2,b3,rr,hr⟩ : ∃b1 b2 b3 rr,r=b1 ::b2 ::b3 ::rr:=by
      match r,hn with
      | b1 ::b2 ::b3 ::rr,_=>exact ⟨b1,b2,b3,rr,rfl⟩
      | [b1],hn=>exact absurd (by simp) hn
      | [b1,b2],hn=>exact absurd (by simp) hn
      | [],hn=>exact absurd (by simp) hn
     have dn:decide (((r.length+1:Nat):Int) < 4)=false:=by simp; omega
     have y1:byteAt (.str (a ::r)) (.int .i64 1)=some (.int .u8 b1.toNat):=by rw [hr]; rfl
     have y2:byteAt (.str (a ::r)) (.int .i64 2)=some (.int .u8 b2.toNat):=by rw [hr]; rfl
     have y3:byteAt (.str (a ::r)) (.int .i64 3)=some (.int .u8 b3.toNat):=by rw [hr]; rfl
     have ys:sliceSOf (.str (a ::r)) (some (some 4)) (some none)=some (.str rr):=by rw [hr]; exact sliceS_lo (s:=a ::b1 ::b2 ::b3 ::rr) (i:=4) (by omega) (by simp; omega)
     rw [hr] at hs
     simp only at hs
     have ihr:=fun (hv:vu rr=vu s0) (fr':Fr) (σ':Store) (hk:keep [0] fr'= [(0,AV.str rr)])=>ih rr fr' σ' (by rw [hr]; simp; omega) hv hk
     simp only [T3Fc,EXA,seval,hl,ha,h1,gU0,gU1,idx_first,gFirst_get,x7_eq,sw,sh4,i1,i2,l1,l2,q2,q3,q4,dn,y1,y2,y3,ys,d8,d8a,d8b]
     repeat' split
     all_goals first | (simp_all [in2,ct]; done) | exact ihr (by simp_all [in2,ct]) _ _ (by simp only [EXA,seval])
   have q4:(x7 a == 4)=false:=by simp [s4,c4]
   rw [if_neg c2,if_neg c3,if_neg c4] at hs
   have hf:=hs.symm
   simp only [T3Fc,EXA,seval,hl,ha,h1,gU0,gU1,idx_first,gFirst_get,x7_eq,sw,sh4,i1,i2,q2,q3,q4,hf]
end Go.Ab
