/- What functions of the program, and of the library, answer. Conditions: none. -/
import Derived.Test.YtgfeimceppggcaaGreatDoorLaw7
import Derived.Test.YtgfeimceppggcaaGreatDoorLaw4
set_option linter.unusedVariables false
set_option linter.unusedSimpArgs false
set_option linter.defProp false
set_option linter.unnecessarySimpa false
namespace Go.Ab
set_option maxRecDepth 100000
set_option maxHeartbeats 1000000
def D15Fe:=J @qA.eq_1 (J @ni.eq_1 (J @nh.eq_1 (J @uD.eq_1 (J @m9.eq_1 (J @m8.eq_1 (J @m7.eq_1 (J @m6.eq_1 (J @m5.eq_1 (J @mZ.eq_1 (J @kR.eq_1 (J @mA.eq_1 (J @kQ.eq_1 (J @kP.eq_1 (@D8.eq_1))))))))))))))
def D15Ff:=J @qA.eq_1 (J @ni.eq_1 (J @nh.eq_1 (J @uD.eq_1 (J @m9.eq_1 (J @m8.eq_1 (J @xX.eq_1 (J @m7.eq_1 (J @m6.eq_1 (J @m5.eq_1 (J @mZ.eq_1 (J @kR.eq_1 (J @mA.eq_1 (J @kQ.eq_1 (J @kP.eq_1 (@D8.eq_1)))))))))))))))
theorem QR (v:V8):v.cells.length=8:=rfl
theorem Lj (v:V8):v.cells.take 8=v.cells:=rfl
theorem Lk (v:V8):v.cells.drop 8= []:=rfl
theorem QQ (v:V8):v.cells.all AV.one=true:=rfl
theorem Oo {s:aw} (hn:s.length < 1099511627776):cR 304 [bN s]=some (bD (aB s)):=by
 have hp:=Ot hn
 have hK:=Rx
 have hH:=RB
 have hlenP:=tu s
 have hT:=qH s.length
 generalize hP:fJ s=P at*
 have YR:aB s=I2 (ny KK (ld s.length / 128) HH P):=by rw [aB,hP]
 rw [YR]
 have hKl:KK.length=80:=rfl
 have hKc:(KK.map U).length=80:=rfl
 have hKt:(KK.map U).take 80=KK.map U:=rfl
 have hKo:(KK.map U).all AV.one=true:=rfl
 generalize hks:KK.map U=ks at*
 generalize hN:ld s.length / 128=N at*
 have hNb:N < 17179869184:=by omega
 generalize hR:ny KK N HH P=R at*
 refine aG (F:=D8) rfl ?_
 simp only [qA,ni,nh,m9,m8,m7,m6,m5,mZ,kR,kQ,kP,D8,az,seval,ae,ax,bN,aC,bF,hK,hH,hp,hKc,hKt,hKo,QR,Lj,Lk,QQ]
 refine aP (S:=Nat×V8) (fun q=> [(2, .ptr 0 0),(3, .ptr 1 0),(4, .ptr 2 0),(5,bN P),(6, .int .i64 ((128*q.1:Nat):Int))]) (fun q=>N - q.1)
  (fun q σ'=>look σ'.m 2=some (.own q.2.cells)/\look σ'.m 1=some (.own ks)/\look σ'.m 0=some (.own (List.replicate 64 (.int .u8 0)))/\3<=σ'.next/\q.1<=N/\ny KK (N - q.1) q.2 (P.drop (128*q.1))=R) ?_ (0,HH) _ ⟨rfl,rfl,rfl,aD _,Nat.zero_le _,hR⟩
 rintro B ⟨i,v⟩ σ1 ⟨g2,g1,g0,g3,g4,g5⟩ ih
 simp only at g2 g1 g0 g3 g4 g5 ih
 by_cases hi:i=N
 ·have aR:decide (((128*i:Nat):Int) < (P.length:Int))=false:=decide_eq_false aa
  have hv:v=R:=by
   rw [hi,Nat.sub_self] at g5; exact g5
  rw [←hv]
  have fV: ¬σ1.next=0:=by omega
  have hne2: ¬σ1.next=2:=by omega
  rw [Sw]
  unfold V8.cells at g2
  simp only [List.replicate] at g0
  clear ih YR hv
  simp only [bD,af,List.map_cons,List.map_nil]
  simp only [qA,ni,nh,m9,m8,m7,m6,m5,mZ,kR,mA,kQ,kP,H4,D8,az,seval,ae,ax,aN,bN,aM,aR,@aU,@br,U,g2,g0,fV,hne2,@Ba,wb8]
 ·have aR:decide (((128*i:Nat):Int) < (P.length:Int))=true:=decide_eq_true aa
  have hw0: ¬σ1.next=0:=by omega
  have uK: ¬σ1.next=1:=by omega
  have zz: ¬σ1.next=2:=by omega
  have C9:((P.drop (128*i)).take 128).length=128:=by rw [bU,fw]; omega
  have hsat: ∀j,j < 128->((P.drop (128*i)).take 128)[j]? =P[128*i+j]? :=fun j hj=>by
   rw [List.getElem?_take,if_pos hj,List.getElem?_drop]
  have YY:ny KK (N - (i+1)) (O0 KK v ((P.drop (128*i)).take 128)) (P.drop (128*(i+1)))=R:=by
   rw [←g5,show N - i=N - (i+1)+1 by omega,ny,List.drop_drop,show 128*i+128=128*(i+1) by omega]
  generalize (P.drop (128*i)).take 128=T at*
  simp only [qA,ni,nh,m9,m8,m7,m6,m5,mZ,kR,mA,kQ,kP,D8,az,seval,ae,bN,aM,aR,ax]
  refine aP (S:=Nat) (fun j=> [(2, .ptr 0 0),(3, .ptr 1 0),(4, .ptr 2 0),(5,bN P),(6, .int .i64 ((128*i:Nat):Int)),(7, .ptr σ1.next 0),(8, .int .i64 (j:Int))]) (fun j=>128 - j)
   (fun j σ'=>look σ'.m 2=some (.own v.cells)/\look σ'.m 1=some (.own ks)/\look σ'.m 0=some (.own (List.replicate 64 (.int .u8 0)))/\look σ'.m σ1.next=some (.own (Qj T j))/\σ1.next < σ'.next/\j<=128) ?_ 0 _ ?_
  ·rintro B1 j σ2 ⟨k2,k1,k0,kw,kn,kj⟩ ih1
   by_cases hj:j=128
   ·subst hj
    rw [Ww] at kw
    have Y1:decide (((128:Nat):Int) < 128)=false:=rfl
    clear ih1
    simp only [D15Fe,az,seval,ae,Y1,ax]
    refine aP (S:=Nat) (fun j=> [(2, .ptr 0 0),(3, .ptr 1 0),(4, .ptr 2 0),(5,bN P),(6, .int .i64 ((128*i:Nat):Int)),(7, .ptr σ1.next 0),(9, .int .i64 (j:Int))]) (fun j=>80 - j)
     (fun j σ'=>look σ'.m 2=some (.own v.cells)/\look σ'.m 1=some (.own ks)/\look σ'.m 0=some (.own (List.replicate 64 (.int .u8 0)))/\look σ'.m σ1.next=some (.own (wP T j))/\σ1.next < σ'.next/\16<=j/\j<=80) ?_ 16 _ ⟨k2,k1,k0,kw,kn,aD _,by decide⟩
    rintro B2 j σ3 ⟨l2,l1,l0,lw,ln,lj,lk⟩ iY
    by_cases Y3:j=80
    ·subst Y3
     have Ic:decide (((80:Nat):Int) < 80)=false:=rfl
     have hu: ¬σ3.next=σ1.next:=by omega
     have hu': ¬σ1.next=σ3.next:=by omega
     have hu0: ¬σ3.next=0:=by omega
     have hu1: ¬σ3.next=1:=by omega
     have hu2: ¬σ3.next=2:=by omega
     have hu2': ¬2=σ3.next:=by omega
     clear iY
     simp only [D15Ff,az,seval,ae,Ic,ax,l2,hu2,QR,Lj,Lk,QQ]
     refine aP (S:=Nat) (fun j=> [(2, .ptr 0 0),(3, .ptr 1 0),(4, .ptr 2 0),(5,bN P),(6, .int .i64 ((128*i:Nat):Int)),(7, .ptr σ1.next 0),(12, .ptr σ3.next 0),(13, .int .i64 (j:Int))]) (fun j=>80 - j)
      (fun j σ'=>look σ'.m 2=some (.own v.cells)/\look σ'.m 1=some (.own ks)/\look σ'.m 0=some (.own (List.replicate 64 (.int .u8 0)))/\look σ'.m σ1.next=some (.own (wP T 80))/\look σ'.m σ3.next=some (.own (gX v ((mF (ku T 80) KK).take j)).cells)/\σ3.next < σ'.next/\j<=80) ?_ 0 _ ?_
     ·rintro B3 j σ4 ⟨m2,m1,m0,mw,mu,mn,mj⟩ ih3
      by_cases hj3:j=80
      ·subst hj3
       have hL:(mF (ku T 80) KK).length=80:=by rw [mF,List.length_zipWith,jd,hKl]; rfl
       rw [aJ aa] at mu
       have hmix:O0 KK v T=v.add (gX v (mF (ku T 80) KK)):=rfl
       rw [hmix] at YY
       generalize gX v (mF (ku T 80) KK)=r at*
       unfold V8.cells at m2 mu
       have wp:IntKind.wrap .i64 (((128*i:Nat):Int)+128)=((128*(i+1):Nat):Int):=by rw [aU aa aa]; omega
       clear ih3
       simp only [qA,ni,nh,uD,m9,m8,xX,m7,m6,D7,m5,mZ,Nk,kR,mA,kQ,kP,D8,az,seval,ae,Ic,ax,aN,@aU,@br,m2,mu,hu2,hu2',U,lL,wp]
       refine aN.1 (ih (i+1,v.add r) [(2, .ptr 0 0),(3, .ptr 1 0),(4, .ptr 2 0),(5,bN P),(6, .int .i64 ((128*(i+1):Nat):Int))] _ (by show N - (i+1) < N - i; omega) ⟨?_,?_,?_,?_,by show i+1<=N; omega,YY⟩ rfl)
       ·simp [look,V8.cells,V8.add]
       ·simpa [look] using m1
       ·simpa [look] using m0
       ·show 3<=σ4.next; omega
      ·have hl3:decide ((j:Int) < 80)=true:=decide_eq_true aa
       have w2:IntKind.wrap .i64 ((j:Int)+1)=((j+1:Nat):Int):=by rw [aU aa aa]; omega
       have hx3:=iM (k:= .i64) (n:=80) (b:=1) (j:=j) aa
       have hx7:=iM (k:= .i64) (n:=80) (b:=σ1.next) (j:=j) aa
       have iS:=nj T (i:=80) (j:=j) aa
       obtain ⟨y,hy⟩ : ∃y,KK[j]? =some y:=⟨KK[j]'(by omega),bx aa⟩
       have hym:ks[j]? =some (U y):=by rw [←hks,bV,hy]; rfl
       have hL:(mF (ku T 80) KK)[j]? =some ((ku T 80).getD j 0+y):=by
        have hw:(ku T 80)[j]? =some ((ku T 80).getD j 0):=by
         rw [bc,bx (by rw [jd]; omega)]; rfl
        rw [mF,List.getElem?_zipWith,hw,hy]
       have Gc:(mF (ku T 80) KK).take (j+1)=(mF (ku T 80) KK).take j ++ [(ku T 80).getD j 0+y]:=by
        have hi:=(bI.1 hL).1
        rw [fM hi,(bI.1 hL).2]
       have sF:gX v ((mF (ku T 80) KK).take (j+1))=Bb (gX v ((mF (ku T 80) KK).take j)) ((ku T 80).getD j 0+y):=by
        rw [Gc,su]; rfl
       rw [WO] at sF
       generalize (ku T 80).getD j 0=w at*
       generalize gX v ((mF (ku T 80) KK).take j)=u at*
       have r1 {y:UInt64}:=jx (x:=y) (k:=50) (j:=50) (by kernel_rfl) (by decide) (by decide)
       have r2 {y:UInt64}:=jx (x:=y) (k:=46) (j:=46) (by kernel_rfl) (by decide) (by decide)
       have r3 {y:UInt64}:=jx (x:=y) (k:=23) (j:=23) (by kernel_rfl) (by decide) (by decide)
       have r4 {y:UInt64}:=jx (x:=y) (k:=36) (j:=36) (by kernel_rfl) (by decide) (by decide)
       have r5 {y:UInt64}:=jx (x:=y) (k:=30) (j:=30) (by kernel_rfl) (by decide) (by decide)
       have r6 {y:UInt64}:=jx (x:=y) (k:=25) (j:=25) (by kernel_rfl) (by decide) (by decide)
       unfold V8.cells at mu
       simp only [U] at iS hym r1 r2 r3 r4 r5 r6 mu
       clear ih YY g5
       simp only [qA,ni,nh,uD,m9,m8,xX,m7,m6,D7,m5,mZ,kR,mA,kQ,kP,D8,az,seval,ae,hl3,w2,hx3,hx7,iS,hym,m1,mw,mu,@br,r1,r2,r3,r4,r5,r6,w_not,lL,ib,pK,EX,gH]
       refine ih3 (j+1) _ _ (by show 80 - (j+1) < 80 - j; omega) ⟨?_,?_,?_,?_,?_,mn,by omega⟩ rfl
       ·simpa [look,hu2] using m2
       ·simpa [look,hu1] using m1
       ·simpa [look,hu0] using m0
       ·simpa [look,hu] using mw
       ·rw [sF]; simp [look,V8.cells]
     ·refine ⟨?_,?_,?_,?_,?_,aV _,by decide⟩
      ·simpa [look,hu2] using l2
      ·simpa [look,hu1] using l1
      ·simpa [look,hu0] using l0
      ·simpa [look,hu] using lw
      ·simp [look,gX]
    ·have aR:decide ((j:Int) < 80)=true:=decide_eq_true aa
     have w2:IntKind.wrap .i64 ((j:Int)+1)=((j+1:Nat):Int):=by rw [aU aa aa]; omega
     have v15:IntKind.wrap .i64 ((j:Int) - 15)=((j - 15:Nat):Int):=by rw [aU aa aa]; omega
     have v2:IntKind.wrap .i64 ((j:Int) - 2)=((j - 2:Nat):Int):=by rw [aU aa aa]; omega
     have v16:IntKind.wrap .i64 ((j:Int) - 16)=((j - 16:Nat):Int):=by rw [aU aa aa]; omega
     have v7:IntKind.wrap .i64 ((j:Int) - 7)=((j - 7:Nat):Int):=by rw [aU aa aa]; omega
     have hx:=iM (k:= .i64) (n:=80) (b:=σ1.next) (j:=j) aa
     have hx15:=iM (k:= .i64) (n:=80) (b:=σ1.next) (j:=j - 15) aa
     have nV:=iM (k:= .i64) (n:=80) (b:=σ1.next) (j:=j - 2) aa
     have hx16:=iM (k:= .i64) (n:=80) (b:=σ1.next) (j:=j - 16) aa
     have hx7:=iM (k:= .i64) (n:=80) (b:=σ1.next) (j:=j - 7) aa
     have a15:=nj T (i:=j) (j:=j - 15) aa
     have a2:=nj T (i:=j) (j:=j - 2) aa
     have a16:=nj T (i:=j) (j:=j - 16) aa
     have a7:=nj T (i:=j) (j:=j - 7) aa
     have hlen:=w7 T lk
     have kF:=Cr T (i:=j) aa (QE T aa)
     have h79:j<=79:=by omega
     have r1 {y:UInt64}:=jx (x:=y) (k:=63) (j:=63) (by kernel_rfl) (by decide) (by decide)
     have r2 {y:UInt64}:=jx (x:=y) (k:=56) (j:=56) (by kernel_rfl) (by decide) (by decide)
     have r3 {y:UInt64}:=jx (x:=y) (k:=45) (j:=45) (by kernel_rfl) (by decide) (by decide)
     have r4 {y:UInt64}:=jx (x:=y) (k:=3) (j:=3) (by kernel_rfl) (by decide) (by decide)
     have sr7 (x:UInt64):bk .shr .u64 (x.toNat:Int) 7=some (U (x >>> 7)):=rE x 7 (by decide)
     have sr6 (x:UInt64):bk .shr .u64 (x.toNat:Int) 6=some (U (x >>> 6)):=rE x 6 (by decide)
     rw [Yp,jd] at kF
     simp only [Q6,Q5] at kF
     simp only [U] at kF a15 a2 a16 a7 r1 r2 r3 r4 sr7 sr6
     clear ih YY g5
     simp only [D15Ff,az,seval,ae,aR,w2,v15,v2,v16,v7,hx,hx15,nV,hx16,hx7,lw,a15,a2,a16,a7,hlen,r1,r2,r3,r4,sr7,sr6,lL,EX,gH,h79,kF]
     refine iY (j+1) _ _ (by show 80 - (j+1) < 80 - j; omega) ⟨?_,?_,?_,by simp [look],ln,by omega,by omega⟩ rfl
     ·simpa [look,zz] using l2
     ·simpa [look,uK] using l1
     ·simpa [look,hw0] using l0
   ·have Y1:decide ((j:Int) < 128)=true:=decide_eq_true aa
    have w2:IntKind.wrap .i64 ((j:Int)+1)=((j+1:Nat):Int):=by rw [aU aa aa]; omega
    have ER:Int.tdiv (j:Int) 8=((j / 8:Nat):Int):=rfl
    have hq:IntKind.wrap .i64 ((j / 8:Nat):Int)=((j / 8:Nat):Int):=aU aa aa
    have hx:=iM (k:= .i64) (n:=80) (b:=σ1.next) (j:=j / 8) aa
    have iS:=wsB_at T (j:=j) (q:=j / 8) aa
    rw [WA] at iS
    have hadd:IntKind.wrap .i64 (((128*i:Nat):Int)+(j:Int))=((128*i+j:Nat):Int):=by rw [aU aa aa]; omega
    obtain ⟨c,hc⟩ : ∃c,P[128*i+j]? =some c:=⟨P[128*i+j]'(by omega),bx aa⟩
    have kF:=Wu T (j:=j) (c:=c) aa (by rw [hsat j aa,hc])
    have Qs:(af P)[128*i+j]? =some (.int .u8 (c.toNat:Int)):=by rw [af,bV,hc]; rfl
    have rH:=mS (sz:=1) (c:=none) Qs rfl
    generalize Qv ((T.drop (8*(j / 8))).take (j % 8))=x at*
    have V0:bk .shl .u64 (x.toNat:Int) 8=some (U (x <<< 8)):=AM x 8 (by decide)
    have hlen:=Wv T j
    have h79:j / 8<=79:=by omega
    simp only [U] at iS kF V0
    simp only [AV.cells] at rH
    clear ih YY g5
    simp only [D15Fe,az,seval,ae,Y1,w2,ER,hq,hx,kw,iS,hlen,V0,hadd,rH,ot,pK,gH,h79,kF]
    refine ih1 (j+1) _ _ (by show 128 - (j+1) < 128 - j; omega) ⟨?_,?_,?_,by simp [look],kn,by omega⟩ rfl
    ·simpa [look,zz] using k2
    ·simpa [look,uK] using k1
    ·simpa [look,hw0] using k0
  ·refine ⟨?_,?_,?_,?_,aV _,by decide⟩
   ·simpa [look,zz] using g2
   ·simpa [look,uK] using g1
   ·simpa [look,hw0] using g0
   ·rw [QF]; simp [look,List.replicate]
theorem IF {a:aw} {rest:List (aw)} (hr:0 < rest.length) (Ql:rest.length < 1099511627776) (h0:0 < a.length) (hn:(a ::rest).flatten.length < 1099511627776) :
  cR 226 [.vsl ((a ::rest).map bN) none]=some (bD (toLE 32 (bE (aB (a ::rest).flatten) % LL))):=by
 have hs:=r_shaN hr Ql h0 hn
 have hO:=r_ofL (lT (a ::rest).flatten)
 have gh:=lI (a ::rest)
 have JC:=Ai (a ::rest)
 generalize (a ::rest).map bN=l at*
 have h64:=lT (a ::rest).flatten
 generalize aB (a ::rest).flatten=H at*
 have hl:(af H).length=64:=by rw [aM,h64]
 have ht:(af H).take 64=af H:=aJ aa
 have hL:=aX 32 (bE H % LL)
 generalize toLE 32 (bE H % LL)=v at*
 have tX:(af v).length=32:=by rw [aM,hL]
 have AF:(af v).take 32=af v:=aJ aa
 have hP (σ:ag) (h:look σ.m 1=some (.own (af H))):gf cA gU false (.fn 279 [] []) [.sl 1 0 64 1 (some 64)] σ=some (bD v,σ):=
  qw (off:=0) (n:=64) h aa (aC _) (by
   have:=cp H
   rw [bG] at this ⊢
   intro x hx; have:=this x hx
   cases x <;> simp_all [AV.one,AV.notAgg]) (by rw [List.drop_zero,ht,bF]) (by rw [List.drop_zero,ht]; exact hO) (by simp only [bD,AV.flat,lr])
 refine aG (F:=F226) rfl ?_
 simp only [bD] at hs hP ⊢
 simp only [F226,az,seval,ae,@eJ,pA,gh,JC,hs,hl,ht,hP,tX,AF,cp,aC,bF]
theorem Ml (b0 b1 b2 b3 b4 b5 b6 b7 b8 b9 dV dU dS dR dQ dP dy dO dN dM dL dJ dI dH dz dG dF dE dD dC dB dA:UInt8):bE [b0,b1,b2,b3,b4,b5,b6,b7,b8,b9,dV,dU,dS,dR,dQ,dP,dy,dO,dN,dM,dL,dJ,dI,dH,dz,dG,dF,dE,dD,dC,dB,dA]=b0.toNat+256*bE [b1,b2,b3,b4,b5,b6,b7,b8,b9,dV,dU,dS,dR,dQ,dP,dy,dO,dN,dM,dL,dJ,dI,dH,dz,dG,dF,dE,dD,dC,dB]+2 ^ 248*dA.toNat:=by
 have e1:bE [dA]=dA.toNat:=by simp [bE]
 rw [bE,show [b1,b2,b3,b4,b5,b6,b7,b8,b9,dV,dU,dS,dR,dQ,dP,dy,dO,dN,dM,dL,dJ,dI,dH,dz,dG,dF,dE,dD,dC,dB,dA]= [b1,b2,b3,b4,b5,b6,b7,b8,b9,dV,dU,dS,dR,dQ,dP,dy,dO,dN,dM,dL,dJ,dI,dH,dz,dG,dF,dE,dD,dC,dB] ++ [dA] from rfl,tP,e1,show [b1,b2,b3,b4,b5,b6,b7,b8,b9,dV,dU,dS,dR,dQ,dP,dy,dO,dN,dM,dL,dJ,dI,dH,dz,dG,dF,dE,dD,dC,dB].length=30 from rfl,show (256:Nat) ^ 30=2 ^ 240 by decide]
 omega
theorem w_248 (b:UInt8):IntKind.wrap .u8 ((BitVec.ofInt (IntKind.bits .u8) (b.toNat:Int) &&& BitVec.ofInt (IntKind.bits .u8) 248).toNat:Int)=((b &&& 248).toNat:Int):=
 eq_of_beq (gE (p:=fun b=>IntKind.wrap .u8 ((BitVec.ofInt (IntKind.bits .u8) (b.toNat:Int) &&& BitVec.ofInt (IntKind.bits .u8) 248).toNat:Int) == ((b &&& 248).toNat:Int)) (by kernel_rfl) b)
theorem w_127 (b:UInt8):IntKind.wrap .u8 ((BitVec.ofInt (IntKind.bits .u8) (b.toNat:Int) &&& BitVec.ofInt (IntKind.bits .u8) 127).toNat:Int)=((b &&& 127).toNat:Int):=
 eq_of_beq (gE (p:=fun b=>IntKind.wrap .u8 ((BitVec.ofInt (IntKind.bits .u8) (b.toNat:Int) &&& BitVec.ofInt (IntKind.bits .u8) 127).toNat:Int) == ((b &&& 127).toNat:Int)) (by kernel_rfl) b)
theorem w_o64 (b:UInt8):IntKind.wrap .u8 ((BitVec.ofInt (IntKind.bits .u8) (b.toNat:Int) ||| BitVec.ofInt (IntKind.bits .u8) 64).toNat:Int)=((b ||| 64).toNat:Int):=
 eq_of_beq (gE (p:=fun b=>IntKind.wrap .u8 ((BitVec.ofInt (IntKind.bits .u8) (b.toNat:Int) ||| BitVec.ofInt (IntKind.bits .u8) 64).toNat:Int) == ((b ||| 64).toNat:Int)) (by kernel_rfl) b)
theorem n_248 (b:UInt8):(b &&& 248).toNat=b.toNat / 8*8:=eq_of_beq (gE (p:=fun b=>(b &&& 248).toNat == b.toNat / 8*8) (by kernel_rfl) b)
theorem n_top (b:UInt8):(b &&& 127 ||| 64).toNat=b.toNat % 64+64:=eq_of_beq (gE (p:=fun b=>(b &&& 127 ||| 64).toNat == b.toNat % 64+64) (by kernel_rfl) b)
theorem clamp (b0 b1 b2 b3 b4 b5 b6 b7 b8 b9 dV dU dS dR dQ dP dy dO dN dM dL dJ dI dH dz dG dF dE dD dC dB dA:UInt8): [b0 &&& 248,b1,b2,b3,b4,b5,b6,b7,b8,b9,dV,dU,dS,dR,dQ,dP,dy,dO,dN,dM,dL,dJ,dI,dH,dz,dG,dF,dE,dD,dC,dB,dA &&& 127 ||| 64]=toLE 32 (bE [b0,b1,b2,b3,b4,b5,b6,b7,b8,b9,dV,dU,dS,dR,dQ,dP,dy,dO,dN,dM,dL,dJ,dI,dH,dz,dG,dF,dE,dD,dC,dB,dA] % 2 ^ 254 / 8*8+2 ^ 254):=by
 have e:=Ml b0 b1 b2 b3 b4 b5 b6 b7 b8 b9 dV dU dS dR dQ dP dy dO dN dM dL dJ dI dH dz dG dF dE dD dC dB dA
 have e2:=Ml (b0 &&& 248) b1 b2 b3 b4 b5 b6 b7 b8 b9 dV dU dS dR dQ dP dy dO dN dM dL dJ dI dH dz dG dF dE dD dC dB (dA &&& 127 ||| 64)
 have h0:=b0.toNat_lt; have h31:=dA.toNat_lt
 have hm:bE [b1,b2,b3,b4,b5,b6,b7,b8,b9,dV,dU,dS,dR,dQ,dP,dy,dO,dN,dM,dL,dJ,dI,dH,dz,dG,dF,dE,dD,dC,dB] < 2 ^ 240:=jU (qb _) (by rw [show [b1,b2,b3,b4,b5,b6,b7,b8,b9,dV,dU,dS,dR,dQ,dP,dy,dO,dN,dM,dL,dJ,dI,dH,dz,dG,dF,dE,dD,dC,dB].length=30 from rfl])
 rw [n_248,n_top] at e2
 have key:bE [b0,b1,b2,b3,b4,b5,b6,b7,b8,b9,dV,dU,dS,dR,dQ,dP,dy,dO,dN,dM,dL,dJ,dI,dH,dz,dG,dF,dE,dD,dC,dB,dA] % 2 ^ 254 / 8*8+2 ^ 254=bE [b0 &&& 248,b1,b2,b3,b4,b5,b6,b7,b8,b9,dV,dU,dS,dR,dQ,dP,dy,dO,dN,dM,dL,dJ,dI,dH,dz,dG,dF,dE,dD,dC,dB,dA &&& 127 ||| 64]:=by
  rw [e,e2]
  generalize bE [b1,b2,b3,b4,b5,b6,b7,b8,b9,dV,dU,dS,dR,dQ,dP,dy,dO,dN,dM,dL,dJ,dI,dH,dz,dG,dF,dE,dD,dC,dB]=m at*
  omega
 rw [key]
 exact (s5 [b0 &&& 248,b1,b2,b3,b4,b5,b6,b7,b8,b9,dV,dU,dS,dR,dQ,dP,dy,dO,dN,dM,dL,dJ,dI,dH,dz,dG,dF,dE,dD,dC,dB,dA &&& 127 ||| 64]).symm
def lh (seed:aw):ai:=af (toLE 32 (nr aB seed)) ++ [bN ((aB seed).drop 32)] ++af (gu aB seed)
theorem P7:eF (bE (toLE 32 (bM cd)))=some cd:=by rw [qI,lE jf]
theorem yU {k:aw} (hk:k.length=32):cR 227 [bD k,bD (toLE 32 (bM cd))]=some (.tup [bD (toLE 32 (bM (bX cd (bE k)))), .bool true]):=by
 rw [LX hk (aX _ _),P7]; rfl
theorem N8 {σ:ag} {b:Nat} (h:pA (look σ.m b)=64):eQ σ 64 1 (.ptr b 0) none (some 32)=some (.sl b 0 32 1 (some 64)):=by
 unfold pA at h
 split at h
 ·rename_i cs e
  have hb:σ.cells b=some cs:=by unfold ag.cells ag.get; rw [e]
  simp [eQ,bounds,hb,h]
 ·omega
theorem N9 {σ:ag} {b:Nat} (h:pA (look σ.m b)=64):eQ σ 64 1 (.ptr b 0) (some 32) none=some (.sl b 32 32 1 (some 32)):=by
 unfold pA at h
 split at h
 ·rename_i cs e
  have hb:σ.cells b=some cs:=by unfold ag.cells ag.get; rw [e]
  simp [eQ,bounds,hb,h]
 ·omega
theorem zh {f:AV->Option AV}: ∀ {a b a' b':ai},cS f a=some a'->cS f b=some b'->cS f (a ++b)=some (a' ++b')
 | [],b,a',b',h1,h2=>by
  simp only [cS,ah] at h1
  subst h1; simpa using h2
 | x ::a,b,a',b',h1,h2=>by
  simp only [cS] at h1
  cases hx:f x with
  | none=>rw [hx] at h1; cases h1
  | some y=>
   rw [hx] at h1
   cases ha:cS f a with
   | none=>rw [ha] at h1; cases h1
   | some l=>
    rw [ha] at h1
    simp only [ah] at h1
    subst h1
    simp only [List.cons_append,cS,hx,zh ha h2]
theorem xD: ∀a b:ai,eP (a ++b)=eP a ++eP b
 | [],b=>by rw [dt]; rfl
 | x ::a,b=>by rw [List.cons_append,cg,cg,xD a b]; rfl
theorem gy (s:aw):(af s).all AV.notAgg=true:=by
 have:=cp s
 rw [bG] at this ⊢
 intro x hx; have:=this x hx
 cases x <;> simp_all [AV.one,AV.notAgg]
theorem W9 {σ:ag} {k c:Nat} {e:aA} {C x y:aw} (h:look σ.m k=some (.own (af x ++ [.sl c 32 32 1 e] ++af y))) (hc:look σ.m c=some (.own (af C))) (hl:C.length=64) :
  rbE σ (.ptr k 0)=some (.vptr (af x ++ [bN (C.drop 32)] ++af y) 0):=by
 have hb:σ.cells k=some (af x ++ [.sl c 32 32 1 e] ++af y):=by unfold ag.cells ag.get; rw [h]
 have e1:rb σ 23 (.sl c 32 32 1 e)=some (bN (C.drop 32)):=by
  rw [show 23=22+1 from rfl,jC hc (by rw [aM]; omega) (aC _) (gy _),Lo,aJ (by rw [aM,fw]; omega)]
 have e2:cS (rb σ 23) (af x ++ [.sl c 32 32 1 e] ++af y)=some (af x ++ [bN (C.drop 32)] ++af y):=
  zh (zh (cP (aC x)) (by rw [tJ,e1]; rfl)) (cP (aC y))
 have ncl:(AV.ptr k 0).closed=false:=by simp [AV.closed]
 unfold rbE
 rw [show bJ=23+1 from rfl]
 unfold rb
 rw [ncl]
 simp only [hb,e2]
 simp only [bh,if_false,Option.map_some,uc,xD,bF,cg,fW,dt]
theorem w_open {seed:aw} (hn:seed.length < 1099511627776) {l2:aw} (h2:l2.length=32) (b0 b1 b2 b3 b4 b5 b6 b7 b8 b9 dV dU dS dR dQ dP dy dO dN dM dL dJ dI dH dz dG dF dE dD dC dB dA:UInt8) (hH:aB seed= [b0,b1,b2,b3,b4,b5,b6,b7,b8,b9,dV,dU,dS,dR,dQ,dP,dy,dO,dN,dM,dL,dJ,dI,dH,dz,dG,dF,dE,dD,dC,dB,dA] ++l2) :
  cR 244 [bN seed]=some (.vptr (lh seed) 0):=by
 have hs:=r_sha1 hn
 have t0: ∀l:aw,l.length=32->(l ++l2).take 32=l:=fun l h=>List.take_left' h
 have d0: ∀l:aw,l.length=32->(l ++l2).drop 32=l2:=fun l h=>List.drop_left' h
 have hsec:nr aB seed=bE [b0,b1,b2,b3,b4,b5,b6,b7,b8,b9,dV,dU,dS,dR,dQ,dP,dy,dO,dN,dM,dL,dJ,dI,dH,dz,dG,dF,dE,dD,dC,dB,dA] % 2 ^ 254 / 8*8+2 ^ 254:=by
  rw [nr,hH,t0 _ rfl]
 have hk:toLE 32 (nr aB seed)= [b0 &&& 248,b1,b2,b3,b4,b5,b6,b7,b8,b9,dV,dU,dS,dR,dQ,dP,dy,dO,dN,dM,dL,dJ,dI,dH,dz,dG,dF,dE,dD,dC,dB,dA &&& 127 ||| 64]:=by rw [hsec,clamp]
 have hd:(aB seed).drop 32=l2:=by rw [hH,d0 _ rfl]
 have hB:=IN
 have hT:=yU (k:=toLE 32 (nr aB seed)) (aX _ _)
 have aR:nr aB seed < 256 ^ 32:=by
  rw [hsec]
  have:bE [b0,b1,b2,b3,b4,b5,b6,b7,b8,b9,dV,dU,dS,dR,dQ,dP,dy,dO,dN,dM,dL,dJ,dI,dH,dz,dG,dF,dE,dD,dC,dB,dA] % 2 ^ 254 < 2 ^ 254:=aZ _ (by decide)
  omega
 rw [gQ 32 _ aR] at hT
 have AW:toLE 32 (bM (bX cd (nr aB seed)))=gu aB seed:=rfl
 rw [AW,hk] at hT
 have hK:lh seed=af [b0 &&& 248,b1,b2,b3,b4,b5,b6,b7,b8,b9,dV,dU,dS,dR,dQ,dP,dy,dO,dN,dM,dL,dJ,dI,dH,dz,dG,dF,dE,dD,dC,dB,dA &&& 127 ||| 64] ++ [bN l2] ++af (gu aB seed):=by rw [lh,hk,hd]
 rw [hK]
 have AX:(gu aB seed).length=32:=aX _ _
 generalize gu aB seed=A at*
 generalize toLE 32 (bM cd)=G at*
 rw [hH] at hs
 have gh:ay [bN seed]=true:=lI [seed]
 have JC:eP [bN seed]= [bN seed]:=Ai [seed]
 clear hsec hk hd AW hK aR hH
 have hCe:af ([b0,b1,b2,b3,b4,b5,b6,b7,b8,b9,dV,dU,dS,dR,dQ,dP,dy,dO,dN,dM,dL,dJ,dI,dH,dz,dG,dF,dE,dD,dC,dB,dA] ++l2)= [.int .u8 (b0.toNat:Int), .int .u8 (b1.toNat:Int), .int .u8 (b2.toNat:Int), .int .u8 (b3.toNat:Int), .int .u8 (b4.toNat:Int), .int .u8 (b5.toNat:Int), .int .u8 (b6.toNat:Int), .int .u8 (b7.toNat:Int), .int .u8 (b8.toNat:Int), .int .u8 (b9.toNat:Int), .int .u8 (dV.toNat:Int), .int .u8 (dU.toNat:Int), .int .u8 (dS.toNat:Int), .int .u8 (dR.toNat:Int), .int .u8 (dQ.toNat:Int), .int .u8 (dP.toNat:Int), .int .u8 (dy.toNat:Int), .int .u8 (dO.toNat:Int), .int .u8 (dN.toNat:Int), .int .u8 (dM.toNat:Int), .int .u8 (dL.toNat:Int), .int .u8 (dJ.toNat:Int), .int .u8 (dI.toNat:Int), .int .u8 (dH.toNat:Int), .int .u8 (dz.toNat:Int), .int .u8 (dG.toNat:Int), .int .u8 (dF.toNat:Int), .int .u8 (dE.toNat:Int), .int .u8 (dD.toNat:Int), .int .u8 (dC.toNat:Int), .int .u8 (dB.toNat:Int), .int .u8 (dA.toNat:Int)] ++af l2:=by rw [lP]; rfl
 have hCl:([b0,b1,b2,b3,b4,b5,b6,b7,b8,b9,dV,dU,dS,dR,dQ,dP,dy,dO,dN,dM,dL,dJ,dI,dH,dz,dG,dF,dE,dD,dC,dB,dA] ++l2).length=64:=by rw [aq,h2]; rfl
 have hCd:=d0 [b0,b1,b2,b3,b4,b5,b6,b7,b8,b9,dV,dU,dS,dR,dQ,dP,dy,dO,dN,dM,dL,dJ,dI,dH,dz,dG,dF,dE,dD,dC,dB,dA] rfl
 have hC32:(af ([b0,b1,b2,b3,b4,b5,b6,b7,b8,b9,dV,dU,dS,dR,dQ,dP,dy,dO,dN,dM,dL,dJ,dI,dH,dz,dG,dF,dE,dD,dC,dB,dA] ++l2)).take 32= [.int .u8 (b0.toNat:Int), .int .u8 (b1.toNat:Int), .int .u8 (b2.toNat:Int), .int .u8 (b3.toNat:Int), .int .u8 (b4.toNat:Int), .int .u8 (b5.toNat:Int), .int .u8 (b6.toNat:Int), .int .u8 (b7.toNat:Int), .int .u8 (b8.toNat:Int), .int .u8 (b9.toNat:Int), .int .u8 (dV.toNat:Int), .int .u8 (dU.toNat:Int), .int .u8 (dS.toNat:Int), .int .u8 (dR.toNat:Int), .int .u8 (dQ.toNat:Int), .int .u8 (dP.toNat:Int), .int .u8 (dy.toNat:Int), .int .u8 (dO.toNat:Int), .int .u8 (dN.toNat:Int), .int .u8 (dM.toNat:Int), .int .u8 (dL.toNat:Int), .int .u8 (dJ.toNat:Int), .int .u8 (dI.toNat:Int), .int .u8 (dH.toNat:Int), .int .u8 (dz.toNat:Int), .int .u8 (dG.toNat:Int), .int .u8 (dF.toNat:Int), .int .u8 (dE.toNat:Int), .int .u8 (dD.toNat:Int), .int .u8 (dC.toNat:Int), .int .u8 (dB.toNat:Int), .int .u8 (dA.toNat:Int)]:=by rw [Ln,t0 _ rfl]; rfl
 generalize [b0,b1,b2,b3,b4,b5,b6,b7,b8,b9,dV,dU,dS,dR,dQ,dP,dy,dO,dN,dM,dL,dJ,dI,dH,dz,dG,dF,dE,dD,dC,dB,dA] ++l2=C at*
 have hcl64:(af C).length=64:=by rw [aM,hCl]
 have htk64:(af C).take 64=af C:=aJ aa
 have hAl:(af A).length=32:=by rw [aM,AX]
 have hAt:(af A).take 32=af A:=aJ aa
 have hGl:ay (af G)=true:=aC G
 clear t0 d0 hCe
 refine aG (F:=F244) rfl ?_
 simp only [bD] at hs hB hT ⊢
 rw [show af [b0 &&& 248,b1,b2,b3,b4,b5,b6,b7,b8,b9,dV,dU,dS,dR,dQ,dP,dy,dO,dN,dM,dL,dJ,dI,dH,dz,dG,dF,dE,dD,dC,dB,dA &&& 127 ||| 64]= [.int .u8 ((b0 &&& 248).toNat:Int), .int .u8 (b1.toNat:Int), .int .u8 (b2.toNat:Int), .int .u8 (b3.toNat:Int), .int .u8 (b4.toNat:Int), .int .u8 (b5.toNat:Int), .int .u8 (b6.toNat:Int), .int .u8 (b7.toNat:Int), .int .u8 (b8.toNat:Int), .int .u8 (b9.toNat:Int), .int .u8 (dV.toNat:Int), .int .u8 (dU.toNat:Int), .int .u8 (dS.toNat:Int), .int .u8 (dR.toNat:Int), .int .u8 (dQ.toNat:Int), .int .u8 (dP.toNat:Int), .int .u8 (dy.toNat:Int), .int .u8 (dO.toNat:Int), .int .u8 (dN.toNat:Int), .int .u8 (dM.toNat:Int), .int .u8 (dL.toNat:Int), .int .u8 (dJ.toNat:Int), .int .u8 (dI.toNat:Int), .int .u8 (dH.toNat:Int), .int .u8 (dz.toNat:Int), .int .u8 (dG.toNat:Int), .int .u8 (dF.toNat:Int), .int .u8 (dE.toNat:Int), .int .u8 (dD.toNat:Int), .int .u8 (dC.toNat:Int), .int .u8 (dB.toNat:Int), .int .u8 ((dA &&& 127 ||| 64).toNat:Int)] from rfl] at hT
 simp only [F244,az,seval,ae,@N8,@N9,pA,cy,@br,gh,JC,hs,hcl64,htk64,hC32,cp,w_248,w_127,w_o64,hB,hT,hAl,hAt,aC,bF]
 rw [←hCd]
 exact W9 (x:= [b0 &&& 248,b1,b2,b3,b4,b5,b6,b7,b8,b9,dV,dU,dS,dR,dQ,dP,dy,dO,dN,dM,dL,dJ,dI,dH,dz,dG,dF,dE,dD,dC,dB,dA &&& 127 ||| 64]) (y:=A) rfl rfl hCl
theorem RH {seed:aw} (hn:seed.length < 1099511627776):cR 244 [bN seed]=some (.vptr (lh seed) 0):=by
 have h:=lT seed
 obtain ⟨b0,b1,b2,b3,b4,b5,b6,b7,b8,b9,dV,dU,dS,dR,dQ,dP,dy,dO,dN,dM,dL,dJ,dI,dH,dz,dG,dF,dE,dD,dC,dB,dA,e⟩:=JR (s:=(aB seed).take 32) (by rw [bU,h]; rfl)
 exact w_open hn (l2:=(aB seed).drop 32) (by rw [fw,h]) b0 b1 b2 b3 b4 b5 b6 b7 b8 b9 dV dU dS dR dQ dP dy dO dN dM dL dJ dI dH dz dG dF dE dD dC dB dA (by rw [←e,ed])
theorem F7 (seed:aw):(lh seed).length=65:=by
 rw [lh,aq,aq,aM,aM,aX,gu,aX]; rfl
theorem wo (seed:aw):ay (lh seed)=true:=by
 rw [ft,lh]
 intro x hx
 simp only [lB,List.mem_singleton] at hx
 rcases hx with (hx | hx) | hx
 ·exact ft.1 (aC _) x hx
 ·subst hx; simp only [AV.closed,aC]
 ·exact ft.1 (aC _) x hx
theorem Mn (seed:aw):eP (lh seed)=lh seed:=by
 rw [lh,xD,xD,bF,bF,cg,fW,bF,dt]
theorem YH (seed:aw):(lh seed)[32]? =some (bN ((aB seed).drop 32)):=by
 rw [lh,bb,eI (by rw [aM,aX]; omega),aM,aX]; rfl
theorem keyC_0 (seed:aw):(lh seed).take 32=af (toLE 32 (nr aB seed)):=by
 rw [lh,bb,List.take_left' (by rw [aM,aX])]
theorem Mo (seed:aw):(lh seed).drop 33=af (gu aB seed):=by
 rw [lh,List.drop_left' (by rw [aq,aM,aX]; rfl)]
theorem Fa {σ:ag} {cs:ai} {a:aw} {off:Nat} (hl:a.length=32) (hd:cs.drop off=af a) (hle:off+32<=cs.length):eQ σ 32 1 (.vptr cs off) none none=some (bN a):=by
 have e1:((cs.drop off).take 32)=af a:=by rw [hd,aJ (by rw [aM]; omega)]
 have e2:(af a).all AV.notAgg=true:=gy a
 have e3:chunks 1 32 (af a)=af a:=by
  have:=Dv (af a)
  rwa [aM,hl] at this
 simp only [eQ,bounds,Option.getD_none]
 rw [if_pos aa]
 simp only [Int.toNat_natCast,Int.toNat_zero,Nat.zero_mul,Nat.add_zero,Nat.mul_one,Nat.sub_zero,e1,e2,e3]
 rw [if_pos aa,if_pos ⟨hle,trivial⟩]
theorem Rl {σ:ag} {b c:Nat} {e1 e2:aA} {r:aw} {x y:aw} (h:look σ.m b=some (.own [.sl c 0 32 1 e1,bN x,bN y])) (hc:look σ.m c=some (.own (af r))) (hr:r.length=32) :
  rb σ bJ (.sl b 0 3 1 e2)=some (.vsl ([r,x,y].map bN) none):=by
 have hb:σ.cells b=some [.sl c 0 32 1 e1,bN x,bN y]:=by unfold ag.cells ag.get; rw [h]
 have k1:rb σ 23 (.sl c 0 32 1 e1)=some (bN r):=by
  rw [show 23=22+1 from rfl,jC hc (by rw [aM]; omega) (aC _) (gy _),List.drop_zero,aJ (by rw [aM]; omega)]
 have k2:cS (rb σ 23) [.sl c 0 32 1 e1,bN x,bN y]=some [bN r,bN x,bN y]:=by
  simp only [cS,k1,ck (show (bN x).closed=true from by simp only [AV.closed,aC]),ck (show (bN y).closed=true from by simp only [AV.closed,aC])]
 have e:rb σ (23+1) (.sl b 0 3 1 e2)=(match σ.cells b with
   | some cs=>
    if 0+3*1<=cs.length/\0 < 1 then
     match cS (rb σ 23) ((cs.drop 0).take (3*1)) with
     | some cs'=>if cs'.all AV.notAgg then some (.vsl (chunks 1 3 cs') none) else none
     | none=>none
    else none
   | none=>none):=rfl
 rw [show bJ=23+1 from rfl,e,hb]
 simp only
 rw [if_pos ⟨by simp,by decide⟩,show (List.drop 0 [AV.sl c 0 32 1 e1,bN x,bN y]).take (3*1)= [AV.sl c 0 32 1 e1,bN x,bN y] from rfl,k2]
 rfl
theorem PY {st:Bool} {f:Nat} {args args':ai} {σ:ag} {r:AV} (h2:cS (rb σ bJ) args=some args') (he:eP args'=args') (hr:cR f args'=some r) (hf:r.flat=true):gf cA gU st (.fn f [] []) args σ=some (r,σ):=
 iz (args':=args') rfl h2 (by rw [he]; exact hr) hf
theorem Xq {seed msg:aw} (hn:msg.length < 1099511000000):dx cA gU (.fn 312 [.vptr (lh seed) 0] []) [bN msg]=some (bN (ji aB seed msg)):=by
 have hpre:((aB seed).drop 32).length=32:=by rw [fw,lT]
 have hf1:([(aB seed).drop 32,msg] :List (aw)).flatten=(aB seed).drop 32 ++msg:=by simp
 have rF:=IF (a:=(aB seed).drop 32) (rest:= [msg]) (Nat.succ_pos _) (show 1 < 1099511627776 by decide) aa (by rw [hf1,aq]; omega)
 rw [hf1] at rF
 have hB:=IN
 have hR:toLE 32 (bE (aB ((aB seed).drop 32 ++msg)) % LL)=toLE 32 (jQ aB seed msg):=rfl
 rw [hR] at rF
 have V4:jQ aB seed msg < LL:=aZ _ (by decide)
 have hT:=yU (k:=toLE 32 (jQ aB seed msg)) (aX _ _)
 have hrn:bE (toLE 32 (jQ aB seed msg))=jQ aB seed msg:=gQ 32 _ (bz V4 (by decide))
 rw [hrn] at hT
 have hsig:ji aB seed msg=toLE 32 (bM (bX cd (jQ aB seed msg))) ++toLE 32 ((bE (aB (toLE 32 (bM (bX cd (jQ aB seed msg))) ++gu aB seed ++msg)) % LL*nr aB seed+jQ aB seed msg) % LL):=rfl
 rw [hsig]
 have AX:(gu aB seed).length=32:=aX _ _
 have hRl:=aX 32 (bM (bX cd (jQ aB seed msg)))
 have Gk:([toLE 32 (bM (bX cd (jQ aB seed msg))),gu aB seed,msg] :List (aw)).flatten=toLE 32 (bM (bX cd (jQ aB seed msg))) ++gu aB seed ++msg:=by simp
 have nH:=IF (a:=toLE 32 (bM (bX cd (jQ aB seed msg)))) (rest:= [gu aB seed,msg]) (Nat.succ_pos _) (show 2 < 1099511627776 by decide) aa (by rw [Gk,aq,aq]; omega)
 rw [Gk] at nH
 have hklt:bE (aB (toLE 32 (bM (bX cd (jQ aB seed msg))) ++gu aB seed ++msg)) % LL < LL:=aZ _ (by decide)
 have hslt:nr aB seed < 256 ^ 32:=by
  rw [nr]
  have:bE ((aB seed).take 32) % 2 ^ 254 < 2 ^ 254:=aZ _ (by decide)
  omega
 have hM:=RL (A:=toLE 32 (bE (aB (toLE 32 (bM (bX cd (jQ aB seed msg))) ++gu aB seed ++msg)) % LL)) (B:=toLE 32 (nr aB seed)) (D:=toLE 32 (jQ aB seed msg)) (aX _ _) (aX _ _) (aX _ _)
 rw [gQ 32 _ (bz hklt (by decide)),gQ 32 _ hslt,hrn] at hM
 have hSl:=aX 32 ((bE (aB (toLE 32 (bM (bX cd (jQ aB seed msg))) ++gu aB seed ++msg)) % LL*nr aB seed+jQ aB seed msg) % LL)
 have V9:=aX 32 (bE (aB (toLE 32 (bM (bX cd (jQ aB seed msg))) ++gu aB seed ++msg)) % LL)
 have hql:=aX 32 (jQ aB seed msg)
 have k32:=YH seed
 have k0:=keyC_0 seed
 have k33:=Mo seed
 have klen:=F7 seed
 have hsecl:=aX 32 (nr aB seed)
 generalize toLE 32 ((bE (aB (toLE 32 (bM (bX cd (jQ aB seed msg))) ++gu aB seed ++msg)) % LL*nr aB seed+jQ aB seed msg) % LL)=S at*
 generalize toLE 32 (bE (aB (toLE 32 (bM (bX cd (jQ aB seed msg))) ++gu aB seed ++msg)) % LL)=kk at*
 generalize toLE 32 (bM (bX cd (jQ aB seed msg)))=R at*
 generalize toLE 32 (jQ aB seed msg)=q at*
 generalize toLE 32 (bM cd)=G at*
 generalize toLE 32 (nr aB seed)=sec at*
 generalize (aB seed).drop 32=pre at*
 generalize gu aB seed=A at*
 generalize lh seed=K at*
 clear hf1 Gk hklt hslt V4 hrn hR hsig
 have cl2:ay [bN pre,bN msg]=true:=lI [pre,msg]
 have er2:eP [bN pre,bN msg]= [bN pre,bN msg]:=Ai [pre,msg]
 have er3:eP [AV.vsl ([R,A,msg].map bN) none]= [AV.vsl ([R,A,msg].map bN) none]:=by rw [cg,fW,Ai,dt]
 have hP1 (σ:ag) (h:look σ.m 0=some (.own [bN pre,bN msg])):gf cA gU false (.fn 226 [] []) [.sl 0 0 2 1 (some 2)] σ=some (bD q,σ):=
  qw (off:=0) (n:=2) h (aD 2) cl2 rfl (by rw [List.drop_zero,aJ (aD 2),er2]) (by rw [List.drop_zero,aJ (aD 2)]; exact rF) (by simp only [bD,AV.flat,lr])
 have hP2 (σ:ag) (h:look σ.m 3=some (.own [.sl 2 0 32 1 (some 32),bN A,bN msg])) (hc:look σ.m 2=some (.own (af R))):gf cA gU true (.fn 226 [] []) [.sl 3 0 3 1 (some 3)] σ=some (bD kk,σ):=
  PY (by rw [tJ,Rl h hc hRl]; rfl) er3 nH (by simp only [bD,AV.flat,lr])
 have gz {σ:ag} (h:look σ.m 4=some (.own (af S))):rowOf σ 1 (.sl 4 0 32 1 (some 32))=some (af S):=by
  have hb:σ.cells 4=some (af S):=by unfold ag.cells ag.get; rw [h]
  simp only [rowOf,if_true,hb]
  rw [if_pos (by rw [aM]; omega),List.drop_zero,aJ (by rw [aM]; omega)]
 have zB {σ:ag} (h:look σ.m 2=some (.own (af R))):rowOf σ 1 (.sl 2 0 32 1 (some 32))=some (af R):=by
  have hb:σ.cells 2=some (af R):=by unfold ag.cells ag.get; rw [h]
  simp only [rowOf,if_true,hb]
  rw [if_pos (by rw [aM]; omega),List.drop_zero,aJ (by rw [aM]; omega)]
 have da {σ:ag} (h:look σ.m 2=some (.own (af R))):aF σ 1 1 (.sl 2 0 32 1 (some 32)) (af S) 32=some (.sl σ.next 0 64 1 none,σ.alloc (af R ++af S)):=by
  unfold aF
  simp only [lenOf,zB h]
  rw [if_pos ⟨by decide,by decide,by decide,by rw [aM,hSl],cp S⟩,if_neg (by decide),if_pos trivial]
 have qj {σ:ag} {b:Nat} (h:look σ.m b=some (.own (af R ++af S))):rbE σ (.sl b 0 64 1 none)=some (bN (R ++S)):=by
  rw [←lP] at h
  have hl64:(af (R ++S)).length=64:=by rw [aM,aq,hRl,hSl]
  have:=jC (d:=23) (off:=0) (n:=64) (c:=none) h aa (aC _) (gy _)
  rw [List.drop_zero,aJ aa] at this
  unfold rbE
  rw [show bJ=23+1 from rfl,this,Option.map_some,fW,bF]
 have hsv {σ:ag}:eQ σ 32 1 (.vptr K 33) none none=some (bN A):=Fa AX k33 aa
 have hqc:(af q).length=32:=by rw [aM,hql]
 have hqt:(af q).take 32=af q:=aJ aa
 have hRc:(af R).length=32:=by rw [aM,hRl]
 have hRt:(af R).take 32=af R:=aJ aa
 have hSc:(af S).length=32:=by rw [aM,hSl]
 have hSt:(af S).take 32=af S:=aJ aa
 have hpo:(bN pre).one=true:=rfl
 refine uj (F:=F312) rfl ?_
 simp only [bD] at hP1 hP2 hB hT hM ⊢
 simp only [F312,az,seval,ae,cy,@eJ,pA,hsv,k32,k0,klen,cl2,er2,hP1,hP2,hB,hT,hM,hqc,hqt,hRc,hRt,hSc,hSt,aC,bF,cp,gz,da,lenOf,ag.alloc]
 exact qj rfl
theorem Rs {seed:aw} (hn:seed.length=32):cR 242 [bN seed]=some (.fn 312 [.vptr (lh seed) 0] []):=by
 have ho:=RH (seed:=seed) aa
 have hl:(af seed).length=32:=by rw [aM,hn]
 have kc:=wo seed
 have ke:=Mn seed
 generalize lh seed=K at*
 refine aG (F:=F242) rfl ?_
 simp only [bN] at ho ⊢
 simp only [F242,az,seval,ae,hl,aC,bF,ho]
 try simp only [Rq,AV.closed,ay,kc,ke,Hs,uc,cg,dt,aW]
theorem r_Sign {seed msg:aw} (hn:seed.length=32) (hm:msg.length < 1099511000000):cR 199 [bN seed,bN msg]=some (.tup [bN (ji aB seed msg), .int .i64 0]):=by
 have hs:=Rs hn
 have hg:=Xq (seed:=seed) hm
 have kc:=wo seed
 have ke:=Mn seed
 generalize lh seed=K at*
 generalize ji aB seed msg=g at*
 have e1:gf cA gU false (.fn 312 [.vptr K 0] []) [bN msg] ⟨0, []⟩=some (bN g,⟨0, []⟩):=by
  have hfc:(AV.fn 312 [.vptr K 0] []).closed=true:=by simp only [AV.closed,ay,kc,aW]
  rw [lz hfc (by simp only [ay,AV.closed,aC,aW])]
  rw [Hs,cg,uc,ke,dt,cg,fW,bF,dt,hg]; rfl
 have wS:iJ .fn (.fn 312 [.vptr K 0] [])=some false:=rfl
 refine aG (F:=F199) rfl ?_
 simp only [bN] at hs e1 ⊢
 simp only [F199,az,seval,ae,aC,bF,hs,e1,wS]
theorem Xv {a:aw} (h0:0 < a.length) (hn:a.length < 1099511627776):cR 245 [bN a]=some (bN a):=by
 have da:aF ⟨0, []⟩ 1 1 (.vsl [] (some 0)) (af a) a.length=some (.sl 0 0 a.length 1 none,⟨1, [(0, .own (af a))]⟩):=by
  unfold aF
  have hr:rowOf ⟨0, []⟩ 1 (.vsl [] (some 0))=some []:=rfl
  simp only [lenOf,hr]
  rw [if_pos ⟨by decide,by decide,by unfold aY; simp; omega,by rw [aM]; omega,cp a⟩,if_neg aa]
  simp [ag.alloc]
 have qj:rbE ⟨1, [(0, .own (af a))]⟩ (.sl 0 0 a.length 1 none)=some (bN a):=by
  have:=jC (σ:=⟨1, [(0, .own (af a))]⟩) (d:=23) (b:=0) (off:=0) (n:=a.length) (c:=none) (cs:=af a) rfl (by rw [aM]; omega) (aC _) (gy _)
  rw [List.drop_zero,aJ (by rw [aM]; omega)] at this
  unfold rbE
  rw [show bJ=23+1 from rfl,this,Option.map_some,fW,bF]
 have wS:iJ .sl (.vsl (af a) none)=some false:=by
  cases a with
  | nil=>simp at h0
  | cons x a=>rfl
 refine aG (F:=F245) rfl ?_
 simp only [bN] at qj ⊢
 simp only [F245,az,seval,ae,wS,lenOf,pS,aM,da,qj]
theorem R0 {seed:aw} (hn:seed.length=32):cR 201 [bN seed]=some (.tup [bN (gu aB seed), .int .i64 0]):=by
 have ho:=RH (seed:=seed) aa
 have hl:(af seed).length=32:=by rw [aM,hn]
 have k33:=Mo seed
 have klen:=F7 seed
 have AX:(gu aB seed).length=32:=aX _ _
 have hc:=Xv (a:=gu aB seed) aa aa
 have hsv {σ:ag}:eQ σ 32 1 (.vptr (lh seed) 33) none none=some (bN (gu aB seed)):=Fa AX k33 aa
 generalize lh seed=K at*
 generalize gu aB seed=A at*
 refine aG (F:=F201) rfl ?_
 simp only [bN] at ho hc hsv ⊢
 simp only [F201,az,seval,ae,cy,hl,aC,bF,ho,hsv,hc]
def T7Fb:= @F43.eq_1
def T7Fc:=J @VH.eq_1 (J @Kx.eq_1 (J @VJ.eq_1 (J @Kw.eq_1 (J @Kv.eq_1 (J @VI.eq_1 (@F49.eq_1))))))
def T7Fd:=J @VH.eq_1 (J @Kx.eq_1 (J @Kw.eq_1 (J @Kv.eq_1 (@F49.eq_1))))
mutual
def V.dep:V->Nat
 | .mk k _ _ l m=>if k=4 then rL l+1 else if k=5 then pF m+1 else 0
def rL:List V->Nat
 | []=>0
 | v ::r=>max v.dep (rL r)
def pF:List (Bs×V)->Nat
 | []=>0
 | (_,v) ::r=>max v.dep (pF r)
end
theorem V.dep_eq (v:V):v.dep=if v.kind=4 then rL v.l+1 else if v.kind=5 then pF v.m+1 else 0:=by cases v; rw [V.dep]; rfl
theorem Ca (x:Mem) (r:List Mem):pF (x ::r)=max x.2.dep (pF r):=by
 obtain ⟨k,v⟩:=x; rw [pF]
mutual
theorem V.dep_le: ∀v:V,v.dep<=v.sz
 | .mk k n s l m=>by
  have h1:=xG l
  have h2:=xF m
  simp only [V.dep,V.sz]
  split
  ·omega
  ·split <;> omega
theorem xG: ∀l:List V,rL l<=AD l
 | []=>by simp [rL]
 | v ::r=>by have:=V.dep_le v; have:=xG r; simp only [rL,AD]; omega
theorem xF: ∀l:List (Bs×V),pF l<=pI l
 | []=>by simp [pF]
 | (k,v) ::r=>by have:=V.dep_le v; have:=xF r; simp only [pF,pI]; omega
end
theorem CZ (a b:Nat):(if (a:Int) < (b:Int) then (b:Int) else (a:Int))=((max a b:Nat):Int):=by
 split <;> omega
theorem r_depN: ∀(n:Nat) (v:V),v.sz < n->v.sz < fF->cR 49 [v.enc]=some (.int .i64 (v.dep:Nat)):=by
 intro n
 induction n with
 | zero=>intro v h; omega
 | succ n ih=>
  intro v h hb
  have fb:=v.sz_eq
  have hl:=oD v.l
  have hm:=oC v.m
  have Za:=xG v.l
  have hdm:=xF v.m
  unfold fF at hb
  have ihL: ∀x∈v.l,cR 49 [x.enc]=some (.int .i64 (x.dep:Nat)):=fun x hx=>by
   have:=jB hx
   exact ih x aa (by unfold fF; omega)
  have ihM: ∀x∈v.m,cR 49 [x.2.enc]=some (.int .i64 (x.2.dep:Nat)):=fun x hx=>by
   have:=gI hx
   exact ih x.2 aa (by unfold fF; omega)
  refine aG (F:=F49) rfl ?_
  rw [V.dep_eq]
  by_cases h4:v.kind=4
  ·have q4:(v.kind == 4)=true:=by simp [h4]
   simp only [T7Fd,ax,az,seval,VX,ae,q4,h4]
   refine aP (S:=Nat×Nat) (fun p=> [(3, .int .i64 (p.2:Int)),(13, .vsl (v.l.map V.enc) none),(14, .int .i64 v.l.length),(15, .int .i64 (p.1:Int))]) (fun p=>v.l.length - p.1) (fun p _=>max p.2 (rL (v.l.drop p.1))=rL v.l) ?_ (0,0) _ (by simp)
   rintro b ⟨j,a⟩ σ hj iY
   simp only at hj iY ⊢
   by_cases aR:j < v.l.length
   ·obtain ⟨x,hx⟩:=cq aR
    have cl:=cB (f:=V.enc) (sz:=5) (c:=none) hx (by simp [V.enc_cells])
    have aK:=pD aR
    have bP:=ihL x (bZ hx)
    rw [drop_cons hx,rL] at hj
    simp only [T7Fc,az,seval,VX,ae,aK,cl,bP,CZ]
    exact iY (j+1,max a x.dep) _ _ (by simp; omega) (by simp only; omega) (by rw [cL aR aa]; simp only [az,seval])
   ·have aK:=pE (Nat.not_lt.1 aR)
    rw [cc aa,rL] at hj
    have hw:=cL (j:=a) (n:=AD v.l+1) aa aa
    simp only [T7Fc,az,seval,VX,aK,hw]
    rw [show a=rL v.l by omega]
  ·have q4:(v.kind == 4)=false:=by simp [h4]
   by_cases h5:v.kind=5
   ·have q5:(v.kind == 5)=true:=by simp [h5]
    simp only [T7Fd,ax,az,seval,VX,ae,q4,q5,h4,h5]
    refine aP (S:=Nat×Nat) (fun p=> [(3, .int .i64 (p.2:Int)),(27, .vsl (v.m.map bp) none),(28, .int .i64 v.m.length),(29, .int .i64 (p.1:Int))]) (fun p=>v.m.length - p.1) (fun p _=>max p.2 (pF (v.m.drop p.1))=pF v.m) ?_ (0,0) _ (by simp)
    rintro b ⟨j,a⟩ σ hj iY
    simp only at hj iY ⊢
    by_cases aR:j < v.m.length
    ·obtain ⟨x,hx⟩:=cq aR
     have cl:=cB (f:=bp) (sz:=6) (c:=none) hx (by simp [bq])
     have aK:=pD aR
     have bP:=ihM x (bZ hx)
     rw [drop_cons hx,Ca] at hj
     simp only [T7Fc,az,seval,VX,ae,aK,cl,bP,CZ]
     exact iY (j+1,max a x.2.dep) _ _ (by simp; omega) (by simp only; omega) (by rw [cL aR aa]; simp only [az,seval])
    ·have aK:=pE (Nat.not_lt.1 aR)
     rw [cc aa,pF] at hj
     have hw:=cL (j:=a) (n:=pI v.m+1) aa aa
     simp only [T7Fc,az,seval,VX,aK,hw]
     rw [show a=pF v.m by omega]
   ·have q5:(v.kind == 5)=false:=by simp [h5]
    simp only [T7Fd,az,Nat.reduceEqDiff,reduceIte,reduceCtorEq,Nat.reduceAdd,Nat.reduceLeDiff,Nat.reduceSub,Nat.reduceMul,Int.reduceEq,Int.reduceBEq,Int.reduceBNe,Int.reduceLT,Int.reduceLE,Nat.reduceLT,VX,ae,q4,q5,h4,h5]
    rfl
theorem r_dep (v:V) (hb:v.sz < fF):cR 49 [v.enc]=some (.int .i64 (v.dep:Nat)):=r_depN (v.sz+1) v (aV _) hb
def V.good (v:V):Bool:=v.fine && decide (v.dep<=50)
theorem u7 (v:V) (hb:v.sz < fF):cR 25 [v.enc]=some (.bool v.good):=by
 have h1:decide ((v.dep:Int)<=50)=decide (v.dep<=50):=by rw [decide_eq_decide]; omega
 refine aG (F:=F25) rfl ?_
 simp only [F25,az,seval,VX,ae,r_fine v hb,r_dep v hb,h1,V.good]
 repeat' split
 all_goals simp_all
def V.zero:V:=V.mk 0 0 [] [] []
def said (v:V):V:=if v.good && v.kind == 5 then v else V.zero
theorem Ru (v:V) (hb:v.sz < fF):cR 43 [v.enc]=some (said v).enc:=by
 refine aG (F:=F43) rfl ?_
 cases hg:v.good
 ·simp only [T7Fb,az,seval,VX,ae,u7 v hb,hg,said,V.zero,Bool.false_and]
 ·by_cases h5:v.kind=5
  ·have q:(v.kind != 5)=false:=by simp [h5]
   have q2:(v.kind == 5)=true:=by simp [h5]
   simp only [T7Fb,az,seval,VX,ae,u7 v hb,hg,said,V.zero,q,q2]
  ·have q:(v.kind != 5)=true:=by simp [h5]
   have q2:(v.kind == 5)=false:=by simp [h5]
   simp only [T7Fb,az,seval,VX,ae,u7 v hb,hg,said,V.zero,q,q2]
def T8Fa:= @F46.eq_1
def T8Fb:= @F63.eq_1
def T8Fc:= @F74.eq_1
def T8Fd:=J @Vy.eq_1 (J @Km.eq_1 (J @Vz.eq_1 (@F83.eq_1)))
theorem n7: ∀a:Bs,bytesLess a a=false
 | []=>rfl
 | x ::r=>by simp [bytesLess,n7 r]
theorem HK: ∀ {a b:Bs},bytesLess a b=true->bytesLess b a=false
 | [], [],h=>by simp [bytesLess] at h
 | [],_ ::_,_=>rfl
 | _ ::_, [],h=>by simp [bytesLess] at h
 | x ::r,y ::s,h=>by
  simp only [bytesLess,Bool.or_eq_true,dZ,ak,beq_iff_eq] at h
  rw [←Bool.not_eq_true]
  simp only [bytesLess,Bool.or_eq_true,dZ,ak,beq_iff_eq]
  rintro (h2 | ⟨rfl,h2⟩)
  ·rcases h with h | ⟨rfl,h⟩
   ·exact absurd h2 (UInt8.lt_asymm h)
   ·exact UInt8.lt_irrefl _ h2
  ·rcases h with h | ⟨_,h⟩
   ·exact UInt8.lt_irrefl _ h
   ·rw [HK h] at h2; simp at h2
theorem Aj: ∀ {a b:Bs},bytesLess a b=false->bytesLess b a=false->a=b
 | [], [],_,_=>rfl
 | [],_ ::_,h,_=>by simp [bytesLess] at h
 | _ ::_, [],_,h=>by simp [bytesLess] at h
 | x ::r,y ::s,h,h2=>by
  simp only [bytesLess,Bool.or_eq_false_iff,decide_eq_false_iff_not,Bool.and_eq_false_iff,cE] at h h2
  have hxy:x=y:=UInt8.le_antisymm (UInt8.not_lt.1 h2.1) (UInt8.not_lt.1 h.1)
  subst hxy
  have h3:bytesLess r s=false:=by rcases h.2 with h | h; exact absurd rfl h; exact h
  have h4:bytesLess s r=false:=by rcases h2.2 with h | h; exact absurd rfl h; exact h
  rw [Aj h3 h4]
theorem um: ∀ {a b c:Bs},bytesLess a b=true->bytesLess b c=true->bytesLess a c=true
 | _, [],_,h,_=>by cases ‹Bs› <;> simp [bytesLess] at h
 | _,_ ::_, [],_,h=>by simp [bytesLess] at h
 | [],_ ::_,_ ::_,_,_=>rfl
 | x ::r,y ::s,z ::t,h,h2=>by
  simp only [bytesLess,Bool.or_eq_true,dZ,ak,beq_iff_eq] at h h2 ⊢
  rcases h with h | ⟨rfl,h⟩
  ·rcases h2 with h2 | ⟨rfl,h2⟩
   ·exact .inl (UInt8.lt_trans h h2)
   ·exact .inl h
  ·rcases h2 with h2 | ⟨rfl,h2⟩
   ·exact .inl h2
   ·exact .inr ⟨rfl,um h h2⟩
theorem xp (a b:Bs):decide (Pb a b < 0)=bytesLess a b:=by
 unfold Pb
 cases h:bytesLess a b <;> cases h2:bytesLess b a <;> simp
theorem YG (a b:Bs):(Pb a b == 0)=(a == b):=by
 unfold Pb
 cases h:bytesLess a b
 ·cases h2:bytesLess b a
  ·rw [Aj h h2]; simp
  ·have:a≠b:=by rintro rfl; rw [n7] at h2; simp at h2
   simp [this]
 ·have:a≠b:=by rintro rfl; rw [n7] at h; simp at h
  simp [this]
def iX (m:List Mem) (i:Nat):Bs:=match m[i]? with
 | some x=>x.1
 | none=> []
def sL (m:List Mem) (k:Bs) (i j:Nat):Nat:=
 if i < j then (if bytesLess (iX m ((i+j) / 2)) k=true then sL m k ((i+j) / 2+1) j else sL m k i ((i+j) / 2)) else i
termination_by j - i
decreasing_by all_goals omega
theorem u64n {n:Nat} (h:n < 9223372036854775808):IntKind.wrap .u64 (n:Int)=(n:Int):=by
 simp [IntKind.wrap,IntKind.bits,IntKind.signed]; omega
theorem i64n {n:Nat} (h:n < 9223372036854775808):IntKind.wrap .i64 (n:Int)=(n:Int):=by
 simp [IntKind.wrap,IntKind.bits,IntKind.signed]; omega
theorem shr1 (n:Nat):bk .shr .u64 (n:Int) 1=some (.int .u64 ((n / 2:Nat):Int)):=by
 have:Int.fdiv (n:Int) 2=((n / 2:Nat):Int):=by
  rw [Int.fdiv_eq_ediv_of_nonneg _ aa]; omega
 simp [bk,IntKind.bits,this]
theorem Oz (m:List Mem) (k:Bs) (x:V) (hb:m.length < fF) :
  cR 83 [.vsl (m.map bp) none,bp (k,x), .fn 40 [] []]=some (.tup [.int .i64 (sL m k 0 m.length:Nat), .bool (decide (sL m k 0 m.length < m.length) && (iX m (sL m k 0 m.length) == k))]):=by
 unfold fF at hb
 refine aG (F:=F83) rfl ?_
 simp only [Vy,Km,F83,ax,az,seval,VX,ae]
 have hQ: ∀(i j:Nat) (σ:ag),i<=j->j<=m.length->sL m k i j=sL m k 0 m.length->True:=fun _ _ _ _ _ _=>trivial
 refine gT (S:=Nat×Nat) (fun p=> [(0, .vsl (m.map bp) none),(2, .fn 40 [] []),(4, .vptr [.str k, .int .i64 x.kind, .int .i64 x.n, .str x.s, .vsl (x.l.map V.enc) none, .vsl (x.m.map bp) none] 0),(8, .int .i64 m.length),(9, .int .i64 (p.1:Int)),(10, .int .i64 (p.2:Int))]) (fun _=> .empty) (fun p=>p.2 - p.1)
  (fun p=>sL m k p.1 p.2=sL m k 0 m.length/\p.1<=p.2/\p.2<=m.length) ?_ (0,m.length) ⟨rfl,by simp,by simp⟩
 rintro b ⟨i,j⟩ ⟨h1,h2,h3⟩ ih
 simp only at h1 h2 h3 ih ⊢
 by_cases aR:i < j
 ·have hc:=pD aR
  obtain ⟨c,hcdef⟩ : ∃c,c=(i+j) / 2:=⟨_,rfl⟩
  have Qs:c < m.length:=by omega
  obtain ⟨y,hy⟩:=cq Qs
  have cl:=cB (f:=bp) (sz:=6) (c:=none) hy (by simp [bq])
  have w1:=wadd (a:=i) (b:=j) aa
  have w2:=u64n (n:=i+j) aa
  have w3:=i64n (n:=c) aa
  have w4:=shr1 (i+j)
  rw [←hcdef] at w4
  have hk:=RM y (k,x)
  have Po:iX m c=y.1:=by simp [iX,hy]
  have qf:=h1
  rw [sL,if_pos aR,←hcdef,Po] at qf
  cases hl:bytesLess y.1 k
  ·rw [hl,if_neg (by simp)] at qf
   simp only [T8Fd,az,seval,VX,ae,hc,w1,w2,w3,w4,cl,hk,xp,hl]
   exact ih (i,c) _ _ (by simp; omega) ⟨qf,by simp; omega,by simp; omega⟩ (by simp only [az,seval]) rfl
  ·rw [hl,if_pos rfl] at qf
   have w5:=cL Qs aa
   simp only [T8Fd,az,seval,VX,ae,hc,w1,w2,w3,w4,cl,hk,xp,hl,w5]
   exact ih (c+1,j) _ _ (by simp; omega) ⟨qf,by simp; omega,by simp; omega⟩ (by simp only [az,seval]) rfl
 ·have hc:=pE (Nat.not_lt.1 aR)
  have hi:sL m k 0 m.length=i:=by rw [←h1,sL,if_neg aR]
  rw [hi]
  by_cases him:i < m.length
  ·obtain ⟨y,hy⟩:=cq him
   have cl:=cB (f:=bp) (sz:=6) (c:=none) hy (by simp [bq])
   have hk:=RM y (k,x)
   have rZ:=pD him
   have Po:iX m i=y.1:=by simp [iX,hy]
   simp only [T8Fd,az,seval,VX,ae,hc,rZ,cl,hk,YG,Po,him]
  ·have rZ:=pE (Nat.not_lt.1 him)
   simp only [T8Fd,az,seval,VX,ae,hc,rZ,him,Bool.false_and]
def gK (v:V) (k:Bs):Nat×Bool:=if v.kind=5 then (sL v.m k 0 v.m.length,decide (sL v.m k 0 v.m.length < v.m.length) && (iX v.m (sL v.m k 0 v.m.length) == k)) else (0,false)
theorem LS (v:V) (k:Bs) (hb:v.m.length < fF):cR 74 [v.enc, .str k]=some (.tup [.int .i64 ((gK v k).1:Nat), .bool (gK v k).2]):=by
 refine aG (F:=F74) rfl ?_
 by_cases h5:v.kind=5
 ·have q:(v.kind != 5)=false:=by simp [h5]
  simp only [T8Fc,az,seval,VX,ae,q,Oz _ _ _ hb,gK,h5]
 ·have q:(v.kind != 5)=true:=by simp [h5]
  simp only [T8Fc,az,Nat.reduceEqDiff,reduceIte,reduceCtorEq,Nat.reduceAdd,Nat.reduceLeDiff,Nat.reduceSub,Nat.reduceMul,Int.reduceEq,Int.reduceBEq,Int.reduceBNe,Int.reduceLT,Int.reduceLE,Nat.reduceLT,VX,ae,q,gK,h5]
  rfl
def iZ (v:V) (k:Bs):V×Bool:=match (gK v k).2,v.m[(gK v k).1]? with
 | true,some x=>(x.2,true)
 | _,_=>(V.zero,false)
theorem LY (v:V) (k:Bs) (hb:v.m.length < fF):cR 63 [v.enc, .str k]=some (.tup [(iZ v k).1.enc, .bool (iZ v k).2]):=by
 refine aG (F:=F63) rfl ?_
 have hp:=LS v k hb
 cases hk:(gK v k).2
 ·rw [hk] at hp
  simp only [T8Fb,az,seval,VX,ae,hp,iZ,hk,V.zero]
 ·have aR:(gK v k).1 < v.m.length:=by
   unfold gK at hk ⊢
   split at hk
   ·rename_i h5; simp only [ak,dZ] at hk; rw [if_pos h5]; exact hk.1
   ·simp at hk
  obtain ⟨x,hx⟩:=cq aR
  have cl:=cB (f:=bp) (sz:=6) (c:=none) hx (by simp [bq])
  rw [hk] at hp
  simp only [T8Fb,az,seval,VX,ae,hp,cl,iZ,hk,hx]
def bR (v:V) (k:Bs):Bs×Bool:=if (iZ v k).2 && (iZ v k).1.kind == 3 then ((iZ v k).1.s,true) else ([],false)
theorem RY (v:V) (k:Bs) (hb:v.m.length < fF):cR 46 [v.enc, .str k]=some (.tup [.str (bR v k).1, .bool (bR v k).2]):=by
 refine aG (F:=F46) rfl ?_
 have hp:=LY v k hb
 unfold bR
 generalize iZ v k=g at hp
 obtain ⟨x,ok⟩:=g
 simp only at hp ⊢
 cases ok
 ·simp only [T8Fa,az,seval,VX,ae,hp,Bool.false_and]
 ·by_cases h3:x.kind=3
  ·have q:(x.kind != 3)=false:=by simp [h3]
   have q2:(x.kind == 3)=true:=by simp [h3]
   simp only [T8Fa,az,seval,VX,ae,hp,q,q2]
  ·have q:(x.kind != 3)=true:=by simp [h3]
   have q2:(x.kind == 3)=false:=by simp [h3]
   simp only [T8Fa,az,seval,VX,ae,hp,q,q2]
def HA (s:Bs) (c:UInt8):Bs×Bs×Bool:=match s.findIdx? (fun b=>b == c) with
 | some i=>(s.take i,s.drop (i+1),true)
 | none=>(s, [],false)
def setB (set:Bs) (c:UInt8):Bool:=set.contains c
def shownB (c:UInt8):Bool:=decide (33<=c) && (decide (c<=126) && c != 58)
def allB (p:UInt8->Bool) (n:Nat) (s:Bs):Bool:=s.all p && (decide (0 < s.length) && decide (s.length<=n))
theorem U1 {s:Bs} {j:Nat} {c:UInt8} (h:s[j]? =some c):et (.str s) (.int .i64 (j:Int))=some (.int .u8 c.toNat):=by
 simp [et,h]
def Zs:Bs:= [48,49,50,51,52,53,54,55,56,57]
def SL:Bs:= [97,98,99,100,101,102,103,104,105,106,107,108,109,110,111,112,113,114,115,116,117,118,119,120,121,122,65,66,67,68,69,70,71,72,73,74,75,76,77,78,79,80,81,82,83,84,85,86,87,88,89,90,48,49,50,51,52,53,54,55,56,57,46,45]
def WZ (s:Bs):Bool:=(!((HA s 58).2.2 && !allB (setB Zs) 5 (HA s 58).2.1)) && (decide (s.length<=255) && allB (setB SL) 255 (HA s 58).1)
def partsB (s:Bs) (sign:UInt8):Bs×Bs×Bool:=match s with
 | []=>([], [],false)
 | a ::r=>if a=sign/\s.length<=255/\(HA r 58).2.2=true/\allB shownB 255 (HA r 58).1=true/\WZ (HA r 58).2.1=true then ((HA r 58).1,(HA r 58).2.1,true) else ([], [],false)
def S6 (x:Option AV) (n:Nat):Bool:=match x with | some (.int .u8 m)=>m == (n:Int) | _=>false
theorem C4 {x:Option AV} {n:Nat} (h:S6 x n=true):x=some (.int .u8 n):=by
 unfold S6 at h
 split at h
 ·rw [eq_of_beq h]
 ·cases h
theorem wsucc8 {j:Nat} (h:j < 64):IntKind.wrap .u8 ((j:Int)+1)=((j+1:Nat):Int):=by
 simp [IntKind.wrap,IntKind.bits,IntKind.signed]; omega
def G4Fb:=J @Ei.eq_1 (J @x9.eq_1 (J @x8.eq_1 (J @Ns.eq_1 (J @x6.eq_1 (J @Ej.eq_1 (@VN.eq_1))))))
def G4Fc:=J @Ei.eq_1 (J @x9.eq_1 (J @x8.eq_1 (J @x6.eq_1 (J @Ej.eq_1 (@VN.eq_1)))))
def xe (j:Nat):Nat:=if j < 26 then 65+j else if j < 52 then 71+j else if j < 62 then j - 4 else if j=62 then 43 else 47
def rM:AV:= .agg [.int .u8 43, .int .u8 47]
theorem sgS_lt {j:Nat} (h:j < 64):xe j < 256:=by unfold xe; split <;> (try split) <;> (try split) <;> (try split) <;> omega
theorem Oa:((List.range 64).all fun j=>S6 ((dd cA (run cA gU 300) (.fn 167 [rM] []) [.int .u8 j] .empty).bind (fun x=>rbE x.2 x.1)) (xe j))=true:=by kernel_rfl
theorem Dx {f:AV} {args:ai} {r:AV} (n:Nat) (h:(dd cA (run cA gU n) f args .empty).bind (fun x=>rbE x.2 x.1)=some r):dx cA gU f args=some r:=by
 rw [Option.bind_eq_some_iff] at h
 obtain ⟨x,h1,h2⟩:=h
 unfold dx
 rw [dY.2 ⟨n,h1⟩]
 exact h2
theorem qX {j:Nat} (h:j < 64) {σ:ag}:gf cA gU false (.fn 167 [rM] []) [.int .u8 (j:Int)] σ=some (.int .u8 ((UInt8.ofNat (xe j)).toNat:Int),σ):=by
 have hg:dx cA gU (.fn 167 [rM] []) [.int .u8 (j:Int)]=some (.int .u8 (xe j)):=Dx 300 (C4 (bG.1 Oa j (List.mem_range.2 h)))
 rw [lz rfl rfl,show (AV.fn 167 [rM] []).er= .fn 167 [rM] [] from by simp only [Hs,cg,dt,rM,JT,kV],show eP [AV.int .u8 (j:Int)]= [.int .u8 j] from by simp only [cg,kV,dt],hg,eW,aO (show xe j < 2 ^ 8 from sgS_lt h)]; rfl
def sx:Nat->Nat->aw->List Nat
 | nb,c, []=>if nb=0 then [] else [c*2 ^ (6 - nb) % 64]
 | nb,c,b ::l=>
  if nb=4 then (c*256+b.toNat) / 64 % 64 ::(c*256+b.toNat) % 64 ::sx 0 0 l
  else if nb=2 then (c*256+b.toNat) / 16 % 64 ::sx 4 ((c*256+b.toNat) % 16) l
  else (c*256+b.toNat) / 4 % 64 ::sx 2 ((c*256+b.toNat) % 4) l
def s7 (j:Nat):UInt8:=UInt8.ofNat (xe j)
def kB (s:aw):aw:=(sx 0 0 s).map s7
theorem sW (n:Nat):IntKind.wrap .u8 ((BitVec.ofInt (IntKind.bits .u8) (IntKind.wrap .u8 (n:Int)) &&& BitVec.ofInt (IntKind.bits .u8) 63).toNat:Int)=((n % 64:Nat):Int):=by
 have key: ∀b:UInt8,IntKind.wrap .u8 ((BitVec.ofInt (IntKind.bits .u8) (b.toNat:Int) &&& BitVec.ofInt (IntKind.bits .u8) 63).toNat:Int)=((b.toNat % 64:Nat):Int):=fun b=>
  eq_of_beq (gE (p:=fun b=>IntKind.wrap .u8 ((BitVec.ofInt (IntKind.bits .u8) (b.toNat:Int) &&& BitVec.ofInt (IntKind.bits .u8) 63).toNat:Int) == ((b.toNat % 64:Nat):Int)) (by kernel_rfl) b)
 have h:=key (UInt8.ofNat n)
 rw [eW] at h
 have e:IntKind.wrap .u8 (n:Int)=((n % 2 ^ 8:Nat):Int):=mI n
 rw [e,h]
 congr 1; omega
theorem Vm (acc:UInt64) (b:UInt8):(acc <<< 8 ||| b.toUInt64).toNat=acc.toNat*256 % 18446744073709551616+b.toNat:=by
 have hb:=b.toNat_lt
 rw [UInt64.toNat_or,UInt64.toNat_shiftLeft,show (8:UInt64).toNat % 64=8 from rfl,Nat.shiftLeft_eq,show b.toUInt64.toNat=b.toNat from rfl]
 have e1:acc.toNat*2 ^ 8 % 2 ^ 64=(acc.toNat % 2 ^ 56) <<< 8:=by rw [Nat.shiftLeft_eq]; omega
 rw [e1,←Nat.shiftLeft_add_eq_or_of_lt aa,Nat.shiftLeft_eq]
 try omega
theorem kL: ∀s:aw,bytesOf (af s)=some s
 | []=>rfl
 | b ::s=>by
  have hb:=b.toNat_lt
  have e:af (b ::s)= .int .u8 (b.toNat:Int) ::af s:=rfl
  have h2:(0:Int)<=(b.toNat:Int)/\(b.toNat:Int) < 256:=by omega
  rw [e]
  simp only [bytesOf,kL s,if_pos h2,Int.toNat_natCast,UInt8.ofNat_toNat]
theorem row_one {σ:ag} {x:Int} {c:aA}:rowOf σ 1 (.vsl [.int .u8 x] c)=some [.int .u8 x]:=rfl
def PutI (s fin:aw) (q:Nat×Nat×Nat×UInt64×aw×aA) (σ:ag):Prop:=
 mz σ 1 q.2.2.2.2.2 q.2.2.2.2.1.length (af q.2.2.2.2.1)/\q.1<=s.length/\(q.2.1=0∨q.2.1=2∨q.2.1=4)/\q.2.2.2.1.toNat % 2 ^ q.2.1=q.2.2.1/\
 q.2.2.2.2.1 ++(sx q.2.1 q.2.2.1 (s.drop q.1)).map s7=fin/\q.2.2.2.2.1.length<=2*q.1
def R8 (s:aw) (q:Nat×Nat×Nat×UInt64×aw×aA):Fr:= [(1, .fn 167 [rM] []),(5,ik 1 q.2.2.2.2.2 q.2.2.2.2.1.length),(6,U q.2.2.2.1),(7, .int .u64 (q.2.1:Int)),(10, .vsl (af s) none),(11, .int .i64 s.length),(12, .int .i64 (q.1:Int))]
theorem jZ {σ:ag} {ob:aA} {out:aw} {c:UInt8} (h:mz σ 1 ob out.length (af out)) (hm:out.length < 2199023255552) :
  ∃σ',aF σ 1 1 (ik 1 ob out.length) [.int .u8 (c.toNat:Int)] 1=some (ik 1 (some σ.next) (out ++ [c]).length,σ')/\mz σ' 1 (some σ.next) (out ++ [c]).length (af (out ++ [c])):=by
 obtain ⟨σ',h1,h2,_,_⟩:=fY (bytes:=1) (k:=1) (new:= [.int .u8 (c.toNat:Int)]) h (by decide) (by decide) (by unfold aY; omega) rfl rfl (by decide)
 refine ⟨σ',by rw [aq]; exact h1,?_⟩
 rw [aq,lP]; exact h2
theorem RD (s:aw) (hn:s.length < 549755813888):cR 243 [bN s, .fn 167 [rM] []]=some (.str (kB s)):=by
 have hlen:=aM s
 refine aG (F:=VN) rfl ?_
 simp only [Ei,x9,x8,x6,VN,az,seval,ax,bN,hlen]
 refine aP (S:=Nat×Nat×Nat×UInt64×aw×aA) (R8 s) (fun q=>s.length - q.1)
  (PutI s (kB s)) ?_ (0,0,0,0, [],none) _ ⟨⟨rfl,rfl⟩,Nat.zero_le _, .inl rfl,rfl,rfl,Nat.zero_le _⟩
 rintro B ⟨i,nb,c,acc,out,ob⟩ σ1 ⟨g1,g2,g3,g4,g5,g6⟩ ih
 simp only at g1 g2 g3 g4 g5 g6
 unfold R8
 simp only
 by_cases hi:i=s.length
 ·subst hi
  have gt:decide ((s.length:Int) < (s.length:Int))=false:=decide_eq_false aa
  rw [List.drop_length,sx] at g5
  have qj {σ:ag} {ob:aA} {o:aw} (h:mz σ 1 ob o.length (af o)):fQ (rowOf σ 1 (ik 1 ob o.length))=some (.str o):=by
   cases ob with
   | none=>
    have h0:o= []:=ei h.1
    subst h0; rfl
   | some b=>
    obtain ⟨k1,k2,k3,k4⟩:=h
    have hb:σ.cells b=some (af o):=by unfold ag.cells; rw [k1]
    simp only [rowOf,ik,if_true,hb]
    rw [if_pos (by rw [aM]; omega),List.drop_zero,aJ (by rw [aM]; omega)]
    simp only [fQ,kL,Option.map_some]
  rcases g3 with rfl | rfl | rfl
  ·rw [if_pos rfl,List.map_nil,bC] at g5
   have h1:=qj g1
   rw [g5] at h1
   rw [g5]
   simp only [G4Fc,az,seval,ae,gt,h1]
  ·rw [if_neg (by decide)] at g5
   have sh:bk .shl .u64 (acc.toNat:Int) 4=some (U (acc <<< 4)):=AM acc 4 (by decide)
   have hv:(acc <<< 4).toNat % 64=c*2 ^ (6 - 2) % 64:=by
    rw [UInt64.toNat_shiftLeft,show (4:UInt64).toNat % 64=4 from rfl,Nat.shiftLeft_eq]
    omega
   have bP:= @qX (c*2 ^ (6 - 2) % 64) (aZ _ (by decide))
   obtain ⟨σ2,a1,a2⟩:=jZ (c:=s7 (c*2 ^ (6 - 2) % 64)) g1 aa
   have h1:=qj a2
   rw [show out ++ [s7 (c*2 ^ (6 - 2) % 64)]=kB s from g5] at h1 a1
   have hl:=congrArg List.length (show out ++ [s7 (c*2 ^ (6 - 2) % 64)]=kB s from g5)
   generalize c*2 ^ (6 - 2) % 64=w at*
   simp only [s7] at a1
   simp only [U] at sh
   simp only [G4Fc,az,seval,ae,U,gt,@fI,sh,sW,hv,bP,lenOf,row_one,a1,h1]
  ·rw [if_neg (by decide)] at g5
   have sh:bk .shl .u64 (acc.toNat:Int) 2=some (U (acc <<< 2)):=AM acc 2 (by decide)
   have hv:(acc <<< 2).toNat % 64=c*2 ^ (6 - 4) % 64:=by
    rw [UInt64.toNat_shiftLeft,show (2:UInt64).toNat % 64=2 from rfl,Nat.shiftLeft_eq]
    omega
   have bP:= @qX (c*2 ^ (6 - 4) % 64) (aZ _ (by decide))
   obtain ⟨σ2,a1,a2⟩:=jZ (c:=s7 (c*2 ^ (6 - 4) % 64)) g1 aa
   have h1:=qj a2
   rw [show out ++ [s7 (c*2 ^ (6 - 4) % 64)]=kB s from g5] at h1 a1
   generalize c*2 ^ (6 - 4) % 64=w at*
   simp only [s7] at a1
   simp only [U] at sh
   simp only [G4Fc,az,seval,ae,U,gt,@fI,sh,sW,hv,bP,lenOf,row_one,a1,h1]
 ·obtain ⟨b,hb⟩ : ∃b,s[i]? =some b:=⟨s[i]'(by omega),bx aa⟩
  have hdr:s.drop i=b ::s.drop (i+1):=by
   rw [List.drop_eq_getElem_cons aa,(bI.1 hb).2]
  rw [hdr,sx] at g5
  have Qs:(af s)[i]? =some (.int .u8 (b.toNat:Int)):=by rw [af,bV,hb]; rfl
  have rH:=mS (sz:=1) (c:=none) Qs rfl
  have aR:decide ((i:Int) < (s.length:Int))=true:=decide_eq_true aa
  have w1:IntKind.wrap .i64 ((i:Int)+1)=((i+1:Nat):Int):=by rw [aU aa aa]; omega
  have V0:bk .shl .u64 (acc.toNat:Int) 8=some (U (acc <<< 8)):=AM acc 8 (by decide)
  have hacc:=Vm acc b
  generalize hA:acc <<< 8 ||| b.toUInt64=A at*
  simp only [AV.cells] at rH
  simp only [U] at V0
  rcases g3 with rfl | rfl | rfl
  ·have mD:=Ba A (k:=2) (by decide) (by decide)
   have hs6:A.toNat / 4 % 64=(c*256+b.toNat) / 4 % 64:=by
    show A.toNat / 4 % 64=_
    omega
   have bP:= @qX ((c*256+b.toNat) / 4 % 64) (aZ _ (by decide))
   obtain ⟨σ2,a1,a2⟩:=jZ (c:=s7 ((c*256+b.toNat) / 4 % 64)) g1 aa
   simp only [s7] at a1
   simp only [G4Fb,az,seval,ae,U,ax,aN,aR,rH,w1,V0,ot,pK,gH,hA,@fI,mD,sW,hs6,bP,lenOf,row_one,a1]
   refine aN.1 (ih (i+1,2,(c*256+b.toNat) % 4,A,out ++ [s7 ((c*256+b.toNat) / 4 % 64)],some σ1.next) (R8 s (i+1,2,(c*256+b.toNat) % 4,A,out ++ [s7 ((c*256+b.toNat) / 4 % 64)],some σ1.next)) _ (by show s.length - (i+1) < s.length - i; omega) ⟨a2,by show i+1<=s.length; omega, .inr (.inl rfl),?_,?_,?_⟩ rfl)
   ·show A.toNat % 2 ^ 2=(c*256+b.toNat) % 4
    omega
   ·rw [←g5]; simp
   ·show (out ++ [_]).length<=2*(i+1)
    rw [aq]; simp; omega
  ·have mD:=Ba A (k:=4) (by decide) (by decide)
   have hs6:A.toNat / 16 % 64=(c*256+b.toNat) / 16 % 64:=by
    show A.toNat / 16 % 64=_
    omega
   have bP:= @qX ((c*256+b.toNat) / 16 % 64) (aZ _ (by decide))
   obtain ⟨σ2,a1,a2⟩:=jZ (c:=s7 ((c*256+b.toNat) / 16 % 64)) g1 aa
   simp only [s7] at a1
   simp only [G4Fb,az,seval,ae,U,ax,aN,aR,rH,w1,V0,ot,pK,gH,hA,@fI,mD,sW,hs6,bP,lenOf,row_one,a1]
   refine aN.1 (ih (i+1,4,(c*256+b.toNat) % 16,A,out ++ [s7 ((c*256+b.toNat) / 16 % 64)],some σ1.next) (R8 s (i+1,4,(c*256+b.toNat) % 16,A,out ++ [s7 ((c*256+b.toNat) / 16 % 64)],some σ1.next)) _ (by show s.length - (i+1) < s.length - i; omega) ⟨a2,by show i+1<=s.length; omega, .inr (.inr rfl),?_,?_,?_⟩ rfl)
   ·show A.toNat % 2 ^ 4=(c*256+b.toNat) % 16
    omega
   ·rw [←g5]; simp
   ·show (out ++ [_]).length<=2*(i+1)
    rw [aq]; simp; omega
  ·have mD:=Ba A (k:=6) (by decide) (by decide)
   have hsh0:bk .shr .u64 (A.toNat:Int) 0=some (.int .u64 (A.toNat:Int)):=by have:=Ba A (k:=0) (by decide) (by decide); rwa [show A.toNat / 2 ^ (0:Int).toNat=A.toNat from Nat.div_one _] at this
   have hs6:A.toNat / 64 % 64=(c*256+b.toNat) / 64 % 64:=by
    show A.toNat / 64 % 64=_
    omega
   have hs0:A.toNat % 64=(c*256+b.toNat) % 64:=by
    omega
   have bP:= @qX ((c*256+b.toNat) / 64 % 64) (aZ _ (by decide))
   have hcall2:= @qX ((c*256+b.toNat) % 64) (aZ _ (by decide))
   obtain ⟨σ2,a1,a2⟩:=jZ (c:=s7 ((c*256+b.toNat) / 64 % 64)) g1 aa
   obtain ⟨σ3,a3,a4⟩:=jZ (c:=s7 ((c*256+b.toNat) % 64)) a2 (by rw [aq]; simp; omega)
   simp only [s7] at a1 a3
   simp only [G4Fb,az,seval,ae,U,ax,aN,aR,rH,w1,V0,ot,pK,gH,hA,@fI,mD,hsh0,sW,hs6,hs0,bP,hcall2,lenOf,row_one,a1,a3]
   refine aN.1 (ih (i+1,0,0,A,out ++ [s7 ((c*256+b.toNat) / 64 % 64)] ++ [s7 ((c*256+b.toNat) % 64)],some σ2.next) (R8 s (i+1,0,0,A,out ++ [s7 ((c*256+b.toNat) / 64 % 64)] ++ [s7 ((c*256+b.toNat) % 64)],some σ2.next)) _ (by show s.length - (i+1) < s.length - i; omega) ⟨a4,by show i+1<=s.length; omega, .inl rfl,?_,?_,?_⟩ rfl)
   ·show A.toNat % 2 ^ 0=0
    omega
   ·rw [←g5]; simp
   ·show (out ++ [_] ++ [_]).length<=2*(i+1)
    rw [aq,aq]; simp; omega
theorem r_put (s:aw) (hn:s.length < 549755813888):cR 200 [bN s]=some (.str (kB s)):=by
 have h:=RD s hn
 have hc:ay [AV.int .u8 43, .int .u8 47]=true:=rfl
 refine aG (F:=F200) rfl ?_
 unfold rM at h
 simp only [bN] at h ⊢
 simp only [F200,az,seval,ae,gU,u8s,aC,bF,hc,AV.closed,ay,Hs,JT,h]
theorem Cy: ∀(s:aw) (nb c:Nat),(sx nb c s).length<=2*s.length+1
 | [],nb,c=>by unfold sx; split <;> simp
 | b ::s,nb,c=>by
  unfold sx
  split
  ·have:=Cy s 0 0; simp only [List.length_cons]; omega
  ·split
   ·have:=Cy s 4 ((c*256+b.toNat) % 16); simp only [List.length_cons]; omega
   ·have:=Cy s 2 ((c*256+b.toNat) % 4); simp only [List.length_cons]; omega
theorem FE (s:aw):(kB s).length<=2*s.length+1:=by rw [kB,aH]; exact Cy s 0 0
def V1Fa:=J @En.eq_1 (J @Nx.eq_1 (@H5.eq_1))
theorem Q0 (σ:ag) (a:aw) (c:aA):fQ (rowOf σ 1 (.vsl (af a) c))=some (.str a):=by
 have h:(af a).all (fun e=>e.cells.length == 1)=true:=by
  rw [bG]
  intro x hx
  obtain ⟨y,_,rfl⟩:=List.mem_map.1 hx
  rfl
 simp only [rowOf,h,if_true,gN,fQ,kL,Option.map_some]
theorem RW (a b:aw):cR 231 [bN a,bN b]=some (.bool (a == b)):=by
 refine aG (F:=F231) rfl ?_
 simp only [bN]
 simp only [F231,az,seval,VX,ae,aC,bF,Q0]
theorem ou {pub msg sig:aw} (h: ¬(pub.length=32/\sig.length=64/\bE (sig.drop 32) < LL)):lN aB pub msg sig=false:=by
 unfold lN
 by_cases h1:pub.length=32
 ·by_cases h2:sig.length=64
  ·have h3: ¬bE (sig.drop 32) < LL:=fun c=>h ⟨h1,h2,c⟩
   rw [decide_eq_false h3]; simp
  ·rw [cE.2 h2]; simp
 ·rw [cE.2 h1]; simp
theorem SP {n:Nat} {s:aw} (hn:n < 256 ^ 32) (hs:s.length=32):(toLE 32 n == s)=(n == bE s):=by
 rw [Bool.eq_iff_iff,beq_iff_eq,beq_iff_eq]
 constructor
 ·intro h; rw [←h,gQ _ _ hn]
 ·intro h; rw [h,←hs,s5]
def AQ:Option jP->ai
 | some (.own cs)=>cs
 | _=> []
theorem UP {st:Bool} {σ:ag} {b:Nat} {v s:aw} {c c':aA} {res:Bool} (h:AQ (look σ.m b)=af v) (hv:v.length=32) (hr:cR 231 [bN v,bN s]=some (.bool res)) :
  gf cA gU st (.fn 231 [] []) [.sl b 0 32 1 c, .vsl (af s) c'] σ=some (.bool res,σ):=by
 have hb:look σ.m b=some (.own (af v)):=by
  unfold AQ at h
  split at h
  ·rename_i cs e; rw [e,h]
  ·have:(af v).length=0:=by rw [←h]; rfl
   rw [aM] at this; omega
 have k1:rb σ bJ (.sl b 0 32 1 c)=some (bN v):=by
  rw [show bJ=23+1 from rfl,jC hb (by rw [aM]; omega) (aC _) (gy _),List.drop_zero,aJ (by rw [aM]; omega)]
 refine iz (args':= [bN v, .vsl (af s) c']) rfl ?_ ?_ rfl
 ·simp only [cS,k1,ck (show (AV.vsl (af s) c').closed=true from by simp only [AV.closed,aC])]
 ·rw [cg,cg,fW,fW,bF,bF,dt]; exact hr
theorem RX {pub msg sig:aw} (hm:msg.length < 1099511000000):cR 224 [bN pub,bN msg,bN sig]=some (.bool (lN aB pub msg sig)):=by
 have AX:(af pub).length=pub.length:=aM pub
 have C9:(af sig).length=sig.length:=aM sig
 by_cases hp:pub.length=32
 ·have hc:((pub.length:Int) != 32)=false:=by rw [hp]; rfl
  by_cases hs:sig.length=64
  ·have hd:((sig.length:Int) != 64)=false:=by rw [hs]; rfl
   have hf: ∀c,dq 1 (.vsl (af sig) c) (some 32) none none=some (.vsl (af (sig.drop 32)) (c.map (· - 32))):=fun c=>by
    have:=sj (c:=c) (l:=32) (cs:=af sig) aa (cp sig)
    rw [af,←List.map_drop] at this
    exact this
   have ht: ∀c,dq 1 (.vsl (af sig) c) none (some 32) none=some (.vsl (af (sig.take 32)) (c.map (· - 0))):=fun c=>by
    have:=oE (c:=c) (n:=32) (cs:=af sig) aa
    rw [af,←List.map_take] at this
    exact this
   have AZ:(sig.drop 32).length=32:=by rw [fw]; omega
   have aR:(sig.take 32).length=32:=by rw [bU]; omega
   have hg:=Xh AZ
   by_cases hl:bE (sig.drop 32) < LL
   ·have hp32:32<=pub.length:=by omega
    have htp:(af pub).take 32=af pub:=aJ aa
    have hlu:(af (sig.drop 32)).length=32:=by rw [aM,AZ]
    have htu:(af (sig.drop 32)).take 32=af (sig.drop 32):=aJ aa
    rw [decide_eq_true hl] at hg
    have hfl:([sig.take 32,pub,msg] :List (aw)).flatten=sig.take 32 ++pub ++msg:=by simp
    have rF:=IF (a:=sig.take 32) (rest:= [pub,msg]) (Nat.succ_pos _) (show 2 < 1099511627776 by decide) aa (by rw [hfl,aq,aq]; omega)
    rw [hfl] at rF
    simp only [List.map_cons,List.map_nil] at rF
    have hv:lN aB pub msg sig=match eF (bE pub) with
     | none=>false
     | some a=>bM (fZ (bX cd (bE (sig.drop 32))) (gP (bX a (bE (aB (sig.take 32 ++pub ++msg)) % LL)))) == bE (sig.take 32):=by
     rw [lN,decide_eq_true hl,hp,hs]; rfl
    rw [hv]
    have e2: ∀n,bE (toLE 32 (n % LL))=n % LL:=fun n=>gQ _ _ (bz (aZ _ (by decide)) (by decide))
    have hT:=LX (aX 32 (bE (aB (sig.take 32 ++pub ++msg)) % LL)) hp
    rw [e2] at hT
    have nA:(af (toLE 32 (bE (aB (sig.take 32 ++pub ++msg)) % LL))).length=32:=by rw [aM,aX]
    have uL:(af (toLE 32 (bE (aB (sig.take 32 ++pub ++msg)) % LL))).take 32=af (toLE 32 (bE (aB (sig.take 32 ++pub ++msg)) % LL)):=aJ aa
    have hB:=IN
    have hTB:=yU AZ
    generalize bE (aB (sig.take 32 ++pub ++msg)) % LL=kk at*
    have hon: ∀p,eF (bE pub)=some p->On p:=fun p=>tC
    generalize eF (bE pub)=o at*
    generalize bE (sig.drop 32)=ss at*
    generalize toLE 32 kk=kb at*
    cases o with
    | none=>
     simp only [Option.map_none,IQ,List.replicate] at hT
     simp only [bD] at hg rF hT
     refine aG (F:=H5) rfl ?_
     simp only [bN] at rF ⊢
     simp only [En,H5,az,seval,VX,ae,gN,aC,bF,cp,AX,C9,hc,hd,hf,ht,hlu,htu,hp32,htp,nA,uL,hg,rF,hT]
    | some a=>
     have oa:=hon a rfl
     have oP:=jj oa kk
     have oB:=jj jf ss
     simp only [Option.map_some,IQ] at hT
     have hN:=r_Neg (aX 32 (bM (bX a kk)))
     rw [qI,lE oP] at hN
     simp only [Option.map_some,IQ] at hN
     have hA:=r_Add (aX 32 (bM (bX cd ss))) (aX 32 (bM (gP (bX a kk))))
     rw [qI,lE oB,qI,lE (vh oP)] at hA
     simp only [Option.bind_some,Option.map_some,IQ] at hA
     have hE:=RW (toLE 32 (bM (fZ (bX cd ss) (gP (bX a kk))))) (sig.take 32)
     rw [SP (by have:=CS (fZ (bX cd ss) (gP (bX a kk))); omega) aR] at hE
     show cR 224 [bN pub,bN msg,bN sig]=some (.bool (bM (fZ (bX cd ss) (gP (bX a kk))) == bE (sig.take 32)))
     generalize (bM (fZ (bX cd ss) (gP (bX a kk))) == bE (sig.take 32))=res at*
     have L1:=aX 32 (bM (bX a kk))
     have L2:=aX 32 (bM (gP (bX a kk)))
     have L3:=aX 32 (bM (bX cd ss))
     have L4:=aX 32 (bM (fZ (bX cd ss) (gP (bX a kk))))
     have L5:=aX 32 (bM cd)
     generalize toLE 32 (bM (bX a kk))=v1 at*
     generalize toLE 32 (bM (gP (bX a kk)))=v2 at*
     generalize toLE 32 (bM (bX cd ss))=v3 at*
     generalize toLE 32 (bM (fZ (bX cd ss) (gP (bX a kk))))=v4 at*
     generalize toLE 32 (bM cd)=v5 at*
     have u1:(af v1).length=32:=by rw [aM,L1]
     have u2:(af v2).length=32:=by rw [aM,L2]
     have u3:(af v3).length=32:=by rw [aM,L3]
     have u4:(af v4).length=32:=by rw [aM,L4]
     have u5:(af v5).length=32:=by rw [aM,L5]
     have w1:(af v1).take 32=af v1:=aJ aa
     have w2:(af v2).take 32=af v2:=aJ aa
     have w3:(af v3).take 32=af v3:=aJ aa
     have w4:(af v4).take 32=af v4:=aJ aa
     have w5:(af v5).take 32=af v5:=aJ aa
     simp only [bD] at hg rF hT hN hA hB hTB
     refine aG (F:=H5) rfl ?_
     simp only [bN] at rF hE ⊢
     simp only [V1Fa,az,seval,VX,ae,gN,aC,bF,cp,AX,C9,hc,hd,hf,ht,hlu,htu,hp32,htp,nA,uL,hg,rF,hT,hN,hA,hB,hTB,@eJ _ 4 32 (by decide),pA,AQ,@UP _ _ 4 v4 (sig.take 32) _ _ res,L4,hE,u1,u2,u3,u4,u5,w1,w2,w3,w4,w5]
   ·rw [ou (fun c=>hl c.2.2)]
    rw [decide_eq_false hl] at hg
    have hlu:(af (sig.drop 32)).length=32:=by rw [aM,AZ]
    have htu:(af (sig.drop 32)).take 32=af (sig.drop 32):=aJ aa
    simp only [bD] at hg
    refine aG (F:=H5) rfl ?_
    simp only [bN]
    simp only [V1Fa,az,seval,VX,ae,gN,aC,bF,AX,C9,hc,hd,hf,hlu,htu,hg]
  ·have hd:((sig.length:Int) != 64)=true:=by rw [bne_iff_ne]; omega
   rw [ou (fun c=>hs c.2.1)]
   refine aG (F:=H5) rfl ?_
   simp only [bN]
   simp only [V1Fa,az,seval,VX,ae,gN,aC,bF,AX,C9,hc,hd]
 ·have hc:((pub.length:Int) != 32)=true:=by rw [bne_iff_ne]; omega
  rw [ou (fun c=>hp c.1)]
  refine aG (F:=H5) rfl ?_
  simp only [bN]
  simp only [V1Fa,az,seval,VX,ae,gN,aC,bF,AX,C9,hc]
def H7:= @KO.eq_1
theorem L9 {σ:ag} {b n:Nat} {cs:ai} (h:look σ.m b=some (.own cs)) (hl:cs.length=n) (h0:0 < n) (hb:b < σ.next) (m:aw) (hm:n+m.length < 2199023255552) :
  ∃b' σ',aF σ 1 1 (.sl b 0 n 1 none) (af m) m.length=some (.sl b' 0 (n+m.length) 1 none,σ')/\look σ'.m b'=some (.own (cs ++af m))/\b' < σ'.next:=by
 by_cases h1:m.length=0
 ·have:=ei h1
  subst this
  refine ⟨b,σ,?_,?_,hb⟩
  ·have ho:σ.owned b=some cs:=by unfold ag.owned ag.get; rw [h]
   unfold aF
   simp only [lenOf]
   rw [if_pos ⟨by decide,by decide,by unfold aY; simp at hm ⊢; omega,rfl,rfl⟩]
   simp [ho]
  ·rw [show af []= [] from rfl,bC]; exact h
 ·obtain ⟨σ',h1,h2,h3,h4⟩:=fY (σ:=σ) (sz:=1) (bytes:=1) (n:=n) (k:=m.length) (ob:=some b) (cells:=cs) (new:=af m) ⟨h,by omega,hb,h0⟩ (by decide) (by decide) (by unfold aY; omega) (by rw [aM]; omega) (cp m) aa
  exact ⟨σ.next,σ',h1,h2.1,by rw [h3]; exact aV _⟩
theorem rbE_u8 {σ:ag} {b n:Nat} {s:aw} (h:look σ.m b=some (.own (af s))) (hn:s.length=n):rbE σ (.sl b 0 n 1 none)=some (bN s):=by
 have:=jC (d:=23) (off:=0) (n:=n) (c:=none) h (by rw [aM]; omega) (aC _) (gy _)
 rw [List.drop_zero,aJ (by rw [aM]; omega)] at this
 unfold rbE
 rw [show bJ=23+1 from rfl,this,Option.map_some,fW,bF]
theorem Xn {a b c:aw} (ha:0 < a.length) (hn:a.length+b.length+c.length < 2199023255552):cR 235 [bN a,bN b,bN c]=some (bN (a ++b ++c)):=by
 have h1:aF ⟨0, []⟩ 1 1 (.vsl [] (some 0)) (af a) a.length=some (.sl 0 0 a.length 1 none,ag.alloc ⟨0, []⟩ (af a)):=by
  have hr {σ:ag}:rowOf σ 1 (.vsl [] (some 0))=some []:=rfl
  unfold aF
  simp only [lenOf,List.length_nil]
  rw [if_pos ⟨by decide,by decide,by unfold aY; omega,by rw [aM]; omega,cp a⟩]
  simp [hr,show ¬a.length=0 by omega]
 have h2:look (ag.alloc ⟨0, []⟩ (af a)).m 0=some (.own (af a)):=by simp [ag.alloc,look]
 obtain ⟨b1,σ1,q1,q2,q3⟩:=L9 h2 (aM a) ha (by simp [ag.alloc]) b aa
 rw [←lP] at q2
 simp only [ag.alloc,Nat.zero_add] at h1 q1
 obtain ⟨b2,σ2,e1,e2,e3⟩:=L9 q2 (by rw [aM,aq]) aa q3 c aa
 rw [←lP] at e2
 have hR:=rbE_u8 (n:=a.length+b.length+c.length) e2 (by simp only [aq])
 refine aG (F:=F235) rfl ?_
 simp only [F235,az,seval,ae,bN,lenOf,pS,aM,h1,q1,e1,hR]
theorem Rz {s:aw} (hn:s.length < 1099511627776):cR 236 [bN s]=some (bD (toLE 32 (bE (aB s) % LL))):=by
 have hs:=Oo hn
 have hL:=lT s
 generalize aB s=h at*
 have ho:=r_rOfL hL
 have Ic:=aX 32 (bE h % LL)
 generalize toLE 32 (bE h % LL)=v at*
 have u1:(af h).length=64:=by rw [aM,hL]
 have t1:(af h).take 64=af h:=aJ aa
 have d1:(af h).drop 64= []:=List.drop_of_length_le aa
 have u2:(af v).length=32:=by rw [aM,Ic]
 have t2:(af v).take 32=af v:=aJ aa
 have d2:(af v).drop 32= []:=List.drop_of_length_le aa
 have hP {σ:ag} {b:Nat} (hb:look σ.m b=some (.own (af h))) {c:aA}:gf cA gU false (.fn 305 [] []) [.sl b 0 64 1 c] σ=some (bD v,σ):=by
  refine qw hb (by rw [u1]; decide) (aC _) (gy _) ?_ ?_ (by simp only [bD,AV.flat,lr])
  ·rw [List.drop_zero,t1,bF]
  ·rw [List.drop_zero,t1]; exact ho
 simp only [bD] at hs hP ⊢
 refine aG (F:=F236) rfl ?_
 simp only [F236,az,seval,ae,bN,aC,bF,cp,hs,u1,t1,d1,u2,t2,d2,@eJ _ 1 64 (by decide),pA,@hP _ 1]
theorem Cc {σ:ag} {b n:Nat} {c e:aA} {s:aw} (h0:0 < n) (h:pA (look σ.m b)=n) (hs:s.length=n) :
  js σ 1 (.sl b 0 n 1 c) (.vsl (af s) e)=some (.int .i64 (n:Int),{ σ with m:=(b, .own (af s)) ::σ.m }):=by
 unfold pA at h
 split at h
 ·rename_i cs hb
  have e2:σ.owned b=some cs:=by unfold ag.owned ag.get; rw [hb]
  simp only [js,lenOf,pS,e2,ag.set,splice,List.take_zero,List.nil_append,Nat.zero_add,aM,hs]
  rw [if_neg aa,if_pos ⟨trivial,by decide,aD _,by omega,by omega,cp s⟩,List.drop_of_length_le aa,bC]
 ·omega
theorem xg {σ:ag} {b n:Nat} {c:aA} {v:aw} (h:AQ (look σ.m b)=af v) (h0:0 < n) (hv:v.length=n):rowOf σ 1 (.sl b 0 n 1 c)=some (af v):=by
 have hb:look σ.m b=some (.own (af v)):=by
  unfold AQ at h
  split at h
  ·rename_i cs e; rw [e,h]
  ·have:(af v).length=0:=by rw [←h]; rfl
   rw [aM] at this; omega
 have e1:σ.cells b=some (af v):=by unfold ag.cells ag.get; rw [hb]
 simp only [rowOf,if_true,e1]
 rw [if_pos (by rw [aM]; omega),List.drop_zero,aJ (by rw [aM]; omega)]
theorem SF (x y:K):(⟨0 - x,y,1,0 - x*y⟩ :Wd)=gR (gP (x,y)):=by
 simp only [gR,gP,Wd.mk.injEq]
 exact ⟨by grobner,trivial,trivial,by grobner⟩
theorem J2 (x y:K):(EZ (gR (x,y))).cells= [.int .u64 ((wq x.val 0).toNat:Int), .int .u64 ((wq x.val 1).toNat:Int), .int .u64 ((wq x.val 2).toNat:Int), .int .u64 ((wq x.val 3).toNat:Int), .int .u64 ((wq y.val 0).toNat:Int), .int .u64 ((wq y.val 1).toNat:Int), .int .u64 ((wq y.val 2).toNat:Int), .int .u64 ((wq y.val 3).toNat:Int), .int .u64 ((wq (1:K).val 0).toNat:Int), .int .u64 ((wq (1:K).val 1).toNat:Int), .int .u64 ((wq (1:K).val 2).toNat:Int), .int .u64 ((wq (1:K).val 3).toNat:Int), .int .u64 ((wq (x*y).val 0).toNat:Int), .int .u64 ((wq (x*y).val 1).toNat:Int), .int .u64 ((wq (x*y).val 2).toNat:Int), .int .u64 ((wq (x*y).val 3).toNat:Int)]:=rfl
theorem PR (x y:K):(EZ ⟨0 - x,y,1,0 - x*y⟩).cells= [.int .u64 ((wq (0 - x).val 0).toNat:Int), .int .u64 ((wq (0 - x).val 1).toNat:Int), .int .u64 ((wq (0 - x).val 2).toNat:Int), .int .u64 ((wq (0 - x).val 3).toNat:Int), .int .u64 ((wq y.val 0).toNat:Int), .int .u64 ((wq y.val 1).toNat:Int), .int .u64 ((wq y.val 2).toNat:Int), .int .u64 ((wq y.val 3).toNat:Int), .int .u64 ((wq (1:K).val 0).toNat:Int), .int .u64 ((wq (1:K).val 1).toNat:Int), .int .u64 ((wq (1:K).val 2).toNat:Int), .int .u64 ((wq (1:K).val 3).toNat:Int), .int .u64 ((wq (0 - x*y).val 0).toNat:Int), .int .u64 ((wq (0 - x*y).val 1).toNat:Int), .int .u64 ((wq (0 - x*y).val 2).toNat:Int), .int .u64 ((wq (0 - x*y).val 3).toNat:Int)]:=rfl
theorem Om {pub msg sig:aw} (hm:msg.length < 1099511000000):cR 197 [bN pub,bN msg,bN sig]=some (.bool (lN aB pub msg sig)):=by
 by_cases hp:pub.length=32
 ·have hc:((pub.length:Int) != 32)=false:=by rw [hp]; rfl
  by_cases hs:sig.length=64
  ·have hd:((sig.length:Int) != 64)=false:=by rw [hs]; rfl
   have hf: ∀c,dq 1 (.vsl (af sig) c) (some 32) none none=some (.vsl (af (sig.drop 32)) (c.map (· - 32))):=fun c=>by
    have:=sj (c:=c) (l:=32) (cs:=af sig) (by rw [aM]; omega) (cp sig)
    rw [af,←List.map_drop] at this
    exact this
   have ht: ∀c,dq 1 (.vsl (af sig) c) none (some 32) none=some (.vsl (af (sig.take 32)) (c.map (· - 0))):=fun c=>by
    have:=oE (c:=c) (n:=32) (cs:=af sig) (by rw [aM]; omega)
    rw [af,←List.map_take] at this
    exact this
   have AZ:(sig.drop 32).length=32:=by rw [fw]; omega
   have aR:(sig.take 32).length=32:=by rw [bU]; omega
   have AY:=LN hp
   have hon: ∀p,eF (bE pub)=some p->On p:=fun p=>tC
   have hg:=Xs AZ
   have cp1:= @Cc (b:=0) (n:=32) (s:=pub) (h0:=by decide) (hs:=hp)
   have cp2:= @Cc (b:=1) (n:=32) (s:=sig.drop 32) (h0:=by decide) (hs:=AZ)
   have up:(af pub).length=32:=by rw [aM,hp]
   have tp:(af pub).take 32=af pub:=aJ aa
   have us:(af (sig.drop 32)).length=32:=by rw [aM,AZ]
   have ts:(af (sig.drop 32)).take 32=af (sig.drop 32):=aJ aa
   have Tf:lN aB pub msg sig=(decide (bE (sig.drop 32) < LL) && match eF (bE pub) with
    | none=>false
    | some a=>bM (fZ (bX cd (bE (sig.drop 32))) (gP (bX a (bE (aB (sig.take 32 ++pub ++msg)) % LL)))) == bE (sig.take 32)):=by
    unfold lN; rw [hp,hs]; simp only [beq_self_eq_true,Bool.true_and]
    cases eF (bE pub) <;> rfl
   rw [Tf]
   clear Tf
   generalize eF (bE pub)=o at*
   cases o with
   | none=>
    simp only [AR,bD,List.replicate] at AY
    simp only [bg]
    refine aG (F:=KO) rfl ?_
    simp only [H7,az,seval,ae,bN,aM,gN,aC,bF,cp,hc,hd,hf,ht,@eJ _ 0 32 (by decide),@eJ _ 1 32 (by decide),pA,cp1,cp2,up,tp,us,ts,AY]
   | some a=>
    obtain ⟨x,y⟩:=a
    have ha:=hon _ rfl
    simp only [AR,wE,J2] at AY
    by_cases tY:bE (sig.drop 32) < LL
    ·rw [decide_eq_true tY] at hg
     rw [decide_eq_true tY,Bool.true_and]
     have hj:=Xn (a:=sig.take 32) (b:=pub) (c:=msg) aa aa
     have ho:=Rz (s:=sig.take 32 ++pub ++msg) (by simp only [aq]; omega)
     generalize sig.take 32 ++pub ++msg=J at*
     have hk:bE (aB J) % LL < LL:=aZ _ (by decide)
     generalize bE (aB J) % LL=kk at*
     have V9:=aX 32 kk
     have hkv:bE (toLE 32 kk)=kk:=gQ _ _ (bz hk (by decide))
     have hT:=Ft V9 ⟨0 - x,y,1,0 - x*y⟩
     have hB:=RI AZ
     have hS:=IH (gn (gR cd) (bE (sig.drop 32)) 256 gZ) (gn ⟨0 - x,y,1,0 - x*y⟩ (bE (toLE 32 kk)) 256 gZ)
     have hP:=RG (nD (gn (gR cd) (bE (sig.drop 32)) 256 gZ) (gn ⟨0 - x,y,1,0 - x*y⟩ (bE (toLE 32 kk)) 256 gZ))
     have r1:=Fk (nP cd) jf (bE (sig.drop 32)) (bz tY (by decide))
     have r2:A8 (gn ⟨0 - x,y,1,0 - x*y⟩ (bE (toLE 32 kk)) 256 gZ) (gP (bX (x,y) kk)):=by
      rw [SF,hkv,←FW]
      exact Fk (nP _) (vh ha) kk (bz hk (by decide))
     have hA:=xh (tf r1 r2 (jj jf _) (vh (jj ha _)))
     rw [hA] at hP
     clear r1 r2 hA
     have hL4:=aX 32 (bM (fZ (bX cd (bE (sig.drop 32))) (gP (bX (x,y) kk))))
     have hE:=SP (n:=bM (fZ (bX cd (bE (sig.drop 32))) (gP (bX (x,y) kk)))) (by have:=CS (fZ (bX cd (bE (sig.drop 32))) (gP (bX (x,y) kk))); omega) aR
     generalize toLE 32 (bM (fZ (bX cd (bE (sig.drop 32))) (gP (bX (x,y) kk))))=v at*
     show cR 197 [bN pub,bN msg,bN sig]=some (.bool (bM (fZ (bX cd (bE (sig.drop 32))) (gP (bX (x,y) kk))) == bE (sig.take 32)))
     generalize (bM (fZ (bX cd (bE (sig.drop 32))) (gP (bX (x,y) kk))) == bE (sig.take 32))=res at*
     generalize gn ⟨0 - x,y,1,0 - x*y⟩ (bE (toLE 32 kk)) 256 gZ=w2 at*
     generalize gn (gR cd) (bE (sig.drop 32)) 256 gZ=w1 at*
     generalize nD w1 w2=w3 at*
     generalize toLE 32 kk=kb at*
     have uk:(af kb).length=32:=by rw [aM,V9]
     have tk:(af kb).take 32=af kb:=aJ aa
     have dk:(af kb).drop 32= []:=List.drop_of_length_le aa
     have uv:(af v).length=32:=by rw [aM,hL4]
     have tv:(af v).take 32=af v:=aJ aa
     have dv:(af v).drop 32= []:=List.drop_of_length_le aa
     have rw4 {σ:ag} (h:AQ (look σ.m 4)=af v) {c:aA}:rowOf σ 1 (.sl 4 0 32 1 c)=some (af v):=xg h (by decide) hL4
     have n1:=qE 0 x
     have n2:=qE 0 (x*y)
     rw [show an (0:K).val=_ from pn] at n1 n2
     simp only [wE,PR] at hT hB hS hP
     simp only [bD,an,U] at AY hg ho hT hB hS hP n1 n2
     refine aG (F:=KO) rfl ?_
     simp only [bN] at hj ho
     simp only [H7,az,seval,ae,bN,aM,gN,aC,bF,cp,hc,hd,hf,ht,@eJ _ 0 32 (by decide),@eJ _ 1 32 (by decide),@eJ _ 4 32 (by decide),pA,cp1,cp2,up,tp,us,ts,uk,tk,dk,uv,tv,dv,AY,hg,hj,ho,n1,n2,hT,hB,hS,hP,ij,fP,mJ,ig,cO,jA,AQ,rw4,pS,fQ,kL,hE]
    ·rw [decide_eq_false tY] at hg
     rw [decide_eq_false tY,Bool.false_and]
     simp only [bD] at AY hg
     refine aG (F:=KO) rfl ?_
     simp only [H7,az,seval,ae,bN,aM,gN,aC,bF,cp,hc,hd,hf,ht,@eJ _ 0 32 (by decide),@eJ _ 1 32 (by decide),pA,cp1,cp2,up,tp,us,ts,AY,hg]
  ·have hd:((sig.length:Int) != 64)=true:=by rw [bne_iff_ne]; omega
   rw [ou (fun c=>hs c.2.1)]
   refine aG (F:=KO) rfl ?_
   simp only [H7,az,seval,ae,bN,aM,gN,aC,bF,hc,hd]
 ·have hc:((pub.length:Int) != 32)=true:=by rw [bne_iff_ne]; omega
  rw [ou (fun c=>hp c.1)]
  refine aG (F:=KO) rfl ?_
  simp only [H7,az,seval,ae,bN,aM,gN,aC,bF,hc]
end Go.Ab
