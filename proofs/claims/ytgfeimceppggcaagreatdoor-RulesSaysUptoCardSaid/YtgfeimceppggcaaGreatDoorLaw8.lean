/- What functions of the program, and of the library, answer. Conditions: none. -/
import Derived.Test.YtgfeimceppggcaaGreatDoorLaw7
import Derived.Test.YtgfeimceppggcaaGreatDoorLaw4
set_option linter.unusedVariables false
set_option linter.unusedSimpArgs false
set_option linter.defProp false
set_option linter.unnecessarySimpa false
namespace Go.Ab
set_option maxRecDepth 100000
set_option maxHeartbeats 1000000
def D15Fe:=J @pP.eq_1 (J @mI.eq_1 (J @mH.eq_1 (J @te.eq_1 (J @mG.eq_1 (J @mF.eq_1 (J @mE.eq_1 (J @mD.eq_1 (J @mC.eq_1 (J @mB.eq_1 (J @kA.eq_1 (J @lO.eq_1 (J @kv.eq_1 (J @ku.eq_1 (@CE.eq_1))))))))))))))
def D15Ff:=J @pP.eq_1 (J @mI.eq_1 (J @mH.eq_1 (J @te.eq_1 (J @mG.eq_1 (J @mF.eq_1 (J @wW.eq_1 (J @mE.eq_1 (J @mD.eq_1 (J @mC.eq_1 (J @mB.eq_1 (J @kA.eq_1 (J @lO.eq_1 (J @kv.eq_1 (J @ku.eq_1 (@CE.eq_1)))))))))))))))
theorem OI (v:V8):v.cells.length=8:=rfl
theorem Jm (v:V8):v.cells.take 8=v.cells:=rfl
theorem Jn (v:V8):v.cells.drop 8= []:=rfl
theorem OH (v:V8):v.cells.all AV.one=true:=rfl
theorem L8 {s:aG} (hn:s.length < 1099511627776):cR 304 [cx s]=some (bG (cO s)):=by
 have hp:=Ma hn
 have hK:=Pl
 have hH:=Pp
 have hlenP:=sk s
 have hT:=pX s.length
 generalize hP:eO s=P at*
 have W2:cO s=GP (mQ KK (kJ s.length / 128) HH P):=by rw [cO,hP]
 rw [W2]
 have hKl:KK.length=80:=rfl
 have hKc:(KK.map U).length=80:=rfl
 have hKt:(KK.map U).take 80=KK.map U:=rfl
 have hKo:(KK.map U).all AV.one=true:=rfl
 generalize hks:KK.map U=ks at*
 generalize hN:kJ s.length / 128=N at*
 have hNb:N < 17179869184:=by omega
 generalize hR:mQ KK N HH P=R at*
 refine aC (F:=CE) rfl ?_
 simp only [pP,mI,mH,mG,mF,mE,mD,mC,mB,kA,kv,ku,CE,ax,seval,ae,ay,cx,aK,bS,hK,hH,hp,hKc,hKt,hKo,OI,Jm,Jn,OH]
 refine aL (S:=Nat×V8) (fun q=> [(2, .ptr 0 0),(3, .ptr 1 0),(4, .ptr 2 0),(5,cx P),(6, .int .i64 ((128*q.1:Nat):Int))]) (fun q=>N - q.1)
  (fun q σ'=>look σ'.m 2=some (.own q.2.cells)/\look σ'.m 1=some (.own ks)/\look σ'.m 0=some (.own (List.replicate 64 (.int .u8 0)))/\3<=σ'.next/\q.1<=N/\mQ KK (N - q.1) q.2 (P.drop (128*q.1))=R) ?_ (0,HH) _ ⟨rfl,rfl,rfl,aE _,Nat.zero_le _,hR⟩
 rintro B ⟨i,v⟩ σ1 ⟨g2,g1,g0,g3,g4,g5⟩ ih
 simp only at g2 g1 g0 g3 g4 g5 ih
 by_cases hi:i=N
 ·have aN:decide (((128*i:Nat):Int) < (P.length:Int))=false:=decide_eq_false aa
  have hv:v=R:=by
   rw [hi,Nat.sub_self] at g5; exact g5
  rw [←hv]
  have fX: ¬σ1.next=0:=by omega
  have hne2: ¬σ1.next=2:=by omega
  rw [P8]
  unfold V8.cells at g2
  simp only [List.replicate] at g0
  clear ih W2 hv
  simp only [bG,af,List.map_cons,List.map_nil]
  simp only [pP,mI,mH,mG,mF,mE,mD,mC,mB,kA,lO,kv,ku,FR,CE,ax,seval,ae,ay,aT,cx,aU,aN,@aP,@bk,U,g2,g0,fX,hne2,@Zm,wb8]
 ·have aN:decide (((128*i:Nat):Int) < (P.length:Int))=true:=decide_eq_true aa
  have hw0: ¬σ1.next=0:=by omega
  have vi: ¬σ1.next=1:=by omega
  have vM: ¬σ1.next=2:=by omega
  have wk:((P.drop (128*i)).take 128).length=128:=by rw [bE,gA]; omega
  have hsat: ∀j,j < 128->((P.drop (128*i)).take 128)[j]? =P[128*i+j]? :=fun j hj=>by
   rw [List.getElem?_take,if_pos hj,List.getElem?_drop]
  have W8:mQ KK (N - (i+1)) (MN KK v ((P.drop (128*i)).take 128)) (P.drop (128*(i+1)))=R:=by
   rw [←g5,show N - i=N - (i+1)+1 by omega,mQ,List.drop_drop,show 128*i+128=128*(i+1) by omega]
  generalize (P.drop (128*i)).take 128=T at*
  simp only [pP,mI,mH,mG,mF,mE,mD,mC,mB,kA,lO,kv,ku,CE,ax,seval,ae,cx,aU,aN,ay]
  refine aL (S:=Nat) (fun j=> [(2, .ptr 0 0),(3, .ptr 1 0),(4, .ptr 2 0),(5,cx P),(6, .int .i64 ((128*i:Nat):Int)),(7, .ptr σ1.next 0),(8, .int .i64 (j:Int))]) (fun j=>128 - j)
   (fun j σ'=>look σ'.m 2=some (.own v.cells)/\look σ'.m 1=some (.own ks)/\look σ'.m 0=some (.own (List.replicate 64 (.int .u8 0)))/\look σ'.m σ1.next=some (.own (N9 T j))/\σ1.next < σ'.next/\j<=128) ?_ 0 _ ?_
  ·rintro B1 j σ2 ⟨k2,k1,k0,kw,kn,kj⟩ ih1
   by_cases hj:j=128
   ·subst hj
    rw [Uz] at kw
    have Xb:decide (((128:Nat):Int) < 128)=false:=rfl
    clear ih1
    simp only [D15Fe,ax,seval,ae,Xb,ay]
    refine aL (S:=Nat) (fun j=> [(2, .ptr 0 0),(3, .ptr 1 0),(4, .ptr 2 0),(5,cx P),(6, .int .i64 ((128*i:Nat):Int)),(7, .ptr σ1.next 0),(9, .int .i64 (j:Int))]) (fun j=>80 - j)
     (fun j σ'=>look σ'.m 2=some (.own v.cells)/\look σ'.m 1=some (.own ks)/\look σ'.m 0=some (.own (List.replicate 64 (.int .u8 0)))/\look σ'.m σ1.next=some (.own (vI T j))/\σ1.next < σ'.next/\16<=j/\j<=80) ?_ 16 _ ⟨k2,k1,k0,kw,kn,aE _,by decide⟩
    rintro B2 j σ3 ⟨l2,l1,l0,lw,ln,lj,lk⟩ ir
    by_cases Xf:j=80
    ·subst Xf
     have F2:decide (((80:Nat):Int) < 80)=false:=rfl
     have hu: ¬σ3.next=σ1.next:=by omega
     have hu': ¬σ1.next=σ3.next:=by omega
     have hu0: ¬σ3.next=0:=by omega
     have WZ: ¬σ3.next=1:=by omega
     have Hk: ¬σ3.next=2:=by omega
     have hu2': ¬2=σ3.next:=by omega
     clear ir
     simp only [D15Ff,ax,seval,ae,F2,ay,l2,Hk,OI,Jm,Jn,OH]
     refine aL (S:=Nat) (fun j=> [(2, .ptr 0 0),(3, .ptr 1 0),(4, .ptr 2 0),(5,cx P),(6, .int .i64 ((128*i:Nat):Int)),(7, .ptr σ1.next 0),(12, .ptr σ3.next 0),(13, .int .i64 (j:Int))]) (fun j=>80 - j)
      (fun j σ'=>look σ'.m 2=some (.own v.cells)/\look σ'.m 1=some (.own ks)/\look σ'.m 0=some (.own (List.replicate 64 (.int .u8 0)))/\look σ'.m σ1.next=some (.own (vI T 80))/\look σ'.m σ3.next=some (.own (gF v ((lU (jY T 80) KK).take j)).cells)/\σ3.next < σ'.next/\j<=80) ?_ 0 _ ?_
     ·rintro B3 j σ4 ⟨m2,m1,m0,mw,mu,mn,mj⟩ ih3
      by_cases hj3:j=80
      ·subst hj3
       have hL:(lU (jY T 80) KK).length=80:=by rw [lU,List.length_zipWith,iJ,hKl]; rfl
       rw [aQ aa] at mu
       have hmix:MN KK v T=v.add (gF v (lU (jY T 80) KK)):=rfl
       rw [hmix] at W8
       generalize gF v (lU (jY T 80) KK)=r at*
       unfold V8.cells at m2 mu
       have wp:IntKind.wrap .i64 (((128*i:Nat):Int)+128)=((128*(i+1):Nat):Int):=by rw [aP aa aa]; omega
       clear ih3
       simp only [pP,mI,mH,te,mG,mF,wW,mE,mD,CD,mC,mB,K7,kA,lO,kv,ku,CE,ax,seval,ae,F2,ay,aT,@aP,@bk,m2,mu,Hk,hu2',U,k9,wp]
       refine aT.1 (ih (i+1,v.add r) [(2, .ptr 0 0),(3, .ptr 1 0),(4, .ptr 2 0),(5,cx P),(6, .int .i64 ((128*(i+1):Nat):Int))] _ (by show N - (i+1) < N - i; omega) ⟨?_,?_,?_,?_,by show i+1<=N; omega,W8⟩ rfl)
       ·simp [look,V8.cells,V8.add]
       ·simpa [look] using m1
       ·simpa [look] using m0
       ·show 3<=σ4.next; omega
      ·have hl3:decide ((j:Int) < 80)=true:=decide_eq_true aa
       have w2:IntKind.wrap .i64 ((j:Int)+1)=((j+1:Nat):Int):=by rw [aP aa aa]; omega
       have hx3:=iu (k:= .i64) (n:=80) (b:=1) (j:=j) aa
       have hx7:=iu (k:= .i64) (n:=80) (b:=σ1.next) (j:=j) aa
       have iD:=mJ T (i:=80) (j:=j) aa
       obtain ⟨y,hy⟩ : ∃y,KK[j]? =some y:=⟨KK[j]'(by omega),bo aa⟩
       have hym:ks[j]? =some (U y):=by rw [←hks,bO,hy]; rfl
       have hL:(lU (jY T 80) KK)[j]? =some ((jY T 80).getD j 0+y):=by
        have hw:(jY T 80)[j]? =some ((jY T 80).getD j 0):=by
         rw [a9,bo (by rw [iJ]; omega)]; rfl
        rw [lU,List.getElem?_zipWith,hw,hy]
       have EM:(lU (jY T 80) KK).take (j+1)=(lU (jY T 80) KK).take j ++ [(jY T 80).getD j 0+y]:=by
        have hi:=(bA.1 hL).1
        rw [eR hi,(bA.1 hL).2]
       have tr:gF v ((lU (jY T 80) KK).take (j+1))=zJ (gF v ((lU (jY T 80) KK).take j)) ((jY T 80).getD j 0+y):=by
        rw [EM,qZ]; rfl
       rw [US] at tr
       generalize (jY T 80).getD j 0=w at*
       generalize gF v ((lU (jY T 80) KK).take j)=u at*
       have r1 {y:UInt64}:=iX (x:=y) (k:=50) (j:=50) (by kernel_rfl) (by decide) (by decide)
       have r2 {y:UInt64}:=iX (x:=y) (k:=46) (j:=46) (by kernel_rfl) (by decide) (by decide)
       have r3 {y:UInt64}:=iX (x:=y) (k:=23) (j:=23) (by kernel_rfl) (by decide) (by decide)
       have r4 {y:UInt64}:=iX (x:=y) (k:=36) (j:=36) (by kernel_rfl) (by decide) (by decide)
       have r5 {y:UInt64}:=iX (x:=y) (k:=30) (j:=30) (by kernel_rfl) (by decide) (by decide)
       have r6 {y:UInt64}:=iX (x:=y) (k:=25) (j:=25) (by kernel_rfl) (by decide) (by decide)
       unfold V8.cells at mu
       simp only [U] at iD hym r1 r2 r3 r4 r5 r6 mu
       clear ih W8 g5
       simp only [pP,mI,mH,te,mG,mF,wW,mE,mD,CD,mC,mB,kA,lO,kv,ku,CE,ax,seval,ae,hl3,w2,hx3,hx7,iD,hym,m1,mw,mu,@bk,r1,r2,r3,r4,r5,r6,Zo,k9,gK,rP,Dr,iy]
       refine ih3 (j+1) _ _ (by show 80 - (j+1) < 80 - j; omega) ⟨?_,?_,?_,?_,?_,mn,by omega⟩ rfl
       ·simpa [look,Hk] using m2
       ·simpa [look,WZ] using m1
       ·simpa [look,hu0] using m0
       ·simpa [look,hu] using mw
       ·rw [tr]; simp [look,V8.cells]
     ·refine ⟨?_,?_,?_,?_,?_,aR _,by decide⟩
      ·simpa [look,Hk] using l2
      ·simpa [look,WZ] using l1
      ·simpa [look,hu0] using l0
      ·simpa [look,hu] using lw
      ·simp [look,gF]
    ·have aN:decide ((j:Int) < 80)=true:=decide_eq_true aa
     have w2:IntKind.wrap .i64 ((j:Int)+1)=((j+1:Nat):Int):=by rw [aP aa aa]; omega
     have v15:IntKind.wrap .i64 ((j:Int) - 15)=((j - 15:Nat):Int):=by rw [aP aa aa]; omega
     have v2:IntKind.wrap .i64 ((j:Int) - 2)=((j - 2:Nat):Int):=by rw [aP aa aa]; omega
     have v16:IntKind.wrap .i64 ((j:Int) - 16)=((j - 16:Nat):Int):=by rw [aP aa aa]; omega
     have v7:IntKind.wrap .i64 ((j:Int) - 7)=((j - 7:Nat):Int):=by rw [aP aa aa]; omega
     have hx:=iu (k:= .i64) (n:=80) (b:=σ1.next) (j:=j) aa
     have hx15:=iu (k:= .i64) (n:=80) (b:=σ1.next) (j:=j - 15) aa
     have nt:=iu (k:= .i64) (n:=80) (b:=σ1.next) (j:=j - 2) aa
     have hx16:=iu (k:= .i64) (n:=80) (b:=σ1.next) (j:=j - 16) aa
     have hx7:=iu (k:= .i64) (n:=80) (b:=σ1.next) (j:=j - 7) aa
     have a15:=mJ T (i:=j) (j:=j - 15) aa
     have a2:=mJ T (i:=j) (j:=j - 2) aa
     have a16:=mJ T (i:=j) (j:=j - 16) aa
     have a7:=mJ T (i:=j) (j:=j - 7) aa
     have hlen:=vS T lk
     have ka:=AY T (i:=j) aa (OA T aa)
     have h79:j<=79:=by omega
     have r1 {y:UInt64}:=iX (x:=y) (k:=63) (j:=63) (by kernel_rfl) (by decide) (by decide)
     have r2 {y:UInt64}:=iX (x:=y) (k:=56) (j:=56) (by kernel_rfl) (by decide) (by decide)
     have r3 {y:UInt64}:=iX (x:=y) (k:=45) (j:=45) (by kernel_rfl) (by decide) (by decide)
     have r4 {y:UInt64}:=iX (x:=y) (k:=3) (j:=3) (by kernel_rfl) (by decide) (by decide)
     have sr7 (x:UInt64):aY .shr .u64 (x.toNat:Int) 7=some (U (x >>> 7)):=qB x 7 (by decide)
     have sr6 (x:UInt64):aY .shr .u64 (x.toNat:Int) 6=some (U (x >>> 6)):=qB x 6 (by decide)
     rw [Wt,iJ] at ka
     simp only [OX,OW] at ka
     simp only [U] at ka a15 a2 a16 a7 r1 r2 r3 r4 sr7 sr6
     clear ih W8 g5
     simp only [D15Ff,ax,seval,ae,aN,w2,v15,v2,v16,v7,hx,hx15,nt,hx16,hx7,lw,a15,a2,a16,a7,hlen,r1,r2,r3,r4,sr7,sr6,k9,Dr,iy,h79,ka]
     refine ir (j+1) _ _ (by show 80 - (j+1) < 80 - j; omega) ⟨?_,?_,?_,by simp [look],ln,by omega,by omega⟩ rfl
     ·simpa [look,vM] using l2
     ·simpa [look,vi] using l1
     ·simpa [look,hw0] using l0
   ·have Xb:decide ((j:Int) < 128)=true:=decide_eq_true aa
    have w2:IntKind.wrap .i64 ((j:Int)+1)=((j+1:Nat):Int):=by rw [aP aa aa]; omega
    have Dk:Int.tdiv (j:Int) 8=((j / 8:Nat):Int):=rfl
    have hq:IntKind.wrap .i64 ((j / 8:Nat):Int)=((j / 8:Nat):Int):=aP aa aa
    have hx:=iu (k:= .i64) (n:=80) (b:=σ1.next) (j:=j / 8) aa
    have iD:=wsB_at T (j:=j) (q:=j / 8) aa
    rw [UD] at iD
    have hadd:IntKind.wrap .i64 (((128*i:Nat):Int)+(j:Int))=((128*i+j:Nat):Int):=by rw [aP aa aa]; omega
    obtain ⟨c,hc⟩ : ∃c,P[128*i+j]? =some c:=⟨P[128*i+j]'(by omega),bo aa⟩
    have ka:=Ux T (j:=j) (c:=c) aa (by rw [hsat j aa,hc])
    have Uh:(af P)[128*i+j]? =some (.int .u8 (c.toNat:Int)):=by rw [af,bO,hc]; rfl
    have vl:=oc (sz:=1) (c:=none) Uh rfl
    generalize Om ((T.drop (8*(j / 8))).take (j % 8))=x at*
    have sl8:aY .shl .u64 (x.toNat:Int) 8=some (U (x <<< 8)):=Gm x 8 (by decide)
    have hlen:=Uy T j
    have h79:j / 8<=79:=by omega
    simp only [U] at iD ka sl8
    simp only [AV.cells] at vl
    clear ih W8 g5
    simp only [D15Fe,ax,seval,ae,Xb,w2,Dk,hq,hx,kw,iD,hlen,sl8,hadd,vl,tF,rP,iy,h79,ka]
    refine ih1 (j+1) _ _ (by show 128 - (j+1) < 128 - j; omega) ⟨?_,?_,?_,by simp [look],kn,by omega⟩ rfl
    ·simpa [look,vM] using k2
    ·simpa [look,vi] using k1
    ·simpa [look,hw0] using k0
  ·refine ⟨?_,?_,?_,?_,aR _,by decide⟩
   ·simpa [look,vM] using g2
   ·simpa [look,vi] using g1
   ·simpa [look,hw0] using g0
   ·rw [OB]; simp [look,List.replicate]
theorem r_sumN {a:aG} {rest:List (aG)} (hr:0 < rest.length) (Od:rest.length < 1099511627776) (h0:0 < a.length) (hn:(a ::rest).flatten.length < 1099511627776) :
  cR 226 [.vsl ((a ::rest).map cx) none]=some (bG (toLE 32 (bL (cO (a ::rest).flatten) % LL))):=by
 have hs:=r_shaN hr Od h0 hn
 have hO:=r_ofL (qY (a ::rest).flatten)
 have gH:=uD (a ::rest)
 have Nb:=SX (a ::rest)
 generalize (a ::rest).map cx=l at*
 have h64:=qY (a ::rest).flatten
 generalize cO (a ::rest).flatten=H at*
 have hl:(af H).length=64:=by rw [aU,h64]
 have ht:(af H).take 64=af H:=aQ aa
 have hL:=bN 32 (bL H % LL)
 generalize toLE 32 (bL H % LL)=v at*
 have ui:(af v).length=32:=by rw [aU,hL]
 have Aj:(af v).take 32=af v:=aQ aa
 have hP (σ:ag) (h:look σ.m 1=some (.own (af H))):fZ cF gU false (.fn 279 [] []) [.sl 1 0 64 1 (some 64)] σ=some (bG v,σ):=
  yS (off:=0) (n:=64) h aa (aK _) (by
   have:=cI H
   rw [bj] at this ⊢
   intro x hx; have:=this x hx
   cases x <;> simp_all [AV.one,AV.notAgg]) (by rw [List.drop_zero,ht,bS]) (by rw [List.drop_zero,ht]; exact hO) (by simp only [bG,AV.flat,qf])
 refine aC (F:=F226) rfl ?_
 simp only [bG] at hs hP ⊢
 simp only [F226,ax,seval,ae,@eB,yd,gH,Nb,hs,hl,ht,hP,ui,Aj,cI,aK,bS]
theorem NT:dA (bL (toLE 32 (bY cX)))=some cX:=by rw [wb,m9 mf]
theorem Pf {k:aG} (hk:k.length=32):cR 227 [bG k,bG (toLE 32 (bY cX))]=some (.tup [bG (toLE 32 (bY (cl cX (bL k)))), .bool true]):=by
 rw [JP hk (bN _ _),NT]; rfl
theorem nh (s:aG):(af s).all AV.notAgg=true:=by
 have:=cI s
 rw [bj] at this ⊢
 intro x hx; have:=this x hx
 cases x <;> simp_all [AV.one,AV.notAgg]
def T7Fb:= @F43.eq_1
def YH:=J @TN.eq_1 (J @IB.eq_1 (J @TP.eq_1 (J @IA.eq_1 (J @Iz.eq_1 (J @TO.eq_1 (@F49.eq_1))))))
def T7Fd:=J @TN.eq_1 (J @IB.eq_1 (J @IA.eq_1 (J @Iz.eq_1 (@F49.eq_1))))
mutual
def V.dep:V->Nat
 | .mk k _ _ l m=>if k=4 then qD l+1 else if k=5 then pI m+1 else 0
def qD:List V->Nat
 | []=>0
 | v ::r=>max v.dep (qD r)
def pI:List (Bs×V)->Nat
 | []=>0
 | (_,v) ::r=>max v.dep (pI r)
end
theorem V.dep_eq (v:V):v.dep=if v.kind=4 then qD v.l+1 else if v.kind=5 then pI v.m+1 else 0:=by cases v; rw [V.dep]; rfl
theorem AG (x:Mem) (r:List Mem):pI (x ::r)=max x.2.dep (pI r):=by
 obtain ⟨k,v⟩:=x; rw [pI]
mutual
theorem V.dep_le: ∀v:V,v.dep<=v.sz
 | .mk k n s l m=>by
  have h1:=wD l
  have h2:=wB m
  simp only [V.dep,V.sz]
  split
  ·omega
  ·split <;> omega
theorem wD: ∀l:List V,qD l<=Di l
 | []=>by simp [qD]
 | v ::r=>by have:=V.dep_le v; have:=wD r; simp only [qD,Di]; omega
theorem wB: ∀l:List (Bs×V),pI l<=vU l
 | []=>by simp [pI]
 | (k,v) ::r=>by have:=V.dep_le v; have:=wB r; simp only [pI,vU]; omega
end
theorem Br (a b:Nat):(if (a:Int) < (b:Int) then (b:Int) else (a:Int))=((max a b:Nat):Int):=by
 split <;> omega
theorem r_depN: ∀(n:Nat) (v:V),v.sz < n->v.sz < cJ->cR 49 [v.enc]=some (.int .i64 (v.dep:Nat)):=by
 intro n
 induction n with
 | zero=>intro v h; omega
 | succ n ih=>
  intro v h hb
  have eA:=v.sz_eq
  have hl:=l9 v.l
  have hm:=nS v.m
  have Xn:=wD v.l
  have hdm:=wB v.m
  unfold cJ at hb
  have WT: ∀x∈v.l,cR 49 [x.enc]=some (.int .i64 (x.dep:Nat)):=fun x hx=>by
   have:=gL hx
   exact ih x aa (by unfold cJ; omega)
  have T9: ∀x∈v.m,cR 49 [x.2.enc]=some (.int .i64 (x.2.dep:Nat)):=fun x hx=>by
   have:=eT hx
   exact ih x.2 aa (by unfold cJ; omega)
  refine aC (F:=F49) rfl ?_
  rw [V.dep_eq]
  by_cases h4:v.kind=4
  ·have q4:(v.kind == 4)=true:=by simp [h4]
   simp only [T7Fd,ay,ax,seval,VX,ae,q4,h4]
   refine aL (S:=Nat×Nat) (fun p=> [(3, .int .i64 (p.2:Int)),(13, .vsl (v.l.map V.enc) none),(14, .int .i64 v.l.length),(15, .int .i64 (p.1:Int))]) (fun p=>v.l.length - p.1) (fun p _=>max p.2 (qD (v.l.drop p.1))=qD v.l) ?_ (0,0) _ (by simp)
   rintro b ⟨j,a⟩ σ hj ir
   simp only at hj ir ⊢
   by_cases aN:j < v.l.length
   ·obtain ⟨x,hx⟩:=bM aN
    have bQ:=bV (f:=V.enc) (sz:=5) (c:=none) hx (by simp [V.enc_cells])
    have aA:=lS aN
    have bD:=WT x (bH hx)
    rw [drop_cons hx,qD] at hj
    simp only [YH,ax,seval,VX,ae,aA,bQ,bD,Br]
    exact ir (j+1,max a x.dep) _ _ (by simp; omega) (by simp only; omega) (by rw [cd aN aa]; simp only [ax,seval])
   ·have aA:=lT (Nat.not_lt.1 aN)
    rw [bn aa,qD] at hj
    have hw:=cd (j:=a) (n:=Di v.l+1) aa aa
    simp only [YH,ax,seval,VX,aA,hw]
    rw [show a=qD v.l by omega]
  ·have q4:(v.kind == 4)=false:=by simp [h4]
   by_cases h5:v.kind=5
   ·have q5:(v.kind == 5)=true:=by simp [h5]
    simp only [T7Fd,ay,ax,seval,VX,ae,q4,q5,h4,h5]
    refine aL (S:=Nat×Nat) (fun p=> [(3, .int .i64 (p.2:Int)),(27, .vsl (v.m.map bx) none),(28, .int .i64 v.m.length),(29, .int .i64 (p.1:Int))]) (fun p=>v.m.length - p.1) (fun p _=>max p.2 (pI (v.m.drop p.1))=pI v.m) ?_ (0,0) _ (by simp)
    rintro b ⟨j,a⟩ σ hj ir
    simp only at hj ir ⊢
    by_cases aN:j < v.m.length
    ·obtain ⟨x,hx⟩:=bM aN
     have bQ:=bV (f:=bx) (sz:=6) (c:=none) hx (by simp [bJ])
     have aA:=lS aN
     have bD:=T9 x (bH hx)
     rw [drop_cons hx,AG] at hj
     simp only [YH,ax,seval,VX,ae,aA,bQ,bD,Br]
     exact ir (j+1,max a x.2.dep) _ _ (by simp; omega) (by simp only; omega) (by rw [cd aN aa]; simp only [ax,seval])
    ·have aA:=lT (Nat.not_lt.1 aN)
     rw [bn aa,pI] at hj
     have hw:=cd (j:=a) (n:=vU v.m+1) aa aa
     simp only [YH,ax,seval,VX,aA,hw]
     rw [show a=pI v.m by omega]
   ·have q5:(v.kind == 5)=false:=by simp [h5]
    simp only [T7Fd,ax,Nat.reduceEqDiff,reduceIte,reduceCtorEq,Nat.reduceAdd,Nat.reduceLeDiff,Nat.reduceSub,Nat.reduceMul,Int.reduceEq,Int.reduceBEq,Int.reduceBNe,Int.reduceLT,Int.reduceLE,Nat.reduceLT,VX,ae,q4,q5,h4,h5]
    rfl
theorem r_dep (v:V) (hb:v.sz < cJ):cR 49 [v.enc]=some (.int .i64 (v.dep:Nat)):=r_depN (v.sz+1) v (aR _) hb
def V.good (v:V):Bool:=v.fine && decide (v.dep<=50)
theorem Bd (v:V) (hb:v.sz < cJ):cR 25 [v.enc]=some (.bool v.good):=by
 have h1:decide ((v.dep:Int)<=50)=decide (v.dep<=50):=by rw [decide_eq_decide]; omega
 refine aC (F:=F25) rfl ?_
 simp only [F25,ax,seval,VX,ae,r_fine v hb,r_dep v hb,h1,V.good]
 repeat' split
 all_goals simp_all
def V.zero:V:=V.mk 0 0 [] [] []
def said (v:V):V:=if v.good && v.kind == 5 then v else V.zero
theorem tV (v:V) (hb:v.sz < cJ):cR 43 [v.enc]=some (said v).enc:=by
 refine aC (F:=F43) rfl ?_
 cases hg:v.good
 ·simp only [T7Fb,ax,seval,VX,ae,Bd v hb,hg,said,V.zero,Bool.false_and]
 ·by_cases h5:v.kind=5
  ·have q:(v.kind != 5)=false:=by simp [h5]
   have q2:(v.kind == 5)=true:=by simp [h5]
   simp only [T7Fb,ax,seval,VX,ae,Bd v hb,hg,said,V.zero,q,q2]
  ·have q:(v.kind != 5)=true:=by simp [h5]
   have q2:(v.kind == 5)=false:=by simp [h5]
   simp only [T7Fb,ax,seval,VX,ae,Bd v hb,hg,said,V.zero,q,q2]
def T8Fa:= @F46.eq_1
def T8Fb:= @F63.eq_1
def T8Fc:= @F74.eq_1
def YG:=J @TC.eq_1 (J @Im.eq_1 (J @TD.eq_1 (@F83.eq_1)))
theorem nE: ∀a:Bs,bytesLess a a=false
 | []=>rfl
 | x ::r=>by simp [bytesLess,nE r]
theorem FB: ∀ {a b:Bs},bytesLess a b=true->bytesLess b a=false
 | [], [],h=>by simp [bytesLess] at h
 | [],_ ::_,_=>rfl
 | _ ::_, [],h=>by simp [bytesLess] at h
 | x ::r,y ::s,h=>by
  simp only [bytesLess,Bool.or_eq_true,cD,ak,beq_iff_eq] at h
  rw [←Bool.not_eq_true]
  simp only [bytesLess,Bool.or_eq_true,cD,ak,beq_iff_eq]
  rintro (h2 | ⟨rfl,h2⟩)
  ·rcases h with h | ⟨rfl,h⟩
   ·exact absurd h2 (UInt8.lt_asymm h)
   ·exact UInt8.lt_irrefl _ h2
  ·rcases h with h | ⟨_,h⟩
   ·exact UInt8.lt_irrefl _ h
   ·rw [FB h] at h2; simp at h2
theorem yV: ∀ {a b:Bs},bytesLess a b=false->bytesLess b a=false->a=b
 | [], [],_,_=>rfl
 | [],_ ::_,h,_=>by simp [bytesLess] at h
 | _ ::_, [],_,h=>by simp [bytesLess] at h
 | x ::r,y ::s,h,h2=>by
  simp only [bytesLess,Bool.or_eq_false_iff,decide_eq_false_iff_not,Bool.and_eq_false_iff,cc] at h h2
  have hxy:x=y:=UInt8.le_antisymm (UInt8.not_lt.1 h2.1) (UInt8.not_lt.1 h.1)
  subst hxy
  have h3:bytesLess r s=false:=by rcases h.2 with h | h; exact absurd rfl h; exact h
  have h4:bytesLess s r=false:=by rcases h2.2 with h | h; exact absurd rfl h; exact h
  rw [yV h3 h4]
theorem sW: ∀ {a b c:Bs},bytesLess a b=true->bytesLess b c=true->bytesLess a c=true
 | _, [],_,h,_=>by cases ‹Bs› <;> simp [bytesLess] at h
 | _,_ ::_, [],_,h=>by simp [bytesLess] at h
 | [],_ ::_,_ ::_,_,_=>rfl
 | x ::r,y ::s,z ::t,h,h2=>by
  simp only [bytesLess,Bool.or_eq_true,cD,ak,beq_iff_eq] at h h2 ⊢
  rcases h with h | ⟨rfl,h⟩
  ·rcases h2 with h2 | ⟨rfl,h2⟩
   ·exact .inl (UInt8.lt_trans h h2)
   ·exact .inl h
  ·rcases h2 with h2 | ⟨rfl,h2⟩
   ·exact .inl h2
   ·exact .inr ⟨rfl,sW h h2⟩
theorem J9 (a b:Bs):decide (M0 a b < 0)=bytesLess a b:=by
 unfold M0
 cases h:bytesLess a b <;> cases h2:bytesLess b a <;> simp
theorem WQ (a b:Bs):(M0 a b == 0)=(a == b):=by
 unfold M0
 cases h:bytesLess a b
 ·cases h2:bytesLess b a
  ·rw [yV h h2]; simp
  ·have:a≠b:=by rintro rfl; rw [nE] at h2; simp at h2
   simp [this]
 ·have:a≠b:=by rintro rfl; rw [nE] at h; simp at h
  simp [this]
def iG (m:List Mem) (i:Nat):Bs:=match m[i]? with
 | some x=>x.1
 | none=> []
def tC (m:List Mem) (k:Bs) (i j:Nat):Nat:=
 if i < j then (if bytesLess (iG m ((i+j) / 2)) k=true then tC m k ((i+j) / 2+1) j else tC m k i ((i+j) / 2)) else i
termination_by j - i
decreasing_by all_goals omega
theorem u64n {n:Nat} (h:n < 9223372036854775808):IntKind.wrap .u64 (n:Int)=(n:Int):=by
 simp [IntKind.wrap,IntKind.bits,IntKind.signed]; omega
theorem i64n {n:Nat} (h:n < 9223372036854775808):IntKind.wrap .i64 (n:Int)=(n:Int):=by
 simp [IntKind.wrap,IntKind.bits,IntKind.signed]; omega
theorem shr1 (n:Nat):aY .shr .u64 (n:Int) 1=some (.int .u64 ((n / 2:Nat):Int)):=by
 have:Int.fdiv (n:Int) 2=((n / 2:Nat):Int):=by
  rw [Int.fdiv_eq_ediv_of_nonneg _ aa]; omega
 simp [aY,IntKind.bits,this]
theorem Mg (m:List Mem) (k:Bs) (x:V) (hb:m.length < cJ) :
  cR 83 [.vsl (m.map bx) none,bx (k,x), .fn 40 [] []]=some (.tup [.int .i64 (tC m k 0 m.length:Nat), .bool (decide (tC m k 0 m.length < m.length) && (iG m (tC m k 0 m.length) == k))]):=by
 unfold cJ at hb
 refine aC (F:=F83) rfl ?_
 simp only [TC,Im,F83,ay,ax,seval,VX,ae]
 have hQ: ∀(i j:Nat) (σ:ag),i<=j->j<=m.length->tC m k i j=tC m k 0 m.length->True:=fun _ _ _ _ _ _=>trivial
 refine dC (S:=Nat×Nat) (fun p=> [(0, .vsl (m.map bx) none),(2, .fn 40 [] []),(4, .vptr [.str k, .int .i64 x.kind, .int .i64 x.n, .str x.s, .vsl (x.l.map V.enc) none, .vsl (x.m.map bx) none] 0),(8, .int .i64 m.length),(9, .int .i64 (p.1:Int)),(10, .int .i64 (p.2:Int))]) (fun _=> .empty) (fun p=>p.2 - p.1)
  (fun p=>tC m k p.1 p.2=tC m k 0 m.length/\p.1<=p.2/\p.2<=m.length) ?_ (0,m.length) ⟨rfl,by simp,by simp⟩
 rintro b ⟨i,j⟩ ⟨h1,h2,h3⟩ ih
 simp only at h1 h2 h3 ih ⊢
 by_cases aN:i < j
 ·have hc:=lS aN
  obtain ⟨c,hcdef⟩ : ∃c,c=(i+j) / 2:=⟨_,rfl⟩
  have Uh:c < m.length:=by omega
  obtain ⟨y,hy⟩:=bM Uh
  have bQ:=bV (f:=bx) (sz:=6) (c:=none) hy (by simp [bJ])
  have w1:=wadd (a:=i) (b:=j) aa
  have w2:=u64n (n:=i+j) aa
  have w3:=i64n (n:=c) aa
  have w4:=shr1 (i+j)
  rw [←hcdef] at w4
  have hk:=ZG y (k,x)
  have hkey:iG m c=y.1:=by simp [iG,hy]
  have pn:=h1
  rw [tC,if_pos aN,←hcdef,hkey] at pn
  cases hl:bytesLess y.1 k
  ·rw [hl,if_neg (by simp)] at pn
   simp only [YG,ax,seval,VX,ae,hc,w1,w2,w3,w4,bQ,hk,J9,hl]
   exact ih (i,c) _ _ (by simp; omega) ⟨pn,by simp; omega,by simp; omega⟩ (by simp only [ax,seval]) rfl
  ·rw [hl,if_pos rfl] at pn
   have w5:=cd Uh aa
   simp only [YG,ax,seval,VX,ae,hc,w1,w2,w3,w4,bQ,hk,J9,hl,w5]
   exact ih (c+1,j) _ _ (by simp; omega) ⟨pn,by simp; omega,by simp; omega⟩ (by simp only [ax,seval]) rfl
 ·have hc:=lT (Nat.not_lt.1 aN)
  have hi:tC m k 0 m.length=i:=by rw [←h1,tC,if_neg aN]
  rw [hi]
  by_cases him:i < m.length
  ·obtain ⟨y,hy⟩:=bM him
   have bQ:=bV (f:=bx) (sz:=6) (c:=none) hy (by simp [bJ])
   have hk:=ZG y (k,x)
   have rJ:=lS him
   have hkey:iG m i=y.1:=by simp [iG,hy]
   simp only [YG,ax,seval,VX,ae,hc,rJ,bQ,hk,WQ,hkey,him]
  ·have rJ:=lT (Nat.not_lt.1 him)
   simp only [YG,ax,seval,VX,ae,hc,rJ,him,Bool.false_and]
def lr (v:V) (k:Bs):Nat×Bool:=if v.kind=5 then (tC v.m k 0 v.m.length,decide (tC v.m k 0 v.m.length < v.m.length) && (iG v.m (tC v.m k 0 v.m.length) == k)) else (0,false)
theorem Vw (v:V) (k:Bs) (hb:v.m.length < cJ):cR 74 [v.enc, .str k]=some (.tup [.int .i64 ((lr v k).1:Nat), .bool (lr v k).2]):=by
 refine aC (F:=F74) rfl ?_
 by_cases h5:v.kind=5
 ·have q:(v.kind != 5)=false:=by simp [h5]
  simp only [T8Fc,ax,seval,VX,ae,q,Mg _ _ _ hb,lr,h5]
 ·have q:(v.kind != 5)=true:=by simp [h5]
  simp only [T8Fc,ax,Nat.reduceEqDiff,reduceIte,reduceCtorEq,Nat.reduceAdd,Nat.reduceLeDiff,Nat.reduceSub,Nat.reduceMul,Int.reduceEq,Int.reduceBEq,Int.reduceBNe,Int.reduceLT,Int.reduceLE,Nat.reduceLT,VX,ae,q,lr,h5]
  rfl
def gO (v:V) (k:Bs):V×Bool:=match (lr v k).2,v.m[(lr v k).1]? with
 | true,some x=>(x.2,true)
 | _,_=>(V.zero,false)
theorem ZL (v:V) (k:Bs) (hb:v.m.length < cJ):cR 63 [v.enc, .str k]=some (.tup [(gO v k).1.enc, .bool (gO v k).2]):=by
 refine aC (F:=F63) rfl ?_
 have hp:=Vw v k hb
 cases hk:(lr v k).2
 ·rw [hk] at hp
  simp only [T8Fb,ax,seval,VX,ae,hp,gO,hk,V.zero]
 ·have aN:(lr v k).1 < v.m.length:=by
   unfold lr at hk ⊢
   split at hk
   ·rename_i h5; simp only [ak,cD] at hk; rw [if_pos h5]; exact hk.1
   ·simp at hk
  obtain ⟨x,hx⟩:=bM aN
  have bQ:=bV (f:=bx) (sz:=6) (c:=none) hx (by simp [bJ])
  rw [hk] at hp
  simp only [T8Fb,ax,seval,VX,ae,hp,bQ,gO,hk,hx]
def bu (v:V) (k:Bs):Bs×Bool:=if (gO v k).2 && (gO v k).1.kind == 3 then ((gO v k).1.s,true) else ([],false)
theorem PF (v:V) (k:Bs) (hb:v.m.length < cJ):cR 46 [v.enc, .str k]=some (.tup [.str (bu v k).1, .bool (bu v k).2]):=by
 refine aC (F:=F46) rfl ?_
 have hp:=ZL v k hb
 unfold bu
 generalize gO v k=g at hp
 obtain ⟨x,ok⟩:=g
 simp only at hp ⊢
 cases ok
 ·simp only [T8Fa,ax,seval,VX,ae,hp,Bool.false_and]
 ·by_cases h3:x.kind=3
  ·have q:(x.kind != 3)=false:=by simp [h3]
   have q2:(x.kind == 3)=true:=by simp [h3]
   simp only [T8Fa,ax,seval,VX,ae,hp,q,q2]
  ·have q:(x.kind != 3)=true:=by simp [h3]
   have q2:(x.kind == 3)=false:=by simp [h3]
   simp only [T8Fa,ax,seval,VX,ae,hp,q,q2]
def T9Fa:=J @Lu.eq_1 (J @FV.eq_1 (@F101.eq_1))
def H8:= @F68.eq_1
def T9Fh:=J @TJ.eq_1 (J @Iv.eq_1 (J @TI.eq_1 (@F76.eq_1)))
def T9Fl:= @F93.eq_1
def T9Fm:=J @TA.eq_1 (J @Ij.eq_1 (J @Tz.eq_1 (@F94.eq_1)))
theorem u8back (c:UInt8):((c.toNat:Int).toNat).toUInt8=c:=by simp
theorem r_ib (s:Bs) (c:UInt8):cR 107 [.str s, .int .u8 c.toNat]=some (.int .i64 (et s c)):=by
 refine aC (F:=F107) rfl ?_
 simp only [F107,ax,seval,u8back]
theorem r_ib2 (s:Bs) (c:UInt8):cR 102 [.str s, .int .u8 c.toNat]=some (.int .i64 (et s c)):=by
 refine aC (F:=F102) rfl ?_
 simp only [F102,ax,seval,r_ib]
theorem pD {s:Bs} {c:UInt8} (h:s.findIdx? (fun b=>b == c)=none):et s c= -1:=by
 unfold et; rw [h]
theorem pC {s:Bs} {c:UInt8} {i:Nat} (h:s.findIdx? (fun b=>b == c)=some i):et s c=(i:Int):=by
 unfold et; rw [h]
theorem BJ (s:Bs) (c:UInt8):decide (et s c≥0)=s.contains c:=by
 cases h:s.findIdx? (fun b=>b == c) with
 | none=>
  rw [pD h]
  have:=List.findIdx?_eq_none_iff.1 h
  have h2:s.contains c=false:=by
   rw [←Bool.not_eq_true,List.contains_iff_mem]
   intro hm
   have:=this c hm
   simp at this
  rw [h2]; rfl
 | some i=>
  rw [pC h]
  obtain ⟨h1,h2,_⟩:=List.findIdx?_eq_some_iff_getElem.1 h
  have h3:s.contains c=true:=by
   rw [List.contains_iff_mem]
   have:s[i]=c:=by simpa using h2
   rw [←this]; exact List.getElem_mem h1
  rw [h3]; simp
theorem D8 (s:Bs) (c:UInt8):cR 101 [.str s, .str [c]]=some (.int .i64 (et s c)):=by
 refine aC (F:=F101) rfl ?_
 have h0:(((1:Nat):Int) == 0)=false:=rfl
 have h1:(((1:Nat):Int) == 1)=true:=rfl
 have hb:cC (.str [c]) (.int .i64 0)=some (.int .u8 c.toNat):=rfl
 by_cases hs: [c]=s
 ·subst hs
  have e:et [c] c=0:=by simp [et,List.findIdx?_cons]
  have Hn:([c] == [c])=true:=by simp
  simp only [T9Fa,ax,seval,h0,Hn,e]
 ·have Hn:([c] == s)=false:=by simp [hs]
  simp only [T9Fa,ax,seval,h0,h1,Hn,hb,r_ib]
def gj (s:Bs) (c:UInt8):Bs×Bs×Bool:=match s.findIdx? (fun b=>b == c) with
 | some i=>(s.take i,s.drop (i+1),true)
 | none=>(s, [],false)
theorem r_cut1 (s:Bs) (c:UInt8) (hb:s.length < cJ):cR 93 [.str s, .str [c]]=some (.tup [.str (gj s c).1, .str (gj s c).2.1, .bool (gj s c).2.2]):=by
 unfold cJ at hb
 refine aC (F:=F93) rfl ?_
 cases h:s.findIdx? (fun b=>b == c) with
 | none=>
  have e:=pD h
  have q:decide ((-1:Int)≥0)=false:=rfl
  simp only [T9Fl,ax,seval,D8,e,q,gj,h]
 | some i=>
  have e:=pC h
  obtain ⟨h1,h2,_⟩:=List.findIdx?_eq_some_iff_getElem.1 h
  have q:decide ((i:Int)≥0)=true:=by simp
  have b1:ck (.str s) (some none) (some (some (i:Int)))=some (.str (s.take i)):=by
   have h3:((i:Int)<=s.length):=by omega
   simp [ck,bounds,h3]
  have w:=cd (j:=i) (n:=s.length) h1 aa
  have b2:ck (.str s) (some (some ((i+1:Nat):Int))) (some none)=some (.str (s.drop (i+1))):=by
   have:=dq (s:=s) (i:=((i+1:Nat):Int)) aa aa
   simpa using this
  have w':IntKind.wrap .i64 ((i:Int)+((1:Nat):Int))=((i+1:Nat):Int):=w
  simp only [T9Fl,ax,seval,D8,e,q,gj,h,b1,w,w',b2]
theorem ZJ (s:Bs) (c:UInt8) (hb:s.length < cJ):cR 75 [.str s, .str [c]]=some (.tup [.str (gj s c).1, .str (gj s c).2.1, .bool (gj s c).2.2]):=by
 refine aC (F:=F75) rfl ?_
 simp only [F75,ax,seval,r_cut1 s c hb]
theorem yP (s:Bs) (c:UInt8):(gj s c).1.length<=s.length/\(gj s c).2.1.length<=s.length:=by
 unfold gj
 split
 ·simp; omega
 ·simp
def oR (set:Bs) (c:UInt8):Bool:=set.contains c
theorem DR (set:Bs) (c:UInt8):cR 95 [.str set, .int .u8 c.toNat]=some (.bool (oR set c)):=by
 refine aC (F:=F95) rfl ?_
 simp only [F95,ax,seval,r_ib2,BJ,oR]
def gE (c:UInt8):Bool:=decide (33<=c) && (decide (c<=126) && c != 58)
theorem g33 (c:UInt8):decide ((c.toNat:Int)≥33)=decide (33<=c):=by rw [decide_eq_decide,UInt8.le_iff_toNat_le]; simp; omega
theorem l126 (c:UInt8):decide ((c.toNat:Int)<=126)=decide (c<=126):=by rw [decide_eq_decide,UInt8.le_iff_toNat_le]; simp; omega
theorem n58 (c:UInt8):((c.toNat:Int) != 58)=(c != 58):=
 jg (P:=fun c=>((c.toNat:Int) != 58)=(c != 58)) (by decide+kernel) c
theorem xK (c:UInt8):cR 77 [.agg [], .int .u8 c.toNat]=some (.bool (gE c)):=by
 refine aC (F:=F77) rfl ?_
 simp only [F77,ax,seval,g33,l126,n58,gE]
 cases decide (33<=c) <;> cases decide (c<=126) <;> rfl
def oJ (p:UInt8->Bool) (n:Nat) (s:Bs):Bool:=s.all p && (decide (0 < s.length) && decide (s.length<=n))
theorem lK {s:Bs} {j:Nat} {c:UInt8} (h:s[j]? =some c):cC (.str s) (.int .i64 (j:Int))=some (.int .u8 c.toNat):=by
 simp [cC,h]
theorem lpos (n:Nat):decide (0 < (n:Int))=decide (0 < n):=by rw [decide_eq_decide]; omega
theorem lleN (a b:Nat):decide ((a:Int)<=(b:Int))=decide (a<=b):=by rw [decide_eq_decide]; omega
theorem Eb (s set:Bs) (n:Nat) (hb:s.length < cJ):cR 94 [.str s, .int .i64 (n:Int), .str set, .fn 95 [] []]=some (.bool (oJ (oR set) n s)):=by
 unfold cJ at hb
 refine aC (F:=F94) rfl ?_
 simp only [TA,Ij,F94,ay,ax,seval]
 refine dC (S:=Nat) (fun j=> [(0, .str s),(1, .int .i64 (n:Int)),(2, .str set),(3, .fn 95 [] []),(11, .int .i64 s.length),(12, .int .i64 (j:Int))]) (fun _=> .empty) (fun j=>s.length - j) (fun j=>(s.drop j).all (oR set)=s.all (oR set)) ?_ 0 rfl
 intro b j hj ih
 by_cases aN:j < s.length
 ·obtain ⟨c,hc⟩:=bM aN
  have aA:=lS aN
  have fa:=lK hc
  rw [drop_cons hc,List.all_cons] at hj
  cases hp:oR set c
  ·simp only [T9Fm,ax,seval,aA,fa,DR,hp,oJ]
   rw [hp] at hj
   rw [←hj]; rfl
  ·simp only [T9Fm,ax,seval,aA,fa,DR,hp]
   exact ih (j+1) _ _ aa (by rw [←hj,hp]; rfl) (by rw [cd aN aa]; simp only [ax,seval]) rfl
 ·have aA:=lT (Nat.not_lt.1 aN)
  rw [bn aa] at hj
  simp only [T9Fm,ax,seval,aA,lpos,lleN,oJ,←hj]
  by_cases h0:0 < s.length
  ·simp [h0]
  ·simp [h0]
theorem GB (s:Bs) (n:Nat) (hb:s.length < cJ):cR 76 [.str s, .int .i64 (n:Int), .agg [], .fn 77 [] []]=some (.bool (oJ gE n s)):=by
 unfold cJ at hb
 refine aC (F:=F76) rfl ?_
 simp only [TJ,Iv,F76,ay,ax,seval]
 refine dC (S:=Nat) (fun j=> [(0, .str s),(1, .int .i64 (n:Int)),(3, .fn 77 [] []),(6, .vptr [] 0),(11, .int .i64 s.length),(12, .int .i64 (j:Int))]) (fun _=> .empty) (fun j=>s.length - j) (fun j=>(s.drop j).all gE=s.all gE) ?_ 0 rfl
 intro b j hj ih
 by_cases aN:j < s.length
 ·obtain ⟨c,hc⟩:=bM aN
  have aA:=lS aN
  have fa:=lK hc
  have hr:dG [] 0 (some 0)=some (.agg []):=rfl
  rw [drop_cons hc,List.all_cons] at hj
  cases hp:gE c
  ·simp only [T9Fh,ax,seval,aA,fa,xK,hp,oJ,hr]
   rw [hp] at hj
   rw [←hj]; rfl
  ·simp only [T9Fh,ax,seval,aA,fa,xK,hp,hr]
   exact ih (j+1) _ _ aa (by rw [←hj,hp]; rfl) (by rw [cd aN aa]; simp only [ax,seval]) rfl
 ·have aA:=lT (Nat.not_lt.1 aN)
  rw [bn aa] at hj
  simp only [T9Fh,ax,seval,aA,lpos,lleN,oJ,←hj]
  by_cases h0:0 < s.length
  ·simp [h0]
  ·simp [h0]
def kO:Bs:= [48,49,50,51,52,53,54,55,56,57]
def jn:Bs:= [97,98,99,100,101,102,103,104,105,106,107,108,109,110,111,112,113,114,115,116,117,118,119,120,121,122,65,66,67,68,69,70,71,72,73,74,75,76,77,78,79,80,81,82,83,84,85,86,87,88,89,90,48,49,50,51,52,53,54,55,56,57,46,45]
def jh (s:Bs):Bool:=(!((gj s 58).2.2 && !oJ (oR kO) 5 (gj s 58).2.1)) && (decide (s.length<=255) && oJ (oR jn) 255 (gj s 58).1)
theorem l255 (n:Nat):decide ((n:Int)<=255)=decide (n<=255):=by rw [decide_eq_decide]; omega
theorem Ph (s:Bs) (hb:s.length < cJ):cR 78 [.str s]=some (.bool (jh s)):=by
 have hc:=ZJ s 58 hb
 obtain ⟨c1,c2⟩:=yP s 58
 unfold jh
 generalize gj s 58=c at hc c1 c2 ⊢
 obtain ⟨name,port,ok⟩:=c
 simp only at hc c1 c2 ⊢
 have a1:cR 94 [.str port, .int .i64 5, .str kO, .fn 95 [] []]=_:=Eb port kO 5 aa
 have a2:cR 94 [.str name, .int .i64 255, .str jn, .fn 95 [] []]=_:=Eb name jn 255 aa
 generalize oJ (oR kO) 5 port=A at a1 ⊢
 generalize oJ (oR jn) 255 name=B at a2 ⊢
 simp only [kO,jn] at a1 a2
 refine aC (F:=F78) rfl ?_
 simp only [F78,ax,seval,hc,a1,a2,l255]
 generalize decide (s.length<=255)=L
 cases ok <;> cases A <;> cases L <;> rfl
def cg (s:Bs) (sign:UInt8):Bs×Bs×Bool:=match s with
 | []=>([], [],false)
 | a ::r=>if a=sign/\s.length<=255/\(gj r 58).2.2=true/\oJ gE 255 (gj r 58).1=true/\jh (gj r 58).2.1=true then ((gj r 58).1,(gj r 58).2.1,true) else ([], [],false)
theorem Wu (a b:UInt8):((a.toNat:Int) != (b.toNat:Int))=(a != b):=by
 by_cases h:a=b
 ·subst h; simp
 ·have:(a.toNat:Int)≠(b.toNat:Int):=fun h'=>h (UInt8.toNat_inj.1 aa)
  rw [bne_iff_ne.2 this,bne_iff_ne.2 h]
theorem JL (s:Bs) (sign:UInt8) (hb:s.length < cJ):cR 68 [.str s, .int .u8 sign.toNat]=some (.tup [.str (cg s sign).1, .str (cg s sign).2.1, .bool (cg s sign).2.2]):=by
 refine aC (F:=F68) rfl ?_
 cases s with
 | nil=>
  have q:(([] :Bs) == [])=true:=rfl
  simp only [H8,ax,seval,q,cg]
 | cons a r=>
  have q:((a ::r) == [])=false:=rfl
  have ha:cC (.str (a ::r)) (.int .i64 0)=some (.int .u8 a.toNat):=rfl
  have hs:ck (.str (a ::r)) (some (some 1)) (some none)=some (.str r):=dq (s:=a ::r) (i:=1) aa (by simp; omega)
  simp only [List.length_cons] at hb
  have hc:=ZJ r 58 aa
  obtain ⟨c1,c2⟩:=yP r 58
  simp only [cg]
  generalize gj r 58=c at hc c1 c2 ⊢
  obtain ⟨loc,srv,ok⟩:=c
  simp only at hc c1 c2 ⊢
  have a1:cR 76 [.str loc, .int .i64 255, .agg [], .fn 77 [] []]=_:=GB loc 255 aa
  have a2:=Ph srv aa
  have hl:decide (255 < ((r.length+1:Nat):Int))=decide (255 < r.length+1):=by rw [decide_eq_decide]; omega
  by_cases Ub:a=sign
  ·have q1:(a != sign)=false:=by simp [Ub]
   by_cases hlen:255 < r.length+1
   ·have zC:decide (255 < r.length+1)=true:=by simp [hlen]
    have hn: ¬(r.length+1<=255):=by omega
    simp only [H8,ax,seval,q,ha,Wu,q1,hl,zC,List.length_cons,hn,false_and,and_false]
   ·have zC:decide (255 < r.length+1)=false:=by simp [hlen]
    have hn:r.length+1<=255:=by omega
    cases ok
    ·simp only [H8,ax,seval,q,ha,Wu,q1,hl,zC,hs,hc,false_and,and_false]
    ·cases hA:oJ gE 255 loc
     ·rw [hA] at a1
      simp only [H8,ax,seval,q,ha,Wu,q1,hl,zC,hs,hc,a1,hA,false_and,and_false]
     ·rw [hA] at a1
      cases hB:jh srv
      ·rw [hB] at a2
       simp only [H8,ax,seval,q,ha,Wu,q1,hl,zC,hs,hc,a1,a2,hA,hB,false_and,and_false]
      ·rw [hB] at a2
       have hsgT:(a=sign)=True:=eq_true Ub
       simp only [H8,ax,seval,q,ha,Wu,q1,hl,zC,hs,hc,a1,a2,hA,hB,hn,hsgT,List.length_cons]
  ·have q1:(a != sign)=true:=by simp [Ub]
   simp only [H8,ax,seval,q,ha,Wu,q1,Ub,false_and]
theorem r_Room (s:Bs) (hb:s.length < cJ):cR 62 [.str s]=some (.tup [.str (cg s 33).1, .str (cg s 33).2.1, .bool (cg s 33).2.2]):=by
 have h:cR 68 [.str s, .int .u8 33]=_:=JL s 33 hb
 refine aC (F:=F62) rfl ?_
 simp only [F62,ax,seval,h]
theorem r_User (s:Bs) (hb:s.length < cJ):cR 55 [.str s]=some (.tup [.str (cg s 64).1, .str (cg s 64).2.1, .bool (cg s 64).2.2]):=by
 have h:cR 68 [.str s, .int .u8 64]=_:=JL s 64 hb
 refine aC (F:=F55) rfl ?_
 simp only [F55,ax,seval,h]
def WS (x:Option AV) (n:Nat):Bool:=match x with | some (.int .u8 m)=>m == (n:Int) | _=>false
theorem Kd {x:Option AV} {n:Nat} (h:WS x n=true):x=some (.int .u8 n):=by
 unfold WS at h
 split at h
 ·rw [eq_of_beq h]
 ·cases h
theorem wsucc8 {j:Nat} (h:j < 64):IntKind.wrap .u8 ((j:Int)+1)=((j+1:Nat):Int):=by
 simp [IntKind.wrap,IntKind.bits,IntKind.signed]; omega
def Jv (j:Nat):Nat:=if j < 26 then 65+j else if j < 52 then 71+j else if j < 62 then j - 4 else if j=62 then 43 else 47
def H6:AV:= .agg [.int .u8 43, .int .u8 47]
def sx:Nat->Nat->aG->List Nat
 | nb,c, []=>if nb=0 then [] else [c*2 ^ (6 - nb) % 64]
 | nb,c,b ::l=>
  if nb=4 then (c*256+b.toNat) / 64 % 64 ::(c*256+b.toNat) % 64 ::sx 0 0 l
  else if nb=2 then (c*256+b.toNat) / 16 % 64 ::sx 4 ((c*256+b.toNat) % 16) l
  else (c*256+b.toNat) / 4 % 64 ::sx 2 ((c*256+b.toNat) % 4) l
theorem lJ: ∀s:aG,bytesOf (af s)=some s
 | []=>rfl
 | b ::s=>by
  have hb:=b.toNat_lt
  have e:af (b ::s)= .int .u8 (b.toNat:Int) ::af s:=rfl
  have h2:(0:Int)<=(b.toNat:Int)/\(b.toNat:Int) < 256:=by omega
  rw [e]
  simp only [bytesOf,lJ s,if_pos h2,Int.toNat_natCast,UInt8.ofNat_toNat]
theorem MA {σ:ag} {ob:aD} {out:aG} {c:UInt8} (h:nL σ 1 ob out.length (af out)) (hm:out.length < 2199023255552) :
  ∃σ',aJ σ 1 1 (iA 1 ob out.length) [.int .u8 (c.toNat:Int)] 1=some (iA 1 (some σ.next) (out ++ [c]).length,σ')/\nL σ' 1 (some σ.next) (out ++ [c]).length (af (out ++ [c])):=by
 obtain ⟨σ',h1,h2,_,_⟩:=gp (bytes:=1) (k:=1) (new:= [.int .u8 (c.toNat:Int)]) h (by decide) (by decide) (by unfold bg; omega) rfl rfl (by decide)
 refine ⟨σ',by rw [az]; exact h1,?_⟩
 rw [az,kB]; exact h2
def YE:=J @CT.eq_1 (J @Li.eq_1 (@FT.eq_1))
theorem OP (σ:ag) (a:aG) (c:aD):gu (rowOf σ 1 (.vsl (af a) c))=some (.str a):=by
 have h:(af a).all (fun e=>e.cells.length == 1)=true:=by
  rw [bj]
  intro x hx
  obtain ⟨y,_,rfl⟩:=List.mem_map.1 hx
  rfl
 simp only [rowOf,h,if_true,gq,gu,lJ,Option.map_some]
theorem PC (a b:aG):cR 231 [cx a,cx b]=some (.bool (a == b)):=by
 refine aC (F:=F231) rfl ?_
 simp only [cx]
 simp only [F231,ax,seval,VX,ae,aK,bS,OP]
theorem pS {pub msg sig:aG} (h: ¬(pub.length=32/\sig.length=64/\bL (sig.drop 32) < LL)):qA cO pub msg sig=false:=by
 unfold qA
 by_cases h1:pub.length=32
 ·by_cases h2:sig.length=64
  ·have h3: ¬bL (sig.drop 32) < LL:=fun c=>h ⟨h1,h2,c⟩
   rw [decide_eq_false h3]; simp
  ·rw [cc.2 h2]; simp
 ·rw [cc.2 h1]; simp
theorem Qr {n:Nat} {s:aG} (hn:n < 256 ^ 32) (hs:s.length=32):(toLE 32 n == s)=(n == bL s):=by
 rw [Bool.eq_iff_iff,beq_iff_eq,beq_iff_eq]
 constructor
 ·intro h; rw [←h,lA _ _ hn]
 ·intro h; rw [h,←hs,xB]
def zt:Option jS->ai
 | some (.own cs)=>cs
 | _=> []
theorem SL {st:Bool} {σ:ag} {b:Nat} {v s:aG} {c c':aD} {res:Bool} (h:zt (look σ.m b)=af v) (hv:v.length=32) (hr:cR 231 [cx v,cx s]=some (.bool res)) :
  fZ cF gU st (.fn 231 [] []) [.sl b 0 32 1 c, .vsl (af s) c'] σ=some (.bool res,σ):=by
 have hb:look σ.m b=some (.own (af v)):=by
  unfold zt at h
  split at h
  ·rename_i cs e; rw [e,h]
  ·have:(af v).length=0:=by rw [←h]; rfl
   rw [aU] at this; omega
 have k1:rb σ bK (.sl b 0 32 1 c)=some (cx v):=by
  rw [show bK=23+1 from rfl,nX hb (by rw [aU]; omega) (aK _) (nh _),List.drop_zero,aQ (by rw [aU]; omega)]
 refine gl (args':= [cx v, .vsl (af s) c']) rfl ?_ ?_ rfl
 ·simp only [dt,k1,cj (show (AV.vsl (af s) c').closed=true from by simp only [AV.closed,aK])]
 ·rw [dD,dD,jr,jr,bS,bS,gM]; exact hr
theorem PE {pub msg sig:aG} (hm:msg.length < 1099511000000):cR 224 [cx pub,cx msg,cx sig]=some (.bool (qA cO pub msg sig)):=by
 have Oe:(af pub).length=pub.length:=aU pub
 have wk:(af sig).length=sig.length:=aU sig
 by_cases hp:pub.length=32
 ·have hc:((pub.length:Int) != 32)=false:=by rw [hp]; rfl
  by_cases hs:sig.length=64
  ·have hd:((sig.length:Int) != 64)=false:=by rw [hs]; rfl
   have hf: ∀c,dd 1 (.vsl (af sig) c) (some 32) none none=some (.vsl (af (sig.drop 32)) (c.map (· - 32))):=fun c=>by
    have:=qV (c:=c) (l:=32) (cs:=af sig) aa (cI sig)
    rw [af,←List.map_drop] at this
    exact this
   have ht: ∀c,dd 1 (.vsl (af sig) c) none (some 32) none=some (.vsl (af (sig.take 32)) (c.map (· - 0))):=fun c=>by
    have:=nT (c:=c) (n:=32) (cs:=af sig) aa
    rw [af,←List.map_take] at this
    exact this
   have zB:(sig.drop 32).length=32:=by rw [gA]; omega
   have aN:(sig.take 32).length=32:=by rw [bE]; omega
   have hg:=Vn zB
   by_cases hl:bL (sig.drop 32) < LL
   ·have hp32:32<=pub.length:=by omega
    have htp:(af pub).take 32=af pub:=aQ aa
    have hlu:(af (sig.drop 32)).length=32:=by rw [aU,zB]
    have htu:(af (sig.drop 32)).take 32=af (sig.drop 32):=aQ aa
    rw [decide_eq_true hl] at hg
    have hfl:([sig.take 32,pub,msg] :List (aG)).flatten=sig.take 32 ++pub ++msg:=by simp
    have vk:=r_sumN (a:=sig.take 32) (rest:= [pub,msg]) (Nat.succ_pos _) (show 2 < 1099511627776 by decide) aa (by rw [hfl,az,az]; omega)
    rw [hfl] at vk
    simp only [List.map_cons,List.map_nil] at vk
    have hv:qA cO pub msg sig=match dA (bL pub) with
     | none=>false
     | some a=>bY (fU (cl cX (bL (sig.drop 32))) (gT (cl a (bL (cO (sig.take 32 ++pub ++msg)) % LL)))) == bL (sig.take 32):=by
     rw [qA,decide_eq_true hl,hp,hs]; rfl
    rw [hv]
    have e2: ∀n,bL (toLE 32 (n % LL))=n % LL:=fun n=>lA _ _ (bU (bb _ (by decide)) (by decide))
    have hT:=JP (bN 32 (bL (cO (sig.take 32 ++pub ++msg)) % LL)) hp
    rw [e2] at hT
    have qc:(af (toLE 32 (bL (cO (sig.take 32 ++pub ++msg)) % LL))).length=32:=by rw [aU,bN]
    have tq:(af (toLE 32 (bL (cO (sig.take 32 ++pub ++msg)) % LL))).take 32=af (toLE 32 (bL (cO (sig.take 32 ++pub ++msg)) % LL)):=aQ aa
    have hB:=r_Base
    have hTB:=Pf zB
    generalize bL (cO (sig.take 32 ++pub ++msg)) % LL=kk at*
    have hon: ∀p,dA (bL pub)=some p->On p:=fun p=>sv
    generalize dA (bL pub)=o at*
    generalize bL (sig.drop 32)=ss at*
    generalize toLE 32 kk=kb at*
    cases o with
    | none=>
     simp only [Option.map_none,GD,List.replicate] at hT
     simp only [bG] at hg vk hT
     refine aC (F:=FT) rfl ?_
     simp only [cx] at vk ⊢
     simp only [CT,FT,ax,seval,VX,ae,gq,aK,bS,cI,Oe,wk,hc,hd,hf,ht,hlu,htu,hp32,htp,qc,tq,hg,vk,hT]
    | some a=>
     have oa:=hon a rfl
     have oP:=kF oa kk
     have oB:=kF mf ss
     simp only [Option.map_some,GD] at hT
     have hN:=r_Neg (bN 32 (bY (cl a kk)))
     rw [wb,m9 oP] at hN
     simp only [Option.map_some,GD] at hN
     have hA:=r_Add (bN 32 (bY (cl cX ss))) (bN 32 (bY (gT (cl a kk))))
     rw [wb,m9 oB,wb,m9 (GQ oP)] at hA
     simp only [Option.bind_some,Option.map_some,GD] at hA
     have hE:=PC (toLE 32 (bY (fU (cl cX ss) (gT (cl a kk))))) (sig.take 32)
     rw [Qr (by have:=Bk (fU (cl cX ss) (gT (cl a kk))); omega) aN] at hE
     show cR 224 [cx pub,cx msg,cx sig]=some (.bool (bY (fU (cl cX ss) (gT (cl a kk))) == bL (sig.take 32)))
     generalize (bY (fU (cl cX ss) (gT (cl a kk))) == bL (sig.take 32))=res at*
     have L1:=bN 32 (bY (cl a kk))
     have L2:=bN 32 (bY (gT (cl a kk)))
     have L3:=bN 32 (bY (cl cX ss))
     have L4:=bN 32 (bY (fU (cl cX ss) (gT (cl a kk))))
     have L5:=bN 32 (bY cX)
     generalize toLE 32 (bY (cl a kk))=v1 at*
     generalize toLE 32 (bY (gT (cl a kk)))=v2 at*
     generalize toLE 32 (bY (cl cX ss))=v3 at*
     generalize toLE 32 (bY (fU (cl cX ss) (gT (cl a kk))))=v4 at*
     generalize toLE 32 (bY cX)=v5 at*
     have u1:(af v1).length=32:=by rw [aU,L1]
     have u2:(af v2).length=32:=by rw [aU,L2]
     have u3:(af v3).length=32:=by rw [aU,L3]
     have u4:(af v4).length=32:=by rw [aU,L4]
     have u5:(af v5).length=32:=by rw [aU,L5]
     have w1:(af v1).take 32=af v1:=aQ aa
     have w2:(af v2).take 32=af v2:=aQ aa
     have w3:(af v3).take 32=af v3:=aQ aa
     have w4:(af v4).take 32=af v4:=aQ aa
     have w5:(af v5).take 32=af v5:=aQ aa
     simp only [bG] at hg vk hT hN hA hB hTB
     refine aC (F:=FT) rfl ?_
     simp only [cx] at vk hE ⊢
     simp only [YE,ax,seval,VX,ae,gq,aK,bS,cI,Oe,wk,hc,hd,hf,ht,hlu,htu,hp32,htp,qc,tq,hg,vk,hT,hN,hA,hB,hTB,@eB _ 4 32 (by decide),yd,zt,@SL _ _ 4 v4 (sig.take 32) _ _ res,L4,hE,u1,u2,u3,u4,u5,w1,w2,w3,w4,w5]
   ·rw [pS (fun c=>hl c.2.2)]
    rw [decide_eq_false hl] at hg
    have hlu:(af (sig.drop 32)).length=32:=by rw [aU,zB]
    have htu:(af (sig.drop 32)).take 32=af (sig.drop 32):=aQ aa
    simp only [bG] at hg
    refine aC (F:=FT) rfl ?_
    simp only [cx]
    simp only [YE,ax,seval,VX,ae,gq,aK,bS,Oe,wk,hc,hd,hf,hlu,htu,hg]
  ·have hd:((sig.length:Int) != 64)=true:=by rw [bne_iff_ne]; omega
   rw [pS (fun c=>hs c.2.1)]
   refine aC (F:=FT) rfl ?_
   simp only [cx]
   simp only [YE,ax,seval,VX,ae,gq,aK,bS,Oe,wk,hc,hd]
 ·have hc:((pub.length:Int) != 32)=true:=by rw [bne_iff_ne]; omega
  rw [pS (fun c=>hp c.1)]
  refine aC (F:=FT) rfl ?_
  simp only [cx]
  simp only [YE,ax,seval,VX,ae,gq,aK,bS,Oe,wk,hc]
def FW:= @IU.eq_1
theorem JX {σ:ag} {b n:Nat} {cs:ai} (h:look σ.m b=some (.own cs)) (hl:cs.length=n) (h0:0 < n) (hb:b < σ.next) (m:aG) (hm:n+m.length < 2199023255552) :
  ∃b' σ',aJ σ 1 1 (.sl b 0 n 1 none) (af m) m.length=some (.sl b' 0 (n+m.length) 1 none,σ')/\look σ'.m b'=some (.own (cs ++af m))/\b' < σ'.next:=by
 by_cases h1:m.length=0
 ·have:=dW h1
  subst this
  refine ⟨b,σ,?_,?_,hb⟩
  ·have ho:σ.owned b=some cs:=by unfold ag.owned ag.get; rw [h]
   unfold aJ
   simp only [lenOf]
   rw [if_pos ⟨by decide,by decide,by unfold bg; simp at hm ⊢; omega,rfl,rfl⟩]
   simp [ho]
  ·rw [show af []= [] from rfl,bm]; exact h
 ·obtain ⟨σ',h1,h2,h3,h4⟩:=gp (σ:=σ) (sz:=1) (bytes:=1) (n:=n) (k:=m.length) (ob:=some b) (cells:=cs) (new:=af m) ⟨h,by omega,hb,h0⟩ (by decide) (by decide) (by unfold bg; omega) (by rw [aU]; omega) (cI m) aa
  exact ⟨σ.next,σ',h1,h2.1,by rw [h3]; exact aR _⟩
theorem rbE_u8 {σ:ag} {b n:Nat} {s:aG} (h:look σ.m b=some (.own (af s))) (hn:s.length=n):rbE σ (.sl b 0 n 1 none)=some (cx s):=by
 have:=nX (d:=23) (off:=0) (n:=n) (c:=none) h (by rw [aU]; omega) (aK _) (nh _)
 rw [List.drop_zero,aQ (by rw [aU]; omega)] at this
 unfold rbE
 rw [show bK=23+1 from rfl,this,Option.map_some,jr,bS]
theorem Vt {a b c:aG} (ha:0 < a.length) (hn:a.length+b.length+c.length < 2199023255552):cR 235 [cx a,cx b,cx c]=some (cx (a ++b ++c)):=by
 have h1:aJ ⟨0, []⟩ 1 1 (.vsl [] (some 0)) (af a) a.length=some (.sl 0 0 a.length 1 none,ag.alloc ⟨0, []⟩ (af a)):=by
  have hr {σ:ag}:rowOf σ 1 (.vsl [] (some 0))=some []:=rfl
  unfold aJ
  simp only [lenOf,List.length_nil]
  rw [if_pos ⟨by decide,by decide,by unfold bg; omega,by rw [aU]; omega,cI a⟩]
  simp [hr,show ¬a.length=0 by omega]
 have h2:look (ag.alloc ⟨0, []⟩ (af a)).m 0=some (.own (af a)):=by simp [ag.alloc,look]
 obtain ⟨b1,σ1,q1,q2,q3⟩:=JX h2 (aU a) ha (by simp [ag.alloc]) b aa
 rw [←kB] at q2
 simp only [ag.alloc,Nat.zero_add] at h1 q1
 obtain ⟨b2,σ2,e1,e2,e3⟩:=JX q2 (by rw [aU,az]) aa q3 c aa
 rw [←kB] at e2
 have hR:=rbE_u8 (n:=a.length+b.length+c.length) e2 (by simp only [az])
 refine aC (F:=F235) rfl ?_
 simp only [F235,ax,seval,ae,cx,lenOf,tP,aU,h1,q1,e1,hR]
theorem Pn {s:aG} (hn:s.length < 1099511627776):cR 236 [cx s]=some (bG (toLE 32 (bL (cO s) % LL))):=by
 have hs:=L8 hn
 have hL:=qY s
 generalize cO s=h at*
 have ho:=r_rOfL hL
 have F2:=bN 32 (bL h % LL)
 generalize toLE 32 (bL h % LL)=v at*
 have u1:(af h).length=64:=by rw [aU,hL]
 have t1:(af h).take 64=af h:=aQ aa
 have d1:(af h).drop 64= []:=List.drop_of_length_le aa
 have u2:(af v).length=32:=by rw [aU,F2]
 have t2:(af v).take 32=af v:=aQ aa
 have d2:(af v).drop 32= []:=List.drop_of_length_le aa
 have hP {σ:ag} {b:Nat} (hb:look σ.m b=some (.own (af h))) {c:aD}:fZ cF gU false (.fn 305 [] []) [.sl b 0 64 1 c] σ=some (bG v,σ):=by
  refine yS hb (by rw [u1]; decide) (aK _) (nh _) ?_ ?_ (by simp only [bG,AV.flat,qf])
  ·rw [List.drop_zero,t1,bS]
  ·rw [List.drop_zero,t1]; exact ho
 simp only [bG] at hs hP ⊢
 refine aC (F:=F236) rfl ?_
 simp only [F236,ax,seval,ae,cx,aK,bS,cI,hs,u1,t1,d1,u2,t2,d2,@eB _ 1 64 (by decide),yd,@hP _ 1]
theorem AH {σ:ag} {b n:Nat} {c e:aD} {s:aG} (h0:0 < n) (h:yd (look σ.m b)=n) (hs:s.length=n) :
  jN σ 1 (.sl b 0 n 1 c) (.vsl (af s) e)=some (.int .i64 (n:Int),{ σ with m:=(b, .own (af s)) ::σ.m }):=by
 unfold yd at h
 split at h
 ·rename_i cs hb
  have e2:σ.owned b=some cs:=by unfold ag.owned ag.get; rw [hb]
  simp only [jN,lenOf,tP,e2,ag.set,splice,List.take_zero,List.nil_append,Nat.zero_add,aU,hs]
  rw [if_neg aa,if_pos ⟨trivial,by decide,aE _,by omega,by omega,cI s⟩,List.drop_of_length_le aa,bm]
 ·omega
theorem vV {σ:ag} {b n:Nat} {c:aD} {v:aG} (h:zt (look σ.m b)=af v) (h0:0 < n) (hv:v.length=n):rowOf σ 1 (.sl b 0 n 1 c)=some (af v):=by
 have hb:look σ.m b=some (.own (af v)):=by
  unfold zt at h
  split at h
  ·rename_i cs e; rw [e,h]
  ·have:(af v).length=0:=by rw [←h]; rfl
   rw [aU] at this; omega
 have e1:σ.cells b=some (af v):=by unfold ag.cells ag.get; rw [hb]
 simp only [rowOf,if_true,e1]
 rw [if_pos (by rw [aU]; omega),List.drop_zero,aQ (by rw [aU]; omega)]
theorem Qi (x y:K):(⟨0 - x,y,1,0 - x*y⟩ :Wd)=gw (gT (x,y)):=by
 simp only [gw,gT,Wd.mk.injEq]
 exact ⟨by grobner,trivial,trivial,by grobner⟩
theorem HT (x y:K):(Ds (gw (x,y))).cells= [.int .u64 ((wq x.val 0).toNat:Int), .int .u64 ((wq x.val 1).toNat:Int), .int .u64 ((wq x.val 2).toNat:Int), .int .u64 ((wq x.val 3).toNat:Int), .int .u64 ((wq y.val 0).toNat:Int), .int .u64 ((wq y.val 1).toNat:Int), .int .u64 ((wq y.val 2).toNat:Int), .int .u64 ((wq y.val 3).toNat:Int), .int .u64 ((wq (1:K).val 0).toNat:Int), .int .u64 ((wq (1:K).val 1).toNat:Int), .int .u64 ((wq (1:K).val 2).toNat:Int), .int .u64 ((wq (1:K).val 3).toNat:Int), .int .u64 ((wq (x*y).val 0).toNat:Int), .int .u64 ((wq (x*y).val 1).toNat:Int), .int .u64 ((wq (x*y).val 2).toNat:Int), .int .u64 ((wq (x*y).val 3).toNat:Int)]:=rfl
theorem NF (x y:K):(Ds ⟨0 - x,y,1,0 - x*y⟩).cells= [.int .u64 ((wq (0 - x).val 0).toNat:Int), .int .u64 ((wq (0 - x).val 1).toNat:Int), .int .u64 ((wq (0 - x).val 2).toNat:Int), .int .u64 ((wq (0 - x).val 3).toNat:Int), .int .u64 ((wq y.val 0).toNat:Int), .int .u64 ((wq y.val 1).toNat:Int), .int .u64 ((wq y.val 2).toNat:Int), .int .u64 ((wq y.val 3).toNat:Int), .int .u64 ((wq (1:K).val 0).toNat:Int), .int .u64 ((wq (1:K).val 1).toNat:Int), .int .u64 ((wq (1:K).val 2).toNat:Int), .int .u64 ((wq (1:K).val 3).toNat:Int), .int .u64 ((wq (0 - x*y).val 0).toNat:Int), .int .u64 ((wq (0 - x*y).val 1).toNat:Int), .int .u64 ((wq (0 - x*y).val 2).toNat:Int), .int .u64 ((wq (0 - x*y).val 3).toNat:Int)]:=rfl
theorem L7 {pub msg sig:aG} (hm:msg.length < 1099511000000):cR 197 [cx pub,cx msg,cx sig]=some (.bool (qA cO pub msg sig)):=by
 by_cases hp:pub.length=32
 ·have hc:((pub.length:Int) != 32)=false:=by rw [hp]; rfl
  by_cases hs:sig.length=64
  ·have hd:((sig.length:Int) != 64)=false:=by rw [hs]; rfl
   have hf: ∀c,dd 1 (.vsl (af sig) c) (some 32) none none=some (.vsl (af (sig.drop 32)) (c.map (· - 32))):=fun c=>by
    have:=qV (c:=c) (l:=32) (cs:=af sig) (by rw [aU]; omega) (cI sig)
    rw [af,←List.map_drop] at this
    exact this
   have ht: ∀c,dd 1 (.vsl (af sig) c) none (some 32) none=some (.vsl (af (sig.take 32)) (c.map (· - 0))):=fun c=>by
    have:=nT (c:=c) (n:=32) (cs:=af sig) (by rw [aU]; omega)
    rw [af,←List.map_take] at this
    exact this
   have zB:(sig.drop 32).length=32:=by rw [gA]; omega
   have aN:(sig.take 32).length=32:=by rw [bE]; omega
   have BB:=JG hp
   have hon: ∀p,dA (bL pub)=some p->On p:=fun p=>sv
   have hg:=Vy zB
   have cp1:= @AH (b:=0) (n:=32) (s:=pub) (h0:=by decide) (hs:=hp)
   have cp2:= @AH (b:=1) (n:=32) (s:=sig.drop 32) (h0:=by decide) (hs:=zB)
   have up:(af pub).length=32:=by rw [aU,hp]
   have tp:(af pub).take 32=af pub:=aQ aa
   have us:(af (sig.drop 32)).length=32:=by rw [aU,zB]
   have ts:(af (sig.drop 32)).take 32=af (sig.drop 32):=aQ aa
   have hver:qA cO pub msg sig=(decide (bL (sig.drop 32) < LL) && match dA (bL pub) with
    | none=>false
    | some a=>bY (fU (cl cX (bL (sig.drop 32))) (gT (cl a (bL (cO (sig.take 32 ++pub ++msg)) % LL)))) == bL (sig.take 32)):=by
    unfold qA; rw [hp,hs]; simp only [beq_self_eq_true,Bool.true_and]
    cases dA (bL pub) <;> rfl
   rw [hver]
   clear hver
   generalize dA (bL pub)=o at*
   cases o with
   | none=>
    simp only [zu,bG,List.replicate] at BB
    simp only [aW]
    refine aC (F:=IU) rfl ?_
    simp only [FW,ax,seval,ae,cx,aU,gq,aK,bS,cI,hc,hd,hf,ht,@eB _ 0 32 (by decide),@eB _ 1 32 (by decide),yd,cp1,cp2,up,tp,us,ts,BB]
   | some a=>
    obtain ⟨x,y⟩:=a
    have ha:=hon _ rfl
    simp only [zu,wE,HT] at BB
    by_cases zo:bL (sig.drop 32) < LL
    ·rw [decide_eq_true zo] at hg
     rw [decide_eq_true zo,Bool.true_and]
     have hj:=Vt (a:=sig.take 32) (b:=pub) (c:=msg) aa aa
     have ho:=Pn (s:=sig.take 32 ++pub ++msg) (by simp only [az]; omega)
     generalize sig.take 32 ++pub ++msg=J at*
     have hk:bL (cO J) % LL < LL:=bb _ (by decide)
     generalize bL (cO J) % LL=kk at*
     have Xc:=bN 32 kk
     have hkv:bL (toLE 32 kk)=kk:=lA _ _ (bU hk (by decide))
     have hT:=DW Xc ⟨0 - x,y,1,0 - x*y⟩
     have hB:=Ps zB
     have hS:=Gx (fM (gw cX) (bL (sig.drop 32)) 256 gJ) (fM ⟨0 - x,y,1,0 - x*y⟩ (bL (toLE 32 kk)) 256 gJ)
     have hP:=Pr (mS (fM (gw cX) (bL (sig.drop 32)) 256 gJ) (fM ⟨0 - x,y,1,0 - x*y⟩ (bL (toLE 32 kk)) 256 gJ))
     have r1:=DL (m5 cX) mf (bL (sig.drop 32)) (bU zo (by decide))
     have r2:zI (fM ⟨0 - x,y,1,0 - x*y⟩ (bL (toLE 32 kk)) 256 gJ) (gT (cl (x,y) kk)):=by
      rw [Qi,hkv,←Ew]
      exact DL (m5 _) (GQ ha) kk (bU hk (by decide))
     have hA:=vW (r9 r1 r2 (kF mf _) (GQ (kF ha _)))
     rw [hA] at hP
     clear r1 r2 hA
     have hL4:=bN 32 (bY (fU (cl cX (bL (sig.drop 32))) (gT (cl (x,y) kk))))
     have hE:=Qr (n:=bY (fU (cl cX (bL (sig.drop 32))) (gT (cl (x,y) kk)))) (by have:=Bk (fU (cl cX (bL (sig.drop 32))) (gT (cl (x,y) kk))); omega) aN
     generalize toLE 32 (bY (fU (cl cX (bL (sig.drop 32))) (gT (cl (x,y) kk))))=v at*
     show cR 197 [cx pub,cx msg,cx sig]=some (.bool (bY (fU (cl cX (bL (sig.drop 32))) (gT (cl (x,y) kk))) == bL (sig.take 32)))
     generalize (bY (fU (cl cX (bL (sig.drop 32))) (gT (cl (x,y) kk))) == bL (sig.take 32))=res at*
     generalize fM ⟨0 - x,y,1,0 - x*y⟩ (bL (toLE 32 kk)) 256 gJ=w2 at*
     generalize fM (gw cX) (bL (sig.drop 32)) 256 gJ=w1 at*
     generalize mS w1 w2=w3 at*
     generalize toLE 32 kk=kb at*
     have uk:(af kb).length=32:=by rw [aU,Xc]
     have tk:(af kb).take 32=af kb:=aQ aa
     have dk:(af kb).drop 32= []:=List.drop_of_length_le aa
     have uv:(af v).length=32:=by rw [aU,hL4]
     have tv:(af v).take 32=af v:=aQ aa
     have dv:(af v).drop 32= []:=List.drop_of_length_le aa
     have rw4 {σ:ag} (h:zt (look σ.m 4)=af v) {c:aD}:rowOf σ 1 (.sl 4 0 32 1 c)=some (af v):=vV h (by decide) hL4
     have n1:=pU 0 x
     have n2:=pU 0 (x*y)
     rw [show aw (0:K).val=_ from oO] at n1 n2
     simp only [wE,NF] at hT hB hS hP
     simp only [bG,aw,U] at BB hg ho hT hB hS hP n1 n2
     refine aC (F:=IU) rfl ?_
     simp only [cx] at hj ho
     simp only [FW,ax,seval,ae,cx,aU,gq,aK,bS,cI,hc,hd,hf,ht,@eB _ 0 32 (by decide),@eB _ 1 32 (by decide),@eB _ 4 32 (by decide),yd,cp1,cp2,up,tp,us,ts,uk,tk,dk,uv,tv,dv,BB,hg,hj,ho,n1,n2,hT,hB,hS,hP,gQ,eS,lY,gP,cM,jf,zt,rw4,tP,gu,lJ,hE]
    ·rw [decide_eq_false zo] at hg
     rw [decide_eq_false zo,Bool.false_and]
     simp only [bG] at BB hg
     refine aC (F:=IU) rfl ?_
     simp only [FW,ax,seval,ae,cx,aU,gq,aK,bS,cI,hc,hd,hf,ht,@eB _ 0 32 (by decide),@eB _ 1 32 (by decide),yd,cp1,cp2,up,tp,us,ts,BB,hg]
  ·have hd:((sig.length:Int) != 64)=true:=by rw [bne_iff_ne]; omega
   rw [pS (fun c=>hs c.2.1)]
   refine aC (F:=IU) rfl ?_
   simp only [FW,ax,seval,ae,cx,aU,gq,aK,bS,hc,hd]
 ·have hc:((pub.length:Int) != 32)=true:=by rw [bne_iff_ne]; omega
  rw [pS (fun c=>hp c.1)]
  refine aC (F:=IU) rfl ?_
  simp only [FW,ax,seval,ae,cx,aU,gq,aK,bS,hc]
def qC (n:UInt8):UInt8:=if n < 10 then 48+n else 87+n
def fT (b:UInt8):Bs:=
 if b=34 then [92,34] else if b=92 then [92,92] else if b=8 then [92,98] else if b=9 then [92,116] else if b=10 then [92,110] else if b=12 then [92,102] else if b=13 then [92,114]
 else if b < 32 then [92,117,48,48,qC (b >>> 4),qC (b &&& 15)] else [b]
def dw (s:Bs):Bs:=34 ::(s.flatMap fT ++ [34])
def dQ (n:Nat):Bs:=if h:n < 10 then [UInt8.ofNat (48+n)] else dQ (n / 10) ++ [UInt8.ofNat (48+n % 10)]
termination_by n
decreasing_by omega
def lH (n:Int):Bs:=if n < 0 then 45 ::dQ n.natAbs else dQ n.natAbs
mutual
def V.wr:V->Bs
 | .mk k n s l m=>if k=0 then [110,117,108,108] else if k=1 then (if n=1 then [116,114,117,101] else [102,97,108,115,101]) else if k=2 then lH n
  else if k=3 then dw s else if k=4 then 91 ::((uV l).tail ++ [93]) else 123 ::((uU m).tail ++ [125])
def uV:List V->Bs
 | []=> []
 | v ::r=>44 ::(v.wr ++uV r)
def uU:List (Bs×V)->Bs
 | []=> []
 | (k,v) ::r=>44 ::(dw k ++58 ::(v.wr ++uU r))
end
theorem V.wr_eq (v:V):v.wr=if v.kind=0 then [110,117,108,108] else if v.kind=1 then (if v.n=1 then [116,114,117,101] else [102,97,108,115,101]) else if v.kind=2 then lH v.n
  else if v.kind=3 then dw v.s else if v.kind=4 then 91 ::((uV v.l).tail ++ [93]) else 123 ::((uU v.m).tail ++ [125]):=by cases v; rw [V.wr]; rfl
theorem A0: ∀l r:List V,uV (l ++r)=uV l ++uV r
 | [],r=>by simp [uV]
 | v ::l,r=>by simp only [List.cons_append,uV,A0 l r,bf]
theorem AZ: ∀l r:List Mem,uU (l ++r)=uU l ++uU r
 | [],r=>by simp [uU]
 | (k,v) ::l,r=>by simp only [List.cons_append,uU,AZ l r,bf]
def oV (j:Nat):Bs:=if j=0 then [] else [44]
theorem Dq {l:List V} {j:Nat} {x:V} (h:l[j]? =some x):(uV (l.take (j+1))).tail=(uV (l.take j)).tail ++oV j ++x.wr:=by
 have hi:=(bA.1 h).1
 rw [eR hi,(bA.1 h).2,A0]
 cases j with
 | zero=>simp [uV,oV]
 | succ j=>
  obtain ⟨v,r,rfl⟩ : ∃v r,l=v ::r:=by cases l with
   | nil=>cases h
   | cons v r=>exact ⟨v,r,rfl⟩
  simp [uV,oV]
theorem Dp {l:List Mem} {j:Nat} {x:Mem} (h:l[j]? =some x):(uU (l.take (j+1))).tail=(uU (l.take j)).tail ++oV j ++dw x.1 ++ [58] ++x.2.wr:=by
 have hi:=(bA.1 h).1
 obtain ⟨k,w⟩:=x
 rw [eR hi,(bA.1 h).2,AZ]
 cases j with
 | zero=>simp [uU,oV]
 | succ j=>
  obtain ⟨v,r,rfl⟩ : ∃v r,l=v ::r:=by cases l with
   | nil=>cases h
   | cons v r=>exact ⟨v,r,rfl⟩
  obtain ⟨k',v⟩:=v
  simp [uU,oV]
theorem Jt {l m:Bs} (h:l <+:m):l.tail.length<=m.tail.length:=by
 rw [List.length_tail,List.length_tail]; have:=h.length_le; omega
theorem Ja (l:List V) (j:Nat):(uV (l.take j)).tail.length<=(uV l).tail.length:=by
 refine Jt ⟨uV (l.drop j),?_⟩
 rw [←A0,ep]
theorem I8 (l:List Mem) (j:Nat):(uU (l.take j)).tail.length<=(uU l).tail.length:=by
 refine Jt ⟨uU (l.drop j),?_⟩
 rw [←AZ,ep]
theorem BN (b:UInt8):0 < (fT b).length/\(fT b).length<=6:=by
 unfold fT; repeat' split
 all_goals simp
def iT (σ:ag) (x:AV) (s:Bs):Prop:=(s= []/\x= .nils)∨∃b,x= .sl b 0 s.length 1 none/\look σ.m b=some (.own (af s))/\b < σ.next/\0 < s.length
theorem Bl {σ:ag} {x:AV} {s:Bs} (h:iT σ x s) (t:Bs) (ht:0 < t.length) (hl:s.length+t.length < 1099511627776) :
  ∃σ',aJ σ 1 1 x (af t) t.length=some (.sl σ.next 0 (s.length+t.length) 1 none,σ')/\look σ'.m σ.next=some (.own (af (s ++t)))/\σ'.next=σ.next+1/\∀j,j < σ.next->(∀b n,x= .sl b 0 n 1 none->j≠b)->look σ'.m j=look σ.m j:=by
 rcases h with ⟨rfl,rfl⟩ | ⟨b,rfl,h1,h2,h3⟩
 ·refine ⟨σ.alloc (af t),?_,?_,rfl,?_⟩
  ·unfold aJ
   simp only [lenOf,List.length_nil,Nat.zero_add]
   rw [if_pos ⟨by decide,by decide,by unfold bg; omega,by rw [aU]; omega,cI t⟩,if_neg aa]
  ·simp [ag.alloc,look]
  ·intro j hj _
   have: ¬σ.next=j:=by omega
   simp [ag.alloc,look,this]
 ·obtain ⟨σ',q1,q2,q3,q4⟩:=gp (σ:=σ) (sz:=1) (bytes:=1) (n:=s.length) (k:=t.length) (ob:=some b) (cells:=af s) (new:=af t) ⟨h1,by rw [aU]; omega,h2,h3⟩ (by decide) (by decide) (by unfold bg; omega) (by rw [aU]; omega) (cI t) ht
  refine ⟨σ',q1,?_,q3,fun j hj hb=> ?_⟩
  ·rw [kB]; exact q2.1
  ·exact q4 j hj (fun e=>hb b s.length rfl (br e).symm)
theorem iT.of {σ:ag} {b n:Nat} {s:Bs} (h:look σ.m b=some (.own (af s))) (hn:n=s.length) (hb:b < σ.next) (h0:0 < s.length):iT σ (.sl b 0 n 1 none) s:= .inr ⟨b,by rw [hn],h,hb,h0⟩
theorem dR {σ:ag} {x:AV} {s:Bs} (h:iT σ x s) (t:Bs) (ht:0 < t.length) (hl:s.length+t.length < 1099511627776) :
  ∃y σ',aJ σ 1 1 x (af t) t.length=some (y,σ')/\iT σ' y (s ++t):=by
 obtain ⟨σ',q1,q2,q3,_⟩:=Bl h t ht hl
 exact ⟨_,σ',q1,iT.of q2 (by rw [az]) (by rw [q3]; exact aR _) (by rw [az]; omega)⟩
theorem gk {ip:Nat->Option aq} {G:Nat->ai} {id:Nat} {F:aq} (hF:ip id=some F) {first args caps:ai} {σ:ag} {P:AV->ag->Prop}
  (h:Ex ip G [.code F.body] (eW (first ++args ++caps)) σ fun fr' σ1=>∃r,iB fr' σ1 F.res=some r/\P r σ1): ∃r σ',cf ip G (.fn id first caps) args σ=some (r,σ')/\P r σ':=by
 obtain ⟨n,fr',σ1,h1,r,h2,h3⟩:=h
 exact ⟨r,σ1,gy hF ⟨n,fr',σ1,h1,h2,rfl⟩,h3⟩
def Q2Fa:=J @CG.eq_1 (J @CF.eq_1 (J @K8.eq_1 (@YY.eq_1)))
def EX:Bs:= [48,49,50,51,52,53,54,55,56,57,97,98,99,100,101,102]
theorem oH {s:Bs} {k:IntKind} {n:Nat} {b:UInt8} (h:s[n]? =some b):cC (.str s) (.int k (n:Int))=some (.int .u8 (b.toNat:Int)):=by simp [cC,h]
theorem QU (b:UInt8):cC (.str EX) (.int .u8 ((b.toNat / 16:Nat):Int))=some (.int .u8 ((qC (b >>> 4)).toNat:Int)):=by
 have h:EX[b.toNat / 16]? =some (qC (b >>> 4)):=eq_of_beq (lL (p:=fun b=>EX[b.toNat / 16]? == some (qC (b >>> 4))) (by decide+kernel) b)
 exact oH h
theorem QT (b:UInt8):cC (.str EX) (.int .u8 ((b.toNat % 16:Nat):Int))=some (.int .u8 ((qC (b &&& 15)).toNat:Int)):=by
 have h:EX[b.toNat % 16]? =some (qC (b &&& 15)):=eq_of_beq (lL (p:=fun b=>EX[b.toNat % 16]? == some (qC (b &&& 15))) (by decide+kernel) b)
 exact oH h
theorem Tg (b:UInt8):IntKind.wrap .u8 ((BitVec.ofInt (IntKind.bits .u8) (b.toNat:Int) &&& BitVec.ofInt (IntKind.bits .u8) 15).toNat:Int)=((b.toNat % 16:Nat):Int):=
 eq_of_beq (lL (p:=fun b=>IntKind.wrap .u8 ((BitVec.ofInt (IntKind.bits .u8) (b.toNat:Int) &&& BitVec.ofInt (IntKind.bits .u8) 15).toNat:Int) == ((b.toNat % 16:Nat):Int)) (by kernel_rfl) b)
theorem Nu (b:UInt8) :
  ((b.toNat:Int)=34/\af (fT b)= [.int .u8 92, .int .u8 34]/\(fT b).length=2)∨
  ((b.toNat:Int)=92/\af (fT b)= [.int .u8 92, .int .u8 92]/\(fT b).length=2)∨
  ((b.toNat:Int)=8/\af (fT b)= [.int .u8 92, .int .u8 98]/\(fT b).length=2)∨
  ((b.toNat:Int)=9/\af (fT b)= [.int .u8 92, .int .u8 116]/\(fT b).length=2)∨
  ((b.toNat:Int)=10/\af (fT b)= [.int .u8 92, .int .u8 110]/\(fT b).length=2)∨
  ((b.toNat:Int)=12/\af (fT b)= [.int .u8 92, .int .u8 102]/\(fT b).length=2)∨
  ((b.toNat:Int)=13/\af (fT b)= [.int .u8 92, .int .u8 114]/\(fT b).length=2)∨
  (((((b.toNat:Int) == 34)=false/\((b.toNat:Int) == 92)=false/\((b.toNat:Int) == 8)=false/\((b.toNat:Int) == 9)=false/\((b.toNat:Int) == 10)=false/\((b.toNat:Int) == 12)=false/\((b.toNat:Int) == 13)=false)/\decide ((b.toNat:Int) < 32)=true)/\
   af (fT b)= [.int .u8 92, .int .u8 117, .int .u8 48, .int .u8 48, .int .u8 ((qC (b >>> 4)).toNat:Int), .int .u8 ((qC (b &&& 15)).toNat:Int)]/\(fT b).length=6)∨
  (((((b.toNat:Int) == 34)=false/\((b.toNat:Int) == 92)=false/\((b.toNat:Int) == 8)=false/\((b.toNat:Int) == 9)=false/\((b.toNat:Int) == 10)=false/\((b.toNat:Int) == 12)=false/\((b.toNat:Int) == 13)=false)/\decide ((b.toNat:Int) < 32)=false)/\
   af (fT b)= [.int .u8 (b.toNat:Int)]/\(fT b).length=1):=by
 have lit (k:UInt8) (h:b.toNat=k.toNat):b=k:=UInt8.toNat.inj h
 by_cases h1:b.toNat=34
 ·have:=lit 34 h1; subst this; exact .inl ⟨rfl,rfl,rfl⟩
 by_cases h2:b.toNat=92
 ·have:=lit 92 h2; subst this; exact .inr (.inl ⟨rfl,rfl,rfl⟩)
 by_cases h3:b.toNat=8
 ·have:=lit 8 h3; subst this; exact .inr (.inr (.inl ⟨rfl,rfl,rfl⟩))
 by_cases h4:b.toNat=9
 ·have:=lit 9 h4; subst this; exact .inr (.inr (.inr (.inl ⟨rfl,rfl,rfl⟩)))
 by_cases h5:b.toNat=10
 ·have:=lit 10 h5; subst this; exact .inr (.inr (.inr (.inr (.inl ⟨rfl,rfl,rfl⟩))))
 by_cases h6:b.toNat=12
 ·have:=lit 12 h6; subst this; exact .inr (.inr (.inr (.inr (.inr (.inl ⟨rfl,rfl,rfl⟩)))))
 by_cases h7:b.toNat=13
 ·have:=lit 13 h7; subst this; exact .inr (.inr (.inr (.inr (.inr (.inr (.inl ⟨rfl,rfl,rfl⟩))))))
 have ne (k:Nat) (h: ¬b.toNat=k):((b.toNat:Int) == (k:Int))=false:=by rw [cc]; omega
 have nb (k:UInt8) (h: ¬b.toNat=k.toNat): ¬b=k:=fun e=>h (by rw [e])
 have q:((b.toNat:Int) == 34)=false/\((b.toNat:Int) == 92)=false/\((b.toNat:Int) == 8)=false/\((b.toNat:Int) == 9)=false/\((b.toNat:Int) == 10)=false/\((b.toNat:Int) == 12)=false/\((b.toNat:Int) == 13)=false:=
  ⟨ne 34 h1,ne 92 h2,ne 8 h3,ne 9 h4,ne 10 h5,ne 12 h6,ne 13 h7⟩
 have e0:fT b=if b < 32 then [92,117,48,48,qC (b >>> 4),qC (b &&& 15)] else [b]:=by
  unfold fT
  rw [if_neg (nb 34 h1),if_neg (nb 92 h2),if_neg (nb 8 h3),if_neg (nb 9 h4),if_neg (nb 10 h5),if_neg (nb 12 h6),if_neg (nb 13 h7)]
 by_cases h8:b < 32
 ·have h9:b.toNat < 32:=UInt8.lt_iff_toNat_lt.1 h8
  rw [if_pos h8] at e0
  exact .inr (.inr (.inr (.inr (.inr (.inr (.inr (.inl ⟨⟨q,decide_eq_true aa⟩,by rw [e0]; rfl,by rw [e0]; rfl⟩)))))))
 ·have h9: ¬b.toNat < 32:=fun h=>h8 (UInt8.lt_iff_toNat_lt.2 h)
  rw [if_neg h8] at e0
  exact .inr (.inr (.inr (.inr (.inr (.inr (.inr (.inr ⟨⟨q,decide_eq_false aa⟩,by rw [e0]; rfl,by rw [e0]; rfl⟩)))))))
theorem Fj {s:Bs} {j:Nat} {b:UInt8} (h:s[j]? =some b):(s.take (j+1)).flatMap fT=(s.take j).flatMap fT ++fT b:=by
 have hi:=(bA.1 h).1
 rw [eR hi,(bA.1 h).2]; simp
theorem BO (s:Bs):(s.flatMap fT).length<=6*s.length:=by
 induction s with
 | nil=>simp
 | cons b s ih=>have:=(BN b).2; simp only [List.flatMap_cons,az,List.length_cons]; omega
theorem DX {s:Bs} (hv:vu s=true) (hn:s.length < 100000000000):cR 293 [.str s]=some (.tup [.str (dw s), .int .i64 0]):=by
 have hg:=Bf s aa
 rw [hv] at hg
 obtain ⟨x0,σ0,p1,p2⟩:=dR (σ:=⟨0, []⟩) (x:= .nils) (s:= []) (.inl ⟨rfl,rfl⟩) [34] (by decide) (by decide)
 rw [show af [34]= [.int .u8 34] from rfl,show ([34] :Bs).length=1 from rfl] at p1
 have hh:EX= [48,49,50,51,52,53,54,55,56,57,97,98,99,100,101,102]:=rfl
 have r1 {σ:ag} {a:AV} {c:aD} (h:a.cells= [a]):rowOf σ 1 (.vsl [a] c)=some [a]:=by simp [rowOf,h]
 refine aC (F:=YY) rfl ?_
 simp only [CG,CF,YY,ax,seval,ae,ay,hg,lenOf,rowOf,AV.cells,p1]
 refine aL (S:=Nat×AV) (fun q=> [(0, .str s),(4,q.2),(5, .int .i64 (q.1:Int))]) (fun q=>s.length - q.1)
  (fun q σ=>iT σ q.2 (34 ::(s.take q.1).flatMap fT)/\q.1<=s.length) ?_ (0,x0) _ ⟨p2,Nat.zero_le _⟩
 rintro B ⟨j,x⟩ σ ⟨g1,g2⟩ ih
 simp only at g1 g2 ih
 have hle:=BO (s.take j)
 rw [bE,Nat.min_eq_left g2] at hle
 by_cases hj:j=s.length
 ·subst hj
  rw [List.take_length] at g1 hle
  have d1:=lT (aE s.length)
  obtain ⟨σ',q1,q2,q3,_⟩:=Bl g1 [34] (by decide) (by rw [List.length_cons]; simp only [List.length_cons,List.length_nil]; omega)
  rw [show af [34]= [.int .u8 34] from rfl,show ([34] :Bs).length=1 from rfl] at q1
  have hq:34 ::s.flatMap fT ++ [34]=dw s:=rfl
  rw [hq] at q2
  have hr {c:aD}:=vV (σ:=σ') (b:=σ.next) (n:=(dw s).length) (c:=c) (v:=dw s) (by unfold zt; rw [q2]) (by simp [dw]) rfl
  have hl:(34 ::s.flatMap fT).length+1=(dw s).length:=by rw [←hq,az]; rfl
  rw [hl] at q1
  have r34 {σ:ag} {c:aD}:rowOf σ 1 (.vsl [.int .u8 34] c)=some [.int .u8 34]:=rfl
  simp only [Q2Fa,ax,seval,ae,d1,lenOf,r34,q1,hr,gu,lJ]
 ·have aN:j < s.length:=by omega
  obtain ⟨b,hb⟩:=bM aN
  have d1:=lS aN
  have F4:cC (.str s) (.int .i64 (j:Int))=some (.int .u8 (b.toNat:Int)):=by simp [cC,hb]
  have hw:=cd aN aa
  have he:=Fj hb
  have uh:=QU b
  have nt:=QT b
  rw [hh] at uh nt
  have hs:aY .shr .u8 (b.toNat:Int) 4=some (.int .u8 ((b.toNat / 16:Nat):Int)):=U1 b.toNat 4 (by decide)
  have h15:=Tg b
  have hbl:=(BN b).2
  obtain ⟨y,σ',q1,q2⟩:=dR g1 (fT b) (BN b).1 (by rw [List.length_cons]; omega)
  have q3:iT σ' y (34 ::(s.take (j+1)).flatMap fT):=by rw [he]; exact q2
  have fin: ∀fr',keep [0,4,5] fr'= [(0, .str s),(4,y),(5, .int .i64 ((j+1:Nat):Int))]->_:=fun fr' h=>ih (j+1,y) fr' σ' (by show s.length - (j+1) < s.length - j; omega) ⟨q3,aN⟩ h
  rcases Nu b with ⟨h,e,el⟩ | ⟨h,e,el⟩ | ⟨h,e,el⟩ | ⟨h,e,el⟩ | ⟨h,e,el⟩ | ⟨h,e,el⟩ | ⟨h,e,el⟩ | ⟨h,e,el⟩ | ⟨h,e,el⟩
  all_goals
   rw [e,el] at q1
   simp only [Q2Fa,ax,seval,ae,d1,F4,lenOf,rowOf,AV.cells,h,hs,h15,uh,nt,q1,hw]
   exact fin _ rfl
def Tq:=J @CJ.eq_1 (J @CH.eq_1 (J @K9.eq_1 (@YZ.eq_1)))
def Q3Fb:=J @CJ.eq_1 (J @CH.eq_1 (@YZ.eq_1))
theorem mq {n:Nat} (h:n < 10):dQ n= [UInt8.ofNat (48+n)]:=by rw [dQ,dif_pos h]
theorem qh {n:Nat} (h:10<=n):dQ n=dQ (n / 10) ++ [UInt8.ofNat (48+n % 10)]:=by
 conv=>lhs; rw [dQ,dif_neg aa]
def iR (n:Nat):Bs:=if n=0 then [] else dQ n
theorem db {m:Nat} (h:0 < m) (t:Bs):iR m ++t=iR (m / 10) ++([UInt8.ofNat (48+m % 10)] ++t):=by
 unfold iR
 rw [if_neg aa]
 by_cases h1:m < 10
 ·rw [if_pos aa,mq h1,aO h1,List.nil_append]
 ·rw [if_neg aa,qh aa,bf]
theorem kp: ∀k n:Nat,n < 10 ^ (k+1)->(dQ n).length<=k+1
 | 0,n,h=>by rw [mq aa]; simp
 | k+1,n,h=>by
  by_cases h1:n < 10
  ·rw [mq h1]; simp
  ·have:=kp k (n / 10) (by rw [Nat.pow_succ] at h; omega)
   rw [qh aa,az]; simp only [List.length_cons,List.length_nil]; omega
theorem Zn (n:Int) (h: -9223372036854775808<=n) (h2:n < 9223372036854775808):IntKind.wrap .u64 n=if n < 0 then 18446744073709551616+n else n:=by
 simp only [IntKind.wrap,IntKind.bits,IntKind.signed,Bool.false_and,aX,if_false]
 show n % 18446744073709551616=_
 split <;> omega
theorem r_Dec {n:Int} (h1: -9223372036854775808<=n) (h2:n < 9223372036854775808):cR 292 [.int .i64 n]=some (.str (lH n)):=by
 refine aC (F:=YZ) rfl ?_
 by_cases h0:n=0
 ·subst h0
  have e:lH 0= [48]:=by unfold lH; rw [if_neg (by decide)]; exact mq (by decide)
  rw [e]
  simp only [Tq,ax,seval,ae]
 have e0:(n == 0)=false:=by rw [cc]; exact h0
 have hN:0 < n.natAbs:=by omega
 have hNb:n.natAbs < 18446744073709551616:=by omega
 have hNl:(dQ n.natAbs).length<=20:=kp 19 n.natAbs aa
 have hu:=Zn n h1 h2
 have Zy: ∀m:Nat,m < 18446744073709551616->IntKind.wrap .u64 ((m % 10:Nat):Int)=((m % 10:Nat):Int)/\IntKind.wrap .u8 ((m % 10:Nat):Int)=((m % 10:Nat):Int)/\IntKind.wrap .u8 (48+((m % 10:Nat):Int))=((UInt8.ofNat (48+m % 10)).toNat:Int)/\IntKind.wrap .u64 ((m / 10:Nat):Int)=((m / 10:Nat):Int):=fun m hm=>by
  refine ⟨iw aa aa,?_,?_,iw aa aa⟩
  ·rw [kY]; omega
  ·rw [show (48+((m % 10:Nat):Int))=((48+m % 10:Nat):Int) by omega,kY,dF]
 have r1 {σ:ag} {c:UInt8} {e:aD}:gu (rowOf σ 1 (.vsl [.int .u8 (c.toNat:Int)] e))=some (.str [c]):=OP σ [c] e
 by_cases oT:n < 0
 ·have d0:decide (n < 0)=true:=decide_eq_true oT
  rw [if_pos oT] at hu
  have hm:IntKind.wrap .u64 (0 - (18446744073709551616+n))=((n.natAbs:Nat):Int):=by
   simp only [IntKind.wrap,IntKind.bits,IntKind.signed,Bool.false_and,aX,if_false]
   show (0 - (18446744073709551616+n)) % 18446744073709551616=_
   omega
  have hd:lH n=45 ::dQ n.natAbs:=by unfold lH; rw [if_pos oT]
  rw [hd]
  generalize hX:n.natAbs=N at*
  simp only [Q3Fb,ax,seval,ae,ay,e0,d0,hu,hm]
  refine aL (S:=Nat×Bs) (fun p=> [(0, .int .i64 n),(3, .int .u64 (p.1:Int)),(4, .str p.2)]) (fun p=>p.1)
   (fun p _=>iR p.1 ++p.2=dQ N/\p.1 < 18446744073709551616) ?_ (N, []) _ ⟨by unfold iR; rw [if_neg aa,bm],by show N < _; omega⟩
  rintro B ⟨m,t⟩ σ ⟨g1,g2⟩ ih
  simp only at g1 g2 ih
  have hL:=congrArg List.length g1
  rw [az] at hL
  have Xb:1+t.length<=9223372036854775807:=by omega
  have F2:1+(dQ N).length<=9223372036854775807:=by omega
  by_cases hm0:m=0
  ·subst hm0
   have hg:decide (((0:Nat):Int) > 0)=false:=rfl
   have ht:t=dQ N:=by rw [←g1]; rfl
   subst ht
   simp only [Tq,ax,seval,ae,hg,d0,F2]
  ·have hg:decide ((m:Int) > 0)=true:=decide_eq_true aa
   obtain ⟨s1,s2,s3,s4⟩:=Zy m g2
   have t1:Int.tmod (m:Int) 10=((m % 10:Nat):Int):=rfl
   have t2:Int.tdiv (m:Int) 10=((m / 10:Nat):Int):=rfl
   simp only [Tq,ax,seval,ae,hg,t1,t2,s1,s2,s3,s4,r1,Xb]
   exact ih (m / 10,_) _ _ (by show m / 10 < m; omega) ⟨by rw [←g1]; exact (db aa t).symm,by show m / 10 < _; omega⟩ rfl
 ·have d0:decide (n < 0)=false:=decide_eq_false oT
  rw [if_neg oT] at hu
  have hu':IntKind.wrap .u64 n=((n.natAbs:Nat):Int):=by rw [hu]; omega
  have hd:lH n=dQ n.natAbs:=by unfold lH; rw [if_neg oT]
  rw [hd]
  clear hu
  generalize n.natAbs=N at*
  simp only [Q3Fb,ax,seval,ae,ay,e0,d0,hu']
  refine aL (S:=Nat×Bs) (fun p=> [(0, .int .i64 n),(3, .int .u64 (p.1:Int)),(4, .str p.2)]) (fun p=>p.1)
   (fun p _=>iR p.1 ++p.2=dQ N/\p.1 < 18446744073709551616) ?_ (N, []) _ ⟨by unfold iR; rw [if_neg aa,bm],by show N < _; omega⟩
  rintro B ⟨m,t⟩ σ ⟨g1,g2⟩ ih
  simp only at g1 g2 ih
  have hL:=congrArg List.length g1
  rw [az] at hL
  have Xb:1+t.length<=9223372036854775807:=by omega
  have F2:1+(dQ N).length<=9223372036854775807:=by omega
  by_cases hm0:m=0
  ·subst hm0
   have hg:decide (((0:Nat):Int) > 0)=false:=rfl
   have ht:t=dQ N:=by rw [←g1]; rfl
   subst ht
   simp only [Tq,ax,seval,ae,hg,d0]
  ·have hg:decide ((m:Int) > 0)=true:=decide_eq_true aa
   obtain ⟨s1,s2,s3,s4⟩:=Zy m g2
   have t1:Int.tmod (m:Int) 10=((m % 10:Nat):Int):=rfl
   have t2:Int.tdiv (m:Int) 10=((m / 10:Nat):Int):=rfl
   simp only [Tq,ax,seval,ae,hg,t1,t2,s1,s2,s3,s4,r1,Xb]
   exact ih (m / 10,_) _ _ (by show m / 10 < m; omega) ⟨by rw [←g1]; exact (db aa t).symm,by show m / 10 < _; omega⟩ rfl
end Go.Ab
