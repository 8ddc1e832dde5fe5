/- What functions of the program, and of the library, answer. Conditions: none. -/
import Derived.Test.YtgfeimceppggcaaGreatDoorLaw6
set_option linter.unusedVariables false
set_option linter.unusedSimpArgs false
set_option linter.defProp false
set_option linter.unnecessarySimpa false
namespace Go.Ab
set_option maxRecDepth 100000
set_option maxHeartbeats 1000000
def H2Fe:=J @vT.eq_1 (J @vS.eq_1 (J @rj.eq_1 (J @Ng.eq_1 (J @rh.eq_1 (J @ux.eq_1 (J @re.eq_1 (J @ra.eq_1 (J @q9.eq_1 (J @q7.eq_1 (@KE.eq_1))))))))))
theorem Bi: ∀n l,yP (n+1) l=yP n l ++ [zf (yP n l)]
 | 0,l=>rfl
 | n+1,l=>by rw [yP,Bi n,←yP]
def ku (s:aw) (i:Nat):List UInt64:=if i<=16 then DE s i else yP (i - 16) (DE s 16)
theorem HJ (s:aw) (n:Nat):(DE s n).length=n:=by simp [DE]
theorem jd (s:aw) (i:Nat):(ku s i).length=i:=by
 unfold ku; split
 ·exact HJ _ _
 ·rw [Fe,HJ]; omega
theorem wsI_lo (s:aw) {i:Nat} (h:i < 16):ku s (i+1)=ku s i ++ [Qv ((s.drop (8*i)).take 8)]:=by
 unfold ku
 rw [if_pos aa,if_pos aa,DE,List.range_succ,List.map_append]; rfl
theorem QE (s:aw) {i:Nat} (h:16<=i):ku s (i+1)=ku s i ++ [zf (ku s i)]:=by
 have e:ku s i=yP (i - 16) (DE s 16):=by
  unfold ku; split
  ·have:i=16:=by omega
   subst this; rfl
  ·rfl
 rw [e,ku,if_neg aa,show i+1 - 16=i - 16+1 by omega,Bi]
def wP (s:aw) (i:Nat):ai:=(ku s i).map U ++List.replicate (80 - i) (.int .u64 0)
theorem w7 (s:aw) {i:Nat} (h:i<=80):(wP s i).length=80:=by
 simp [wP,jd]; omega
theorem nj (s:aw) {i j:Nat} (h:j < i):(wP s i)[j]? =some (U ((ku s i).getD j 0)):=by
 rw [wP,eX (by rw [aH,jd]; exact h),bV,bc,bx (by rw [jd]; exact h)]; rfl
theorem Wt (s:aw) {i:Nat} (h:i < 80):(wP s i)[i]? =some (.int .u64 0):=by
 rw [wP,eI (by rw [aH,jd]; omega),aH,jd,Nat.sub_self,List.getElem?_replicate,if_pos aa]
theorem Cr (s:aw) {i:Nat} (h:i < 80) {x:UInt64} (hx:ku s (i+1)=ku s i ++ [x]):(wP s i).take i ++ [U x] ++(wP s i).drop (i+1)=wP s (i+1):=by
 have hl:((ku s i).map U).length=i:=by rw [aH,jd]
 rw [wP,wP,hx,List.map_append,List.take_left' hl,show (80 - i)=(80 - (i+1))+1 by omega,List.replicate_succ,List.append_cons ((ku s i).map U) (.int .u64 0) (List.replicate (80 - (i+1)) (.int .u64 0))]
 rw [List.drop_left' (by rw [aq,hl]; rfl)]
 rfl
theorem ex8 {s:aw} (h:s.length=8): ∃b0 b1 b2 b3 b4 b5 b6 b7,s= [b0,b1,b2,b3,b4,b5,b6,b7]:=by
 match s,h with
 | [b0,b1,b2,b3,b4,b5,b6,b7],_=>exact ⟨b0,b1,b2,b3,b4,b5,b6,b7,rfl⟩
theorem N7 {cs:ai} {c:aA} {l n:Nat} (h1:l<=n) (h:n<=cs.length) (ho:cs.all AV.one=true):dq 1 (.vsl cs c) (some (l:Int)) (some (n:Int)) none=some (.vsl ((cs.take n).drop l) (c.map (· - l))):=by
 have e1:(cs.all fun e=>e.cells.length == 1)=true:=by
  rw [bG] at ho ⊢
  intro x hx
  have:=ho x hx
  cases x <;> simp_all [AV.one,AV.cells]
 have e2:(0:Int)<=(l:Int)/\(l:Int)<=(n:Int)/\(n:Int)<=(cs.length:Int):=by omega
 simp only [dq,bounds,Option.getD_some,if_pos e2,e1,or_true,if_true,Int.toNat_natCast]
theorem Ms {els:ai} {c:aA} {i:Int} (h0:0<=i):idxOf 1 none (.vsl els c) (.int .i64 i)=(els[i.toNat]?).bind fun e=>if e.cells.length=1 then some (.vptr e.cells 0) else none:=by
 simp only [idxOf,h0,if_true]
 cases els[i.toNat]? <;> rfl
def putAt (l:ai) (i:Nat) (x:AV):ai:=l.take i ++ [x] ++l.drop (i+1)
theorem R7 {l:ai} {i:Nat} {x:AV}:l.take i ++ [x] ++l.drop (i+1)=putAt l i x:=rfl
theorem XD {l:ai} {i:Nat} {x:AV} (h:i < l.length):(putAt l i x).length=l.length:=by
 simp [putAt]; omega
theorem put_at {l:ai} {i:Nat} {x:AV} (h:i < l.length):(putAt l i x)[i]? =some x:=by
 rw [putAt,bb,eI (by rw [bU]; omega),bU,Nat.min_eq_left aa,Nat.sub_self]; rfl
theorem XC {l:ai} {i:Nat} {x y:AV} (h:i < l.length):putAt (putAt l i x) i y=putAt l i y:=by
 have e:(l.take i).length=i:=by simp; omega
 have e2:(l.take i ++ [x]).length=i+1:=by rw [aq,e]; rfl
 unfold putAt
 rw [List.drop_left' e2,bb (l.take i) [x],List.take_left' e]
theorem su: ∀(l m:List UInt64) (v:V8),gX v (l ++m)=gX (gX v l) m
 | [],m,v=>rfl
 | x ::l,m,v=>by rw [List.cons_append,gX,su l m,gX]
theorem c_mix {b:Nat} {v:V8} {s:aw} {ks:List UInt64} {c1 c2:aA} {σ:ag} (hs:s.length=128) (hk:ks.length=80) (h:look σ.m b=some (.own v.cells)) (hn:b < σ.next) :
  ∃σ',cj cA gU (.fn 342 [] []) [.ptr b 0, .vsl (af s) c1, .vsl (ks.map U) c2] σ=some (.tup [],σ')/\look σ'.m b=some (.own (O0 ks v s).cells)/\σ.next<=σ'.next/\∀j,j < σ.next->j≠b->look σ'.m j=look σ.m j:=by
 refine Af (F:=KE) rfl ?_
 have nJ (k:Nat): ¬b=σ.next+k:=by omega
 have Gv: ¬b=σ.next:=by omega
 have hb'' (k:Nat): ¬σ.next+k=b:=by omega
 have A6: ¬σ.next=b:=by omega
 simp only [vT,vS,rj,rh,re,ra,q9,q7,KE,az,seval,ax]
 refine aP (S:=Nat) (fun i=> [(0, .ptr b 0),(1, .vsl (af s) c1),(2, .vsl (ks.map U) c2),(6, .ptr σ.next 0),(19, .int .i64 (i:Int))]) (fun i=>80 - i)
  (fun i σ'=>look σ'.m b=some (.own v.cells)/\look σ'.m σ.next=some (.own (wP s i))/\σ.next < σ'.next/\(∀j,j < σ.next->j≠b->look σ'.m j=look σ.m j)/\i<=80) ?_ 0 _ ?_
 ·rintro B i σ1 ⟨g0,g1,g2,g3,hi⟩ ih
  by_cases h80:i=80
  ·subst h80
   have gt:decide (((80:Nat):Int) < 80)=false:=rfl
   have hlen:=w7 s (i:=80) (by decide)
   have uL:(wP s 80).take 80=wP s 80:=aJ aa
   have hW:wP s 80=(ku s 80).map U:=by rw [wP,Nat.sub_self,List.replicate_zero,bC]
   have fV: ¬σ1.next=σ.next:=by omega
   have ua: ¬b=σ1.next:=by omega
   have JE: ¬σ1.next=b:=by omega
   have dh:(wP s 80).all AV.one=true:=by
    rw [hW,List.all_map]; simp [AV.one]
   unfold V8.cells at g0
   simp only [vT,vS,rj,rh,ux,re,ra,q9,q7,KE,az,seval,ae,gt,ax,cy,g0,g1,hlen,uL,dh,fV]
   refine aP (S:=Nat) (fun i=> [(0, .ptr b 0),(2, .vsl (ks.map U) c2),(14, .ptr σ1.next 0),(15, .fn 377 [.ptr b 0] []),(91, .agg (wP s 80)),(92, .int .i64 (i:Int))]) (fun i=>80 - i)
    (fun i σ'=>look σ'.m b=some (.own (gX v ((mF (ku s 80) ks).take i)).cells)/\look σ'.m σ1.next=some (.own v.cells)/\σ1.next < σ'.next/\(∀j,j < σ.next->j≠b->look σ'.m j=look σ.m j)/\i<=80) ?_ 0 _ ?_
   ·rintro B2 i σ2 ⟨k0,k1,k2,k3,sH⟩ iY
    by_cases h82:i=80
    ·subst h82
     have hL:(mF (ku s 80) ks).length=80:=by rw [mF,List.length_zipWith,jd,hk]; rfl
     rw [aJ aa] at k0
     have hmix:O0 ks v s=v.add (gX v (mF (ku s 80) ks)):=rfl
     rw [hmix]
     generalize gX v (mF (ku s 80) ks)=r at*
     unfold V8.cells at k0 k1
     clear ih iY
     simp only [vT,vS,rj,rh,ux,re,ra,DX,q9,q7,Nf,KE,az,seval,ae,gt,ax,aN,cy,@aU,@br,k0,k1,ua,JE]
     refine ⟨?_,by omega,fun j hj BO=> ?_⟩
     ·simp only [lL,V8.add,V8.cells,UInt64.add_comm]
     ·have e2: ¬b=j:=fun e=>BO e.symm
      simp only [e2,if_false]
      exact k3 j hj BO
    ·have aR:decide ((i:Int) < 80)=true:=decide_eq_true aa
     have w2:IntKind.wrap .i64 ((i:Int)+1)=((i+1:Nat):Int):=by rw [aU aa aa]; omega
     have hiv:=kE (n:=80) (k:= .i64) (cs:=wP s 80) (i:=(i:Int)) aa aa
     have iS:=nj s (i:=80) (j:=i) aa
     obtain ⟨y,hy⟩ : ∃y,ks[i]? =some y:=⟨ks[i]'(by omega),bx aa⟩
     have hym:(ks.map U)[i]? =some (U y):=by rw [bV,hy]; rfl
     have rH:=mS (sz:=1) (c:=c2) hym rfl
     have hL:(mF (ku s 80) ks)[i]? =some ((ku s 80).getD i 0+y):=by
      have hw:(ku s 80)[i]? =some ((ku s 80).getD i 0):=by
       rw [bc,bx (by rw [jd]; omega)]; rfl
      rw [mF,List.getElem?_zipWith,hw,hy]
     have ht:=c_turn (x:=(ku s 80).getD i 0+y) k0
     have Gc:(mF (ku s 80) ks).take (i+1)=(mF (ku s 80) ks).take i ++ [(ku s 80).getD i 0+y]:=by
      have hi:=(bI.1 hL).1
      rw [fM hi,(bI.1 hL).2]
     simp only [U] at rH iS ht
     simp only [AV.cells] at rH
     simp only [Int.toNat_natCast] at hiv
     simp only [vT,vS,rj,rh,ux,re,ra,DX,q9,q7,KE,az,seval,ae,aR,w2,hiv,iS,rH,ht,lL]
     refine iY (i+1) _ _ aa ⟨?_,?_,k2,?_,by omega⟩ rfl
     ·rw [Gc,su]; simp [look]; rfl
     ·simpa [look,ua] using k1
     ·intro j hj BO
      have e2: ¬b=j:=fun e=>BO e.symm
      simpa [look,e2] using k3 j hj BO
   ·refine ⟨?_,?_,aV _,?_,by decide⟩
    ·simpa [look,JE,gX,V8.cells] using g0
    ·simp [look,V8.cells]
    ·intro j hj BO
     have e2: ¬σ1.next=j:=by omega
     simpa [look,e2] using g3 j hj BO
  ·by_cases h16:i < 16
   ·have aR:decide ((i:Int) < 80)=true:=decide_eq_true aa
    have Da:decide ((i:Int) < 16)=true:=decide_eq_true aa
    have w1:IntKind.wrap .i64 (8*(i:Int))=((8*i:Nat):Int):=by rw [aU aa aa]; omega
    have w2:IntKind.wrap .i64 ((i:Int)+1)=((i+1:Nat):Int):=by rw [aU aa aa]; omega
    have w3:IntKind.wrap .i64 (8*((i+1:Nat):Int))=((8*(i+1):Nat):Int):=by rw [aU aa aa]; omega
    have C9:=N7 (cs:=af s) (c:=c1) (l:=8*i) (n:=8*(i+1)) aa (by rw [af,aH]; omega) (cp s)
    have hch:((af s).take (8*(i+1))).drop (8*i)=af ((s.drop (8*i)).take 8):=by
     rw [af,←List.map_take,←List.map_drop,List.drop_take,show 8*(i+1) - 8*i=8 by omega]; rfl
    obtain ⟨b0,b1,b2,b3,b4,b5,b6,b7,he⟩:=ex8 (s:=(s.drop (8*i)).take 8) (by simp; omega)
    rw [hch,he,show af [b0,b1,b2,b3,b4,b5,b6,b7]= [.int .u8 (b0.toNat:Int), .int .u8 (b1.toNat:Int), .int .u8 (b2.toNat:Int), .int .u8 (b3.toNat:Int), .int .u8 (b4.toNat:Int), .int .u8 (b5.toNat:Int), .int .u8 (b6.toNat:Int), .int .u8 (b7.toNat:Int)] from rfl] at C9
    have hx:=iM (k:= .i64) (n:=80) (b:=σ.next) (j:=i) aa
    have iS:=Wt s (i:=i) aa
    have s80:bk .shl .u64 0 8=some (.int .u64 0):=rfl
    have V0 (x:UInt64):bk .shl .u64 (x.toNat:Int) 8=some (U (x <<< 8)):=AM x 8 (by decide)
    have hlen:=w7 s hi
    have kF:=Cr s (i:=i) aa (wsI_lo s h16)
    have hle:i < (wP s i).length:=by omega
    have pa {x:AV}:=put_at (x:=x) hle
    have pl {x:AV}:=XD (x:=x) hle
    have pp {x y:AV}:=XC (x:=x) (y:=y) hle
    have h79:i<=79:=by omega
    have hbe:Qv [b0,b1,b2,b3,b4,b5,b6,b7]=((((((((b0.toUInt64 <<< 8 ||| b1.toUInt64) <<< 8) ||| b2.toUInt64) <<< 8 ||| b3.toUInt64) <<< 8 ||| b4.toUInt64) <<< 8 ||| b5.toUInt64) <<< 8 ||| b6.toUInt64) <<< 8 ||| b7.toUInt64):=by
     simp [Qv]
    rw [he,hbe] at kF
    simp only [U] at kF V0
    simp only [H2Fe,az,seval,ae,ax,aN,aR,Da,w1,w2,w3,C9,hx,g1,iS,hlen,V0,ot,pK,gH,@Ms,Option.bind_some,s80,Ya,R7,pa,pl,pp,h79,@aU]
    refine aN.1 (ih (i+1) [(0, .ptr b 0),(1, .vsl (af s) c1),(2, .vsl (ks.map U) c2),(6, .ptr σ.next 0),(19, .int .i64 ((i+1:Nat):Int))] _ aa ⟨?_,?_,?_,?_,by omega⟩ rfl)
    ·simpa [look,A6] using g0
    ·rw [←kF]; simp [look,putAt]
    ·exact g2
    ·intro j hj BO
     have e2: ¬σ.next=j:=by omega
     simpa [look,e2] using g3 j hj BO
   ·have aR:decide ((i:Int) < 80)=true:=decide_eq_true aa
    have Da:decide ((i:Int) < 16)=false:=decide_eq_false aa
    have w2:IntKind.wrap .i64 ((i:Int)+1)=((i+1:Nat):Int):=by rw [aU aa aa]; omega
    have v15:IntKind.wrap .i64 ((i:Int) - 15)=((i - 15:Nat):Int):=by rw [aU aa aa]; omega
    have v2:IntKind.wrap .i64 ((i:Int) - 2)=((i - 2:Nat):Int):=by rw [aU aa aa]; omega
    have v16:IntKind.wrap .i64 ((i:Int) - 16)=((i - 16:Nat):Int):=by rw [aU aa aa]; omega
    have v7:IntKind.wrap .i64 ((i:Int) - 7)=((i - 7:Nat):Int):=by rw [aU aa aa]; omega
    have hx:=iM (k:= .i64) (n:=80) (b:=σ.next) (j:=i) aa
    have hx15:=iM (k:= .i64) (n:=80) (b:=σ.next) (j:=i - 15) aa
    have nV:=iM (k:= .i64) (n:=80) (b:=σ.next) (j:=i - 2) aa
    have hx16:=iM (k:= .i64) (n:=80) (b:=σ.next) (j:=i - 16) aa
    have hx7:=iM (k:= .i64) (n:=80) (b:=σ.next) (j:=i - 7) aa
    have a15:=nj s (i:=i) (j:=i - 15) aa
    have a2:=nj s (i:=i) (j:=i - 2) aa
    have a16:=nj s (i:=i) (j:=i - 16) aa
    have a7:=nj s (i:=i) (j:=i - 7) aa
    have hlen:=w7 s hi
    have kF:=Cr s (i:=i) aa (QE s aa)
    have h79:i<=79:=by omega
    have r1 {y:UInt64}:=jx (x:=y) (k:= -1) (j:=63) (by kernel_rfl) (by decide) (by decide)
    have r2 {y:UInt64}:=jx (x:=y) (k:= -8) (j:=56) (by kernel_rfl) (by decide) (by decide)
    have r3 {y:UInt64}:=jx (x:=y) (k:= -19) (j:=45) (by kernel_rfl) (by decide) (by decide)
    have r4 {y:UInt64}:=jx (x:=y) (k:= -61) (j:=3) (by kernel_rfl) (by decide) (by decide)
    have sr7 (x:UInt64):bk .shr .u64 (x.toNat:Int) 7=some (U (x >>> 7)):=rE x 7 (by decide)
    have sr6 (x:UInt64):bk .shr .u64 (x.toNat:Int) 6=some (U (x >>> 6)):=rE x 6 (by decide)
    have BJ:zf (ku s i)=(ku s i).getD (i - 16) 0+Q6 ((ku s i).getD (i - 15) 0)+(ku s i).getD (i - 7) 0+Q5 ((ku s i).getD (i - 2) 0):=by rw [zf,jd]
    rw [BJ] at kF
    simp only [Q6,Q5] at kF
    simp only [U] at kF a15 a2 a16 a7 r1 r2 r3 r4 sr7 sr6
    simp only [H2Fe,az,seval,ae,aR,Da,w2,v15,v2,v16,v7,hx,hx15,nV,hx16,hx7,g1,a15,a2,a16,a7,hlen,r1,r2,r3,r4,sr7,sr6,lL,EX,gH,h79,kF]
    refine ih (i+1) _ _ aa ⟨?_,by simp [look],g2,?_,by omega⟩ rfl
    ·simpa [look,A6] using g0
    ·intro j hj BO
     have e2: ¬σ.next=j:=by omega
     simpa [look,e2] using g3 j hj BO
 ·refine ⟨?_,?_,aV _,?_,by decide⟩
  ·simpa [look,A6] using h
  ·simp [look,wP,ku,DE,List.replicate]
  ·intro j hj BO
   have e2: ¬σ.next=j:=by omega
   simp [look,e2]
theorem wq8 (a0 a1 a2 a3 a4 a5 a6 a7:UInt64):vE (v4 a0 a1 a2 a3+aQ*v4 a4 a5 a6 a7)= [U a0,U a1,U a2,U a3,U a4,U a5,U a6,U a7]:=by
 have key (n:Nat) (a:UInt64) (i:Nat) (h:n / 18446744073709551616 ^ i % 18446744073709551616=a.toNat):wq n i=a:=UInt64.toNat.inj (by rw [lK,h])
 have h0:=a0.toNat_lt; have h1:=a1.toNat_lt; have h2:=a2.toNat_lt; have h3:=a3.toNat_lt; have h4:=a4.toNat_lt; have h5:=a5.toNat_lt; have h6:=a6.toNat_lt; have h7:=a7.toNat_lt
 have e:v4 a0 a1 a2 a3+aQ*v4 a4 a5 a6 a7=a0.toNat+18446744073709551616*(a1.toNat+18446744073709551616*(a2.toNat+18446744073709551616*(a3.toNat+18446744073709551616*(a4.toNat+18446744073709551616*(a5.toNat+18446744073709551616*(a6.toNat+18446744073709551616*a7.toNat)))))):=by
  unfold v4 aQ; omega
 rw [e]
 have st (a:UInt64) (m:Nat):(a.toNat+18446744073709551616*m) / 18446744073709551616=m:=by have:=a.toNat_lt; omega
 have sm (a:UInt64) (m:Nat):(a.toNat+18446744073709551616*m) % 18446744073709551616=a.toNat:=by have:=a.toNat_lt; omega
 have q0 (n:Nat):n / 18446744073709551616 ^ 0=n:=by rw [Nat.pow_zero,Nat.div_one]
 have qs (n i:Nat):n / 18446744073709551616 ^ (i+1)=n / 18446744073709551616 / 18446744073709551616 ^ i:=by rw [Nat.pow_succ',ee]
 unfold vE
 congr 1
 ·rw [key _ a0 0 (by rw [q0,sm])]
 congr 1
 ·rw [key _ a1 1 (by rw [qs,st,q0,sm])]
 congr 1
 ·rw [key _ a2 2 (by rw [qs,st,qs,st,q0,sm])]
 congr 1
 ·rw [key _ a3 3 (by rw [qs,st,qs,st,qs,st,q0,sm])]
 congr 1
 ·rw [key _ a4 4 (by rw [qs,st,qs,st,qs,st,qs,st,q0,sm])]
 congr 1
 ·rw [key _ a5 5 (by rw [qs,st,qs,st,qs,st,qs,st,qs,st,q0,sm])]
 congr 1
 ·rw [key _ a6 6 (by rw [qs,st,qs,st,qs,st,qs,st,qs,st,qs,st,q0,sm])]
 congr 1
 ·rw [key _ a7 7 (by rw [qs,st,qs,st,qs,st,qs,st,qs,st,qs,st,qs,st,q0]; omega)]
theorem T512_eq:256 ^ 64=T512:=by decide+kernel
theorem leN64 (b0 b1 b2 b3 b4 b5 b6 b7 b8 b9 dV dU dS dR dQ dP dy dO dN dM dL dJ dI dH dz dG dF dE dD dC dB dA Wj Z8 Z7 Z6 Z5 Z4 Z3 Z2 Wi Z1 Z0 ZZ ZY ZX ZW ZV Wh ZU ZT ZS ZR ZQ ZP ZO ZN ZM ZL ZK ZJ ZI ZH DF:UInt8):bE [b0,b1,b2,b3,b4,b5,b6,b7,b8,b9,dV,dU,dS,dR,dQ,dP,dy,dO,dN,dM,dL,dJ,dI,dH,dz,dG,dF,dE,dD,dC,dB,dA,Wj,Z8,Z7,Z6,Z5,Z4,Z3,Z2,Wi,Z1,Z0,ZZ,ZY,ZX,ZW,ZV,Wh,ZU,ZT,ZS,ZR,ZQ,ZP,ZO,ZN,ZM,ZL,ZK,ZJ,ZI,ZH,DF]=v4 (w8 b0 b1 b2 b3 b4 b5 b6 b7) (w8 b8 b9 dV dU dS dR dQ dP) (w8 dy dO dN dM dL dJ dI dH) (w8 dz dG dF dE dD dC dB dA)+aQ*v4 (w8 Wj Z8 Z7 Z6 Z5 Z4 Z3 Z2) (w8 Wi Z1 Z0 ZZ ZY ZX ZW ZV) (w8 Wh ZU ZT ZS ZR ZQ ZP ZO) (w8 ZN ZM ZL ZK ZJ ZI ZH DF):=by
 have e8 (a0 a1 a2 a3 a4 a5 a6 a7:UInt8) (l:aw):bE (a0 ::a1 ::a2 ::a3 ::a4 ::a5 ::a6 ::a7 ::l)=bE [a0,a1,a2,a3,a4,a5,a6,a7]+18446744073709551616*bE l:=by
  simp only [bE]; omega
 rw [e8 b0,e8 b8,e8 dy,e8 dz,e8 Wj,e8 Wi,e8 Wh]
 unfold v4 aQ
 simp only [yE]
 have g (l:aw): ∃n,bE l=n:=⟨_,rfl⟩
 omega
theorem w_ofL (b0 b1 b2 b3 b4 b5 b6 b7 b8 b9 dV dU dS dR dQ dP dy dO dN dM dL dJ dI dH dz dG dF dE dD dC dB dA Wj Z8 Z7 Z6 Z5 Z4 Z3 Z2 Wi Z1 Z0 ZZ ZY ZX ZW ZV Wh ZU ZT ZS ZR ZQ ZP ZO ZN ZM ZL ZK ZJ ZI ZH DF:UInt8) {R:Nat} {c:aw} (h:cR 360 [.agg [U (w8 b0 b1 b2 b3 b4 b5 b6 b7),U (w8 b8 b9 dV dU dS dR dQ dP),U (w8 dy dO dN dM dL dJ dI dH),U (w8 dz dG dF dE dD dC dB dA),U (w8 Wj Z8 Z7 Z6 Z5 Z4 Z3 Z2),U (w8 Wi Z1 Z0 ZZ ZY ZX ZW ZV),U (w8 Wh ZU ZT ZS ZR ZQ ZP ZO),U (w8 ZN ZM ZL ZK ZJ ZI ZH DF)]]=some (an R)) (h2:cR 308 [an R]=some (bD c)) (hc:c.length=32):cR 305 [.vsl [.int .u8 (b0.toNat:Int), .int .u8 (b1.toNat:Int), .int .u8 (b2.toNat:Int), .int .u8 (b3.toNat:Int), .int .u8 (b4.toNat:Int), .int .u8 (b5.toNat:Int), .int .u8 (b6.toNat:Int), .int .u8 (b7.toNat:Int), .int .u8 (b8.toNat:Int), .int .u8 (b9.toNat:Int), .int .u8 (dV.toNat:Int), .int .u8 (dU.toNat:Int), .int .u8 (dS.toNat:Int), .int .u8 (dR.toNat:Int), .int .u8 (dQ.toNat:Int), .int .u8 (dP.toNat:Int), .int .u8 (dy.toNat:Int), .int .u8 (dO.toNat:Int), .int .u8 (dN.toNat:Int), .int .u8 (dM.toNat:Int), .int .u8 (dL.toNat:Int), .int .u8 (dJ.toNat:Int), .int .u8 (dI.toNat:Int), .int .u8 (dH.toNat:Int), .int .u8 (dz.toNat:Int), .int .u8 (dG.toNat:Int), .int .u8 (dF.toNat:Int), .int .u8 (dE.toNat:Int), .int .u8 (dD.toNat:Int), .int .u8 (dC.toNat:Int), .int .u8 (dB.toNat:Int), .int .u8 (dA.toNat:Int), .int .u8 (Wj.toNat:Int), .int .u8 (Z8.toNat:Int), .int .u8 (Z7.toNat:Int), .int .u8 (Z6.toNat:Int), .int .u8 (Z5.toNat:Int), .int .u8 (Z4.toNat:Int), .int .u8 (Z3.toNat:Int), .int .u8 (Z2.toNat:Int), .int .u8 (Wi.toNat:Int), .int .u8 (Z1.toNat:Int), .int .u8 (Z0.toNat:Int), .int .u8 (ZZ.toNat:Int), .int .u8 (ZY.toNat:Int), .int .u8 (ZX.toNat:Int), .int .u8 (ZW.toNat:Int), .int .u8 (ZV.toNat:Int), .int .u8 (Wh.toNat:Int), .int .u8 (ZU.toNat:Int), .int .u8 (ZT.toNat:Int), .int .u8 (ZS.toNat:Int), .int .u8 (ZR.toNat:Int), .int .u8 (ZQ.toNat:Int), .int .u8 (ZP.toNat:Int), .int .u8 (ZO.toNat:Int), .int .u8 (ZN.toNat:Int), .int .u8 (ZM.toNat:Int), .int .u8 (ZL.toNat:Int), .int .u8 (ZK.toNat:Int), .int .u8 (ZJ.toNat:Int), .int .u8 (ZI.toNat:Int), .int .u8 (ZH.toNat:Int), .int .u8 (DF.toNat:Int)] none]=some (bD c):=by
 have hl:(af c).length=32:=by rw [af,aH,hc]
 have ht:(af c).take 32=af c:=aJ aa
 refine aG (F:=F305) rfl ?_
 simp only [bD,an,U,w8] at h h2 ⊢
 simp only [F305,az,seval,ae,ax,aN,@aU,@br,@qd,@kE,@Ms,Option.bind_some,AV.cells,@Ra,ot,Ya,pK,gH,h,h2,hl,ht,aC,bF,cp]
theorem r_rOfL {s:aw} (h:s.length=64):cR 305 [.vsl (af s) none]=some (bD (toLE 32 (bE s % LL))):=by
 obtain ⟨a,b,rfl,ha,hb⟩ : ∃a b,s=a ++b/\a.length=32/\b.length=32:=⟨s.take 32,s.drop 32,(ed 32 s).symm,by rw [bU]; omega,by rw [fw]; omega⟩
 obtain ⟨b0,b1,b2,b3,b4,b5,b6,b7,b8,b9,dV,dU,dS,dR,dQ,dP,dy,dO,dN,dM,dL,dJ,dI,dH,dz,dG,dF,dE,dD,dC,dB,dA,rfl⟩:=JR ha
 obtain ⟨Wj,Z8,Z7,Z6,Z5,Z4,Z3,Z2,Wi,Z1,Z0,ZZ,ZY,ZX,ZW,ZV,Wh,ZU,ZT,ZS,ZR,ZQ,ZP,ZO,ZN,ZM,ZL,ZK,ZJ,ZI,ZH,DF,rfl⟩:=JR hb
 clear h ha hb
 simp only [List.cons_append,List.nil_append]
 have hL:=leN64 b0 b1 b2 b3 b4 b5 b6 b7 b8 b9 dV dU dS dR dQ dP dy dO dN dM dL dJ dI dH dz dG dF dE dD dC dB dA Wj Z8 Z7 Z6 Z5 Z4 Z3 Z2 Wi Z1 Z0 ZZ ZY ZX ZW ZV Wh ZU ZT ZS ZR ZQ ZP ZO ZN ZM ZL ZK ZJ ZI ZH DF
 have hr:=Ry (N:=bE [b0,b1,b2,b3,b4,b5,b6,b7,b8,b9,dV,dU,dS,dR,dQ,dP,dy,dO,dN,dM,dL,dJ,dI,dH,dz,dG,dF,dE,dD,dC,dB,dA,Wj,Z8,Z7,Z6,Z5,Z4,Z3,Z2,Wi,Z1,Z0,ZZ,ZY,ZX,ZW,ZV,Wh,ZU,ZT,ZS,ZR,ZQ,ZP,ZO,ZN,ZM,ZL,ZK,ZJ,ZI,ZH,DF]) (jU (qb _) T512_eq)
 rw [hL] at hr ⊢
 rw [wq8] at hr
 exact w_ofL b0 b1 b2 b3 b4 b5 b6 b7 b8 b9 dV dU dS dR dQ dP dy dO dN dM dL dJ dI dH dz dG dF dE dD dC dB dA Wj Z8 Z7 Z6 Z5 Z4 Z3 Z2 Wi Z1 Z0 ZZ ZY ZX ZW ZV Wh ZU ZT ZS ZR ZQ ZP ZO ZN ZM ZL ZK ZJ ZI ZH DF hr (Fw _) (aX _ _)
def H3Fa:=J @xP.eq_1 (J @xO.eq_1 (J @DJ.eq_1 (J @xN.eq_1 (J @xM.eq_1 (J @M8.eq_1 (@DK.eq_1))))))
def H3Fb:=J @xP.eq_1 (J @xO.eq_1 (J @xN.eq_1 (J @xM.eq_1 (@DK.eq_1))))
def H3Fc:=J @xP.eq_1 (J @xO.eq_1 (J @DJ.eq_1 (J @xN.eq_1 (J @xM.eq_1 (@DK.eq_1)))))
abbrev bN (s:aw):AV:= .vsl (af s) none
theorem aM (s:aw):(af s).length=s.length:=by rw [af,aH]
theorem lP (s t:aw):af (s ++t)=af s ++af t:=by simp [af]
theorem gN (s:aw):(af s).flatMap AV.cells=af s:=by
 induction s with
 | nil=>rfl
 | cons b s ih=>
  have e:af (b ::s)= .int .u8 (b.toNat:Int) ::af s:=rfl
  rw [e,List.flatMap_cons,ih]; rfl
theorem WM (s:aw):((af s).all fun e=>e.cells.length == 1)=true:=by
 simp [af,AV.cells]
theorem pS {σ:ag} {s:aw} {c:aA}:rowOf σ 1 (.vsl (af s) c)=some (af s):=by
 simp only [rowOf,WM,if_true,gN]
theorem HB {σ:ag} {b off l:Nat} {c e:aA} {cs:ai} {s:aw} (h:look σ.m b=some (.own cs)) (hl:s.length<=l) (hc:off+l<=cs.length) :
  ∃σ',js σ 1 (.sl b off l 1 c) (.vsl (af s) e)=some (.int .i64 s.length,σ')/\σ'.next=σ.next/\look σ'.m b=some (.own (cs.take off ++af s ++cs.drop (off+s.length)))/\∀j,j≠b->look σ'.m j=look σ.m j:=by
 have ho:σ.owned b=some cs:=by unfold ag.owned ag.get; rw [h]
 by_cases h0:s.length=0
 ·have:=ei h0
  subst this
  refine ⟨σ,?_,rfl,?_,fun _ _=>rfl⟩
  ·simp only [js,lenOf,pS]; rfl
  ·rw [h]; simp [af]
 ·refine ⟨{ σ with m:=(b, .own (cs.take off ++af s ++cs.drop (off+s.length))) ::σ.m },?_,rfl,by simp [look],fun j hj=>by simp [look,Ne.symm hj]⟩
  simp only [js,lenOf,pS,ho,aM,ag.set,splice]
  rw [if_neg h0,if_pos ⟨trivial,by decide,hl,by omega,by omega,cp s⟩]
theorem Bf {ls:List (aw)} {i:Nat} {s:aw} (h:ls[i]? =some s):(ls.take (i+1)).flatten=(ls.take i).flatten ++s:=by
 have hi:=(bI.1 h).1
 rw [fM hi,(bI.1 h).2]; simp
theorem Cw {ls:List (aw)} (i:Nat):(ls.take i).flatten.length<=ls.flatten.length:=by
 conv=>rhs; rw [←ed i ls,List.flatten_append,aq]
 omega
def As (x:AV) (σ:ag) (s:aw):Prop:=lenL x=some (.int .i64 s.length)/\
 ∀c:UInt8,∃σ',aF σ 1 1 x [.int .u8 (c.toNat:Int)] 1=some (.sl σ.next 0 (s.length+1) 1 none,σ')/\look σ'.m σ.next=some (.own (af (s ++ [c])))/\σ'.next=σ.next+1
theorem S5 {σ:ag} {b:Nat} {s:aw} (h:look σ.m b=some (.own (af s))) (hn:s.length < 1099511627776):As (.sl b 0 s.length 1 (some s.length)) σ s:=by
 refine ⟨rfl,fun c=>⟨σ.alloc (af (s ++ [c])),?_,?_,rfl⟩⟩
 ·have hb:σ.cells b=some (af s):=by unfold ag.cells ag.get; rw [h]
  have hr:rowOf σ 1 (.sl b 0 s.length 1 (some s.length))=some (af s):=by
   simp only [rowOf,if_true,hb]
   rw [if_pos (by rw [aM]; omega),List.drop_zero,aJ (by rw [aM]; omega)]
  unfold aF
  simp only [lenOf,hr]
  rw [if_pos ⟨by decide,by decide,by unfold aY; omega,rfl,rfl⟩,if_neg (by decide),if_pos trivial,lP]; rfl
 ·simp [ag.alloc,look]
theorem c_join {a:aw} {rest:List (aw)} (hr:0 < rest.length) (Ql:rest.length < 1099511627776) (h0:0 < (a ::rest).flatten.length) (hn:(a ::rest).flatten.length < 1099511627776) :
  ∃x σ',cj cA gU (.fn 376 [] []) [.vsl ((a ::rest).map bN) none, .nils] .empty=some (x,σ')/\As x σ' (a ::rest).flatten:=by
 generalize hls:a ::rest=ls at*
 have hlen:ls.length=rest.length+1:=by rw [←hls]; rfl
 have Jz:(ls.map bN).length=ls.length:=aH _
 have e0:((ls.length:Int) == 0)=false:=by rw [cE]; omega
 have e1:((ls.length:Int) == 1)=false:=by rw [cE]; omega
 generalize hN:ls.flatten.length=N at*
 suffices h: ∃x σ',cj cA gU (.fn 376 [] []) [.vsl (ls.map bN) none, .nils] .empty=some (x,σ')/\(x= .sl 0 0 N 1 (some N)/\look σ'.m 0=some (.own (af ls.flatten))) by
  obtain ⟨x,σ',h1,rfl,h2⟩:=h
  refine ⟨_,σ',h1,?_⟩
  rw [←hN]; exact S5 h2 aa
 suffices h:Ex cA gU [.code DK.body] (fK ([] ++ [.vsl (ls.map bN) none, .nils] ++ [])) .empty fun fr' σ1=>iO fr' σ1 DK.res=some (.sl 0 0 N 1 (some N))/\look σ1.m 0=some (.own (af ls.flatten)) by
  obtain ⟨σ',h1,h2⟩:=Af (id:=376) (F:=DK) rfl h
  exact ⟨_,σ',h1,rfl,h2⟩
 simp only [H3Fb,az,seval,ax,Jz,e0,e1]
 have Pr {i:Nat} {s:aw} (h:ls[i]? =some s):idxOf 1 none (.vsl (ls.map bN) none) (.int .i64 (i:Int))=some (.vptr [bN s] 0):=
  mS (e:=bN s) (sz:=1) (by rw [bV,h]; rfl) rfl
 refine aP (S:=Nat) (fun i=> [(0, .vsl (ls.map bN) none),(1, .nils),(5, .int .i64 ((ls.take i).flatten.length:Int)),(42, .vsl (ls.map bN) none),(43, .int .i64 ls.length),(44, .int .i64 (i:Int))]) (fun i=>ls.length - i)
  (fun i σ'=>σ'=⟨0, []⟩/\i<=ls.length) ?_ 0 _ ⟨rfl,Nat.zero_le _⟩
 ·rintro B i σ1 ⟨rfl,hi⟩ ih
  by_cases hl:i=ls.length
  ·subst hl
   have gt:decide ((ls.length:Int) < (ls.length:Int))=false:=decide_eq_false aa
   have hfl:(ls.take ls.length).flatten.length=N:=by rw [List.take_length,hN]
   have mk:sC ⟨0, []⟩ (N:Int)=some (.sl 0 0 N 1 none,⟨1, [(0, .own (List.replicate N .undef))]⟩):=by
    have:N<=aY:=by unfold aY; omega
    simp [sC,ag.alloc,this]
   have sl3:dq 1 (.sl 0 0 N 1 none) none (some (N:Int)) (some (N:Int))=some (.sl 0 0 N 1 (some N)):=by
    have: ¬N=0:=by omega
    simp [dq,this]
    try omega
   have h0':ls[0]? =some a:=by rw [←hls]; rfl
   have e0:=Pr h0'
   have ea:ls.take 1= [a]:=by rw [←hls]; rfl
   have la:a.length<=N:=by
    have:=Cw (ls:=ls) 1
    rw [ea,hN] at this; simpa using this
   obtain ⟨σ2,k1,k2,k3,k4⟩:=HB (σ:=⟨1, [(0, .own (List.replicate N .undef))]⟩) (b:=0) (off:=0) (l:=N) (c:=some N) (e:=none) (s:=a) rfl la (by simp)
   have slR:dq 1 (.vsl (ls.map bN) none) (some 1) none none=some (.vsl ((ls.map bN).drop 1) none):=by
    have e2:((ls.map bN).all fun e=>e.cells.length == 1)=true:=by simp [AV.cells]
    have e3:(0:Int)<=1/\(1:Int)<=((ls.map bN).length:Int)/\((ls.map bN).length:Int)<=((ls.map bN).length:Int):=by rw [Jz]; omega
    simp only [dq,bounds,Option.getD_some,Option.getD_none,if_pos e3,e2,or_true,if_true,Int.toNat_natCast]
    rw [aJ (aD _)]; rfl
   have Za:((ls.map bN).drop 1).length=rest.length:=by rw [fw,Jz]; omega
   rw [show ((0:Nat):Int)=0 from rfl] at e0
   simp only [H3Fc,az,seval,ae,ax,gt,hfl,mk,sl3,e0,k1,slR,Za]
   rw [show (a.length:Int)=((ls.take (0+1)).flatten.length:Int) by rw [ea]; simp]
   have cpn {σ:ag} {b off l:Nat} {c:aA}:js σ 1 (.sl b off l 1 c) .nils=some (.int .i64 0,σ):=rfl
   refine aP (S:=Nat) (fun i=> [(1, .nils),(8, .sl 0 0 N 1 (some N)),(9, .int .i64 ((ls.take (i+1)).flatten.length:Int)),(70, .vsl ((ls.map bN).drop 1) none),(71, .int .i64 rest.length),(72, .int .i64 (i:Int))]) (fun i=>rest.length - i)
    (fun i σ'=>look σ'.m 0=some (.own (af (ls.take (i+1)).flatten ++List.replicate (N - (ls.take (i+1)).flatten.length) .undef))/\i<=rest.length) ?_ 0 _ ?_
   ·rintro B2 i σ3 ⟨g1,sH⟩ iY
    by_cases Ic:i=rest.length
    ·subst Ic
     have gt2:decide ((rest.length:Int) < (rest.length:Int))=false:=decide_eq_false aa
     rw [aJ aa,hN,Nat.sub_self,List.replicate_zero,bC] at g1
     simp only [H3Fa,az,seval,ae,gt2,g1]
    ·obtain ⟨s,hs⟩ : ∃s,ls[i+1]? =some s:=⟨ls[i+1]'(by omega),bx aa⟩
     have e1:idxOf 1 none (.vsl ((ls.map bN).drop 1) none) (.int .i64 (i:Int))=some (.vptr [bN s] 0):=
      mS (e:=bN s) (sz:=1) (by rw [List.getElem?_drop,Nat.add_comm,bV,hs]; rfl) rfl
     have aR:decide ((i:Int) < (rest.length:Int))=true:=decide_eq_true aa
     have ht:=Bf hs
     have hle:=Cw (ls:=ls) (i+1+1)
     rw [ht,aq,hN] at hle
     have sl4:dq 1 (.sl 0 0 N 1 (some N)) (some ((ls.take (i+1)).flatten.length:Int)) none none=some (.sl 0 (ls.take (i+1)).flatten.length (N - (ls.take (i+1)).flatten.length) 1 (some (N - (ls.take (i+1)).flatten.length))):=by
      have e3:(0:Int)<=((ls.take (i+1)).flatten.length:Int)/\((ls.take (i+1)).flatten.length:Int)<=(N:Int)/\(N:Int)<=(N:Int):=by omega
      simp only [dq,bounds,Option.getD_some,Option.getD_none,if_pos e3,if_true,Int.toNat_natCast]
      rw [Nat.mul_one,Nat.zero_add]; rfl
     have w0:IntKind.wrap .i64 (((ls.take (i+1)).flatten.length:Int)+0)=((ls.take (i+1)).flatten.length:Int):=by rw [aU aa aa]; omega
     obtain ⟨σ4,q1,q2,q3,q4⟩:=HB (b:=0) (off:=(ls.take (i+1)).flatten.length) (l:=N - (ls.take (i+1)).flatten.length) (c:=some (N - (ls.take (i+1)).flatten.length)) (e:=none) (s:=s) g1 aa (by rw [aq,aM,iB]; omega)
     have w2:IntKind.wrap .i64 (((ls.take (i+1)).flatten.length:Int)+(s.length:Int))=((ls.take (i+1+1)).flatten.length:Int):=by
      rw [ht,aq,aU aa aa]; omega
     have w3:IntKind.wrap .i64 ((i:Int)+1)=((i+1:Nat):Int):=by rw [aU aa aa]; omega
     simp only [H3Fa,az,seval,ae,aR,e1,sl4,cpn,w0,q1,w2,w3]
     refine iY (i+1) _ _ aa ⟨?_,by omega⟩ rfl
     rw [q3,List.take_left' (aM _),ht,lP,aq]
     congr 3
     rw [List.drop_append,cc (by rw [aM]; omega),List.nil_append,List.drop_replicate,aM]
     congr 1; omega
   ·rw [k3,ea]
    simp
  ·obtain ⟨s,hs⟩ : ∃s,ls[i]? =some s:=⟨ls[i]'(by omega),bx aa⟩
   have e1:=Pr hs
   have aR:decide ((i:Int) < (ls.length:Int))=true:=decide_eq_true aa
   have ht:=Bf hs
   have hle:=Cw (ls:=ls) (i+1)
   rw [ht,aq] at hle
   have w1:IntKind.wrap .i64 (9223372036854775807 - ((ls.take i).flatten.length:Int))=9223372036854775807 - ((ls.take i).flatten.length:Int):=aU aa aa
   have g1:decide ((s.length:Int) > 9223372036854775807 - ((ls.take i).flatten.length:Int))=false:=decide_eq_false aa
   have w2:IntKind.wrap .i64 (((ls.take i).flatten.length:Int)+(s.length:Int))=((ls.take (i+1)).flatten.length:Int):=by
    rw [ht,aq,aU aa aa]; omega
   have w3:IntKind.wrap .i64 ((i:Int)+1)=((i+1:Nat):Int):=by rw [aU aa aa]; omega
   simp only [H3Fc,az,seval,ae,aR,e1,bN,aM,w1,g1,w2,w3]
   exact ih (i+1) _ _ aa ⟨rfl,by omega⟩ rfl
theorem ZA {a:aw} (hn:a.length < 1099511627776) :
  ∃x σ',cj cA gU (.fn 376 [] []) [.vsl [bN a] none, .nils] .empty=some (x,σ')/\As x σ' a:=by
 by_cases h0:a.length=0
 ·have:=ei h0
  subst this
  refine ⟨.nils, .empty,cU (F:=DK) rfl ?_,rfl,fun c=>⟨⟨1, [(0, .own [.int .u8 (c.toNat:Int)])]⟩,?_,rfl,rfl⟩⟩
  ·have hap:aF ⟨0, []⟩ 1 1 .nils [] 0=some (.nils,⟨0, []⟩):=by
    simp [aF,lenOf,aY]
   have hu:af []= []:=rfl
   have hr:rowOf ⟨0, []⟩ 1 (.vsl [] none)=some []:=rfl
   simp only [H3Fb,az,seval,ae,@Ms,Option.bind_some,bN,lenOf,hr,hu,hap]
   try rfl
  ·simp [aF,lenOf,aY,AV.one,ag.alloc,ag.empty]
 ·have hap:aF ⟨0, []⟩ 1 1 .nils (af a) a.length=some (.sl 0 0 a.length 1 none,⟨1, [(0, .own (af a))]⟩):=by
   have hm:a.length<=aY:=by unfold aY; omega
   simp only [aF,lenOf]
   rw [if_pos ⟨by decide,by decide,by omega,by rw [aM]; omega,cp a⟩,if_neg h0]; rfl
  refine ⟨.sl 0 0 a.length 1 none,⟨1, [(0, .own (af a))]⟩,cU (F:=DK) rfl ?_,rfl,fun c=> ?_⟩
  ·simp only [H3Fb,az,seval,ae,@Ms,Option.bind_some,bN,lenOf,pS,aM,hap]
   try rfl
  ·obtain ⟨σ',h1,h2,h3,h4⟩:=fY (σ:=⟨1, [(0, .own (af a))]⟩) (sz:=1) (bytes:=1) (n:=a.length) (k:=1) (ob:=some 0) (cells:=af a) (new:= [.int .u8 (c.toNat:Int)]) ⟨rfl,by rw [aM]; omega,show 0 < 1 by decide,by omega⟩ (by decide) (by decide) (by unfold aY; omega) rfl rfl (by decide)
   refine ⟨σ',h1,?_,h3⟩
   rw [lP]; exact h2.1
def H4Fa:=J @DY.eq_1 (J @xW.eq_1 (J @DZ.eq_1 (J @xV.eq_1 (J @xU.eq_1 (J @Nh.eq_1 (@VK.eq_1))))))
def H4Fc:=J @DY.eq_1 (J @xW.eq_1 (J @DZ.eq_1 (J @xV.eq_1 (J @xU.eq_1 (@VK.eq_1)))))
theorem kD {σ:ag} {b n:Nat} {cs:ai} {c:UInt8} (h:look σ.m b=some (.own cs)) (hl:cs.length=n) (h0:0 < n) (hb:b < σ.next) (hm:n < 2199023255552) :
  ∃σ',aF σ 1 1 (.sl b 0 n 1 none) [.int .u8 (c.toNat:Int)] 1=some (.sl σ.next 0 (n+1) 1 none,σ')/\look σ'.m σ.next=some (.own (cs ++ [.int .u8 (c.toNat:Int)]))/\σ'.next=σ.next+1:=by
 obtain ⟨σ',h1,h2,h3,h4⟩:=fY (σ:=σ) (sz:=1) (bytes:=1) (n:=n) (k:=1) (ob:=some b) (cells:=cs) (new:= [.int .u8 (c.toNat:Int)]) ⟨h,by omega,hb,h0⟩ (by decide) (by decide) (by unfold aY; omega) rfl rfl (by decide)
 exact ⟨σ',h1,h2.1,h3⟩
theorem mK (s:aw) (c:UInt8):af s ++ [.int .u8 (c.toNat:Int)]=af (s ++ [c]):=by rw [lP]; rfl
def y9 (n:Nat):aw:=List.replicate 8 0 ++nC (8*n)
def nw (n:Nat):Nat:=ld n - n - 17
theorem pad_eq (s:aw):fJ s=s ++ [128] ++List.replicate (nw s.length) 0 ++y9 s.length:=by
 have:=qH s.length
 rw [fJ,y9,nw,show ld s.length - s.length - 9=ld s.length - s.length - 17+8 by omega,←List.replicate_append_replicate]
 simp only [bb]
theorem XY {n j:Nat} (hn:n < 1099511627776) (h:j < 16):(y9 n)[j]? =some (if 15 - j < 8 then UInt8.ofNat (8*n / 2 ^ (8*(15 - j))) else 0):=by
 rw [y9]
 by_cases h8:j < 8
 ·rw [eX (by simpa using h8),if_neg aa,List.getElem?_replicate,if_pos h8]
 ·rw [eI (by simp; omega),if_pos aa,iB,nC,List.getElem?_reverse (by rw [aX]; omega),aX,pN,bV,List.getElem?_range aa,show 8 - 1 - (j - 8)=15 - j by omega]
  rw [Option.map_some,show (256:Nat)=2 ^ 8 from rfl,←Nat.pow_mul]
theorem XX {n k:Nat} (h:k<=nw n):(n+1+k) % 128=112↔k=nw n:=by
 have:=qH n
 unfold nw at*; omega
theorem RE {ls:List (aw)} {s:aw} (hn:s.length < 1099511627776) (hj: ∃x σ',cj cA gU (.fn 376 [] []) [.vsl (ls.map bN) none, .nils] .empty=some (x,σ')/\As x σ' s) :
  cR 341 [.vsl (ls.map bN) none, .int .i64 128, .int .i64 16]=some (bN (fJ s)):=by
 obtain ⟨x,σ0,hc,hl,ha⟩:=hj
 obtain ⟨σ1,a1,a2,a3⟩:=ha 128
 have w1:IntKind.wrap .u64 (s.length:Int)=(s.length:Int):=fI aa aa
 have w2:IntKind.wrap .u64 ((s.length:Int)*8)=((8*s.length:Nat):Int):=by rw [fI aa aa]; omega
 rw [show (((128:UInt8).toNat:Nat):Int)=128 from rfl] at a1
 have Ie:cj cA gU (.fn 376 [] []) [.vsl (ls.map bN) none, .nils] ⟨0, []⟩=some (x,σ0):=hc
 refine aG (F:=VK) rfl ?_
 simp only [DY,xW,xV,xU,VK,az,seval,ae,ax,Ie,hl,w1,w2,lenOf,rowOf,AV.cells,a1]
 have AX:(y9 s.length).length=16:=by simp [y9,oc]
 have i64z: ∀i:Int, -9223372036854775808<=i->i < 9223372036854775808->IntKind.wrap .i64 i=i:=fun i=>aU
 have hT:=qH s.length
 have hK:nw s.length=ld s.length - s.length - 17:=rfl
 have c16:IntKind.wrap .i64 112=112:=rfl
 have c15:IntKind.wrap .i64 15=15:=rfl
 rw [show ((s.length+1:Nat))=s.length+1+0 from rfl]
 refine aP (S:=Nat×Nat) (fun p=> [(1, .int .i64 128),(2, .int .i64 16),(7, .sl p.2 0 (s.length+1+p.1) 1 none),(8, .int .u64 ((8*s.length:Nat):Int))]) (fun p=>nw s.length - p.1)
  (fun p σ'=>look σ'.m p.2=some (.own (af (s ++ [128] ++List.replicate p.1 0)))/\p.2 < σ'.next/\p.1<=nw s.length) ?_ (0,σ0.next) _ ⟨by rw [List.replicate_zero,bC]; exact a2,by rw [a3]; exact aV _,Nat.zero_le _⟩
 rintro B ⟨k,b⟩ σ2 ⟨g1,g2,g3⟩ ih
 simp only at g1 g2 g3 ih
 have Pk:Int.tmod ((s.length+1+k:Nat):Int) 128=(((s.length+1+k) % 128:Nat):Int):=rfl
 have V2:IntKind.wrap .i64 (((s.length+1+k) % 128:Nat):Int)=(((s.length+1+k) % 128:Nat):Int):=aU aa aa
 have zD:=XX g3
 by_cases hk:k=nw s.length
 ·have fV:((((s.length+1+k) % 128:Nat):Int) == 112)=true:=by
   rw [beq_iff_eq]; have:=zD.2 hk; omega
  simp only [H4Fc,az,seval,ae,ax,Pk,V2,fV,bne,c16,c15]
  subst hk
  clear ih
  rw [show ((s.length+1+nw s.length:Nat))=s.length+1+nw s.length+0 from rfl]
  refine aP (S:=Nat×Nat) (fun p=> [(7, .sl p.2 0 (s.length+1+nw s.length+p.1) 1 none),(8, .int .u64 ((8*s.length:Nat):Int)),(9, .int .i64 (15 - (p.1:Int)))]) (fun p=>16 - p.1)
   (fun p σ'=>look σ'.m p.2=some (.own (af (s ++ [128] ++List.replicate (nw s.length) 0 ++(y9 s.length).take p.1)))/\p.2 < σ'.next/\p.1<=16) ?_ (0,b) _ ⟨by rw [List.take_zero,bC]; exact g1,g2,Nat.zero_le _⟩
  rintro B2 ⟨j,b2⟩ σ3 ⟨k1,k2,k3⟩ iY
  simp only at k1 k2 k3 iY
  by_cases hj:j=16
  ·subst hj
   have lp:decide ((15:Int) - ((16:Nat):Int)≥0)=false:=rfl
   rw [aJ aa,←pad_eq] at k1
   have hlen:=tu s
   have hR:rbE σ3 (.sl b2 0 (s.length+1+nw s.length+16) 1 none)=some (bN (fJ s)):=by
    have gh:(af (fJ s)).length=s.length+1+nw s.length+16:=by rw [aM]; omega
    have:=jC (d:=23) (off:=0) (n:=s.length+1+nw s.length+16) (c:=none) k1 aa (aC _) (by
     have:=cp (fJ s)
     rw [bG] at this ⊢
     intro x hx; have:=this x hx
     cases x <;> simp_all [AV.one,AV.notAgg])
    rw [List.drop_zero,aJ aa] at this
    unfold rbE
    rw [show bJ=23+1 from rfl,this,Option.map_some,fW,bF]
   simp only [H4Fa,az,seval,ae,lp,hR]
  ·have lp:decide ((15:Int) - (j:Int)≥0)=true:=decide_eq_true aa
   have iS:=XY hn (show j < 16 by omega)
   have gh:(af (s ++ [128] ++List.replicate (nw s.length) 0 ++(y9 s.length).take j)).length=s.length+1+nw s.length+j:=by
    rw [aM]; simp; omega
   have hw:IntKind.wrap .i64 (15 - (j:Int) - 1)=15 - ((j+1:Nat):Int):=by rw [aU aa aa]; omega
   have uL: ∀c,(y9 s.length)[j]? =some c->(y9 s.length).take (j+1)=(y9 s.length).take j ++ [c]:=by
    intro c hc
    have hi:=(bI.1 hc).1
    rw [fM hi,(bI.1 hc).2]
   by_cases h8:15 - j < 8
   ·rw [if_pos h8] at iS
    have hl8:decide ((15:Int) - (j:Int) < 8)=true:=decide_eq_true aa
    have hm8:IntKind.wrap .i64 (8*(15 - (j:Int)))=((8*(15 - j):Nat):Int):=by rw [aU aa aa]; omega
    have mD:bk .shr .u64 ((8*s.length:Nat):Int) ((8*(15 - j):Nat):Int)=some (.int .u64 ((8*s.length / 2 ^ (8*(15 - j)):Nat):Int)):=by
     have hu:((8*s.length:Nat):Int)=((UInt64.ofNat (8*s.length)).toNat:Int):=by
      rw [bY,aO aa]
     have:=rE (UInt64.ofNat (8*s.length)) (8*(15 - j)) aa
     rw [hu,this,U,UInt64.toNat_shiftRight,Nat.shiftRight_eq_div_pow,bY,aO (show 8*s.length < 2 ^ 64 by omega),bY,aO (show 8*(15 - j) < 2 ^ 64 by omega),aO (show 8*(15 - j) < 64 by omega)]
    have vq:IntKind.wrap .u8 ((8*s.length / 2 ^ (8*(15 - j)):Nat):Int)=((UInt8.ofNat (8*s.length / 2 ^ (8*(15 - j)))).toNat:Int):=by
     rw [mI,eW]
    obtain ⟨σ4,q1,q2,q3⟩:=kD (c:=UInt8.ofNat (8*s.length / 2 ^ (8*(15 - j)))) k1 gh aa k2 aa
    generalize 8*s.length / 2 ^ (8*(15 - j))=y at*
    simp only [H4Fa,az,seval,ae,lp,hl8,hm8,mD,vq,lenOf,rowOf,AV.cells,q1,hw]
    refine iY (j+1,σ3.next) _ _ (by show 16 - (j+1) < 16 - j; omega) ⟨?_,by rw [q3]; exact aV _,by show j+1<=16; omega⟩ rfl
    show look σ4.m σ3.next=_
    rw [q2,mK,uL _ iS,bb]
   ·rw [if_neg h8] at iS
    have hl8:decide ((15:Int) - (j:Int) < 8)=false:=decide_eq_false aa
    obtain ⟨σ4,q1,q2,q3⟩:=kD (c:=0) k1 gh aa k2 aa
    rw [show (((0:UInt8).toNat:Nat):Int)=0 from rfl] at q1
    simp only [H4Fa,az,seval,ae,lp,hl8,lenOf,rowOf,AV.cells,q1,hw]
    refine iY (j+1,σ3.next) _ _ (by show 16 - (j+1) < 16 - j; omega) ⟨?_,by rw [q3]; exact aV _,by show j+1<=16; omega⟩ rfl
    show look σ4.m σ3.next=_
    rw [q2,mK,uL _ iS,bb]
 ·have fV:((((s.length+1+k) % 128:Nat):Int) == 112)=false:=by
   rw [cE]; intro hc; exact hk (zD.1 aa)
  have gh:(af (s ++ [128] ++List.replicate k 0)).length=s.length+1+k:=by rw [aM]; simp; omega
  obtain ⟨σ4,q1,q2,q3⟩:=kD (c:=0) g1 gh aa g2 aa
  rw [show (((0:UInt8).toNat:Nat):Int)=0 from rfl] at q1
  simp only [H4Fc,az,seval,ae,Pk,V2,fV,bne,c16,lenOf,rowOf,AV.cells,q1]
  refine ih (k+1,σ2.next) _ _ (by show nw s.length - (k+1) < nw s.length - k; omega) ⟨?_,by rw [q3]; exact aV _,by show k+1<=nw s.length; omega⟩ rfl
  show look σ4.m σ2.next=_
  rw [q2,mK,bb,List.replicate_succ']
def H5Fa:=J @DO.eq_1 (J @DN.eq_1 (J @xQ.eq_1 (J @DM.eq_1 (J @DL.eq_1 (@F375.eq_1)))))
def H5Fb:=J @DO.eq_1 (J @DN.eq_1 (J @DM.eq_1 (@F375.eq_1)))
def H5Fc:= @F392.eq_1
def vG (p whole:UInt64) (fL:Bool) (low:UInt64):Bool:=
 let h:=fG low low; let s0:=low*low
 let h2:=fG low (2*whole); let l2:=low*(2*whole)
 let s1:=h+l2; let c:=mG h l2 0
 let s2:=whole*whole+h2+c
 if fL=true then
  let a1:=fG s0 low; let b1:=fG s1 low; let b0:=s1*low
  let c1:=fG s0 whole; let c0:=s0*whole
  let d1:=fG s2 low; let d0:=s2*low
  let e1:=fG s1 whole; let e0:=s1*whole
  let w1:=a1+b0; let k1:=mG a1 b0 0
  let k2:=mG w1 c0 0
  let w2:=b1+c1+k1; let k3:=mG b1 c1 k1
  let w2':=w2+d0+k2; let k4:=mG w2 d0 k2
  let k5:=mG w2' e0 0
  decide ((s2*whole+d1+e1+k3+k4+k5).toNat < p.toNat)
 else decide (s2.toNat < p.toNat)
theorem Xw (p whole low:UInt64) (fL:Bool):cR 392 [.agg [U p,U whole, .bool fL],U low]=some (.bool (vG p whole fL low)):=by
 have m1:=kq low low
 have m2:=kq low (2*whole)
 have tn:(2:Int)*(whole.toNat:Int)=((2:UInt64).toNat:Int)*(whole.toNat:Int):=rfl
 have w2:=Lb 2 whole
 rw [←tn] at w2
 have z0:((0:UInt64).toNat:Int)=0:=rfl
 have ad0 (x y:UInt64):dm .add64 [U x,U y, .int .u64 0]=some (.tup [U (x+y),U (mG x y 0)]):=by
  have:=iC x y 0 (by decide)
  rw [UInt64.add_zero] at this
  exact this
 refine aG (F:=F392) rfl ?_
 cases fL with
 | false=>
  simp only [U] at m1 m2 ad0 ⊢
  simp only [H5Fc,az,seval,ae,w2,m1,m2,ad0,Lb,lL,vG]
  simp only [Int.ofNat_lt,if_false,bh]
 | true=>
  simp only [vG,if_true]
  have n1:=kq (low*low) low
  have n2:=kq (fG low low+low*(2*whole)) low
  have n3:=kq (low*low) whole
  have n4:=kq (whole*whole+fG low (2*whole)+mG (fG low low) (low*(2*whole)) 0) low
  have n5:=kq (fG low low+low*(2*whole)) whole
  generalize nH:whole*whole+fG low (2*whole)+mG (fG low low) (low*(2*whole)) 0=s2 at*
  generalize rF:fG low low+low*(2*whole)=s1 at*
  have k1:=kr (fG (low*low) low) (s1*low) 0 (by decide)
  have k2:=kr (fG (low*low) low+s1*low) (low*low*whole) 0 (by decide)
  have x3:=iC (fG s1 low) (fG (low*low) whole) _ k1
  have x4:=iC (fG s1 low+fG (low*low) whole+mG (fG (low*low) low) (s1*low) 0) (s2*low) _ k2
  simp only [U] at m1 m2 n1 n2 n3 n4 n5 x3 x4 ad0 ⊢
  simp only [H5Fc,az,seval,ae,w2,m1,m2,n1,n2,n3,n4,n5,rF,nH,ad0,x3,x4,Lb,lL,Int.ofNat_lt]
  try rfl
def tL (p whole:UInt64) (fL:Bool):Nat->UInt64->UInt64
 | 0,low=>low
 | n+1,low=>tL p whole fL n (if decide (low.toNat < (low+UInt64.ofNat (2 ^ n)).toNat) && vG p whole fL (low+UInt64.ofNat (2 ^ n)) then low+UInt64.ofNat (2 ^ n) else low)
def uo:Nat->UInt64
 | 0=>0
 | n+1=>UInt64.ofNat (2 ^ n)
theorem P6 {n:Nat} (h:n < 64):bk .shr .u64 ((uo (n+1)).toNat:Int) 1=some (U (uo n)):=by
 have h1:=rE (uo (n+1)) 1 (by decide)
 rw [show ((1:Nat):Int)=1 from rfl] at h1
 rw [h1]
 congr 2
 cases n with
 | zero=>rfl
 | succ m=>
  apply UInt64.toNat_inj.1
  show (UInt64.ofNat (2 ^ (m+1)) >>> UInt64.ofNat 1).toNat=(UInt64.ofNat (2 ^ m)).toNat
  rw [UInt64.toNat_shiftRight,show (UInt64.ofNat 1).toNat % 64=1 from rfl,Nat.shiftRight_eq_div_pow,bY,bY]
  have l1:2 ^ (m+1) < 2 ^ 64:=Nat.pow_lt_pow_right (by decide) aa
  have l2:2 ^ m < 2 ^ 64:=Nat.pow_lt_pow_right (by decide) aa
  rw [aO l1,aO l2,Nat.pow_succ]; omega
theorem U7 {n:Nat} (h:n < 64):decide (((uo (n+1)).toNat:Int) > 0)=true:=by
 have l2:2 ^ n < 2 ^ 64:=Nat.pow_lt_pow_right (by decide) h
 have:=Nat.two_pow_pos n
 apply decide_eq_true
 show ((UInt64.ofNat (2 ^ n)).toNat:Int) > 0
 rw [bY,aO l2]; omega
structure PreR (p:UInt64) (fL:Bool) (whole y:UInt64):Prop where
 pre: ∃fp x0 x1 g d e,BX (U p)=some fp/\cR 390 [fp]=some x0/\cR 391 [fp]=some x1/\fp.closed=true/\fp.er=fp/\intOf .u64 (if fL=true then x1 else x0)=some (U whole)/\BX (U whole)=some g/\
  bin .sub (if fL=true then x1 else x0) g=some d/\bin .mul d (.lit (.float .f64 4814348001659060224))=some e/\intOf .u64 e=some (U y)
theorem w_sub (x y:UInt64):IntKind.wrap .u64 ((x.toNat:Int) - (y.toNat:Int))=((x - y).toNat:Int):=by
 have e: ∀i:Int,IntKind.wrap .u64 i=i % 18446744073709551616:=by
  intro i
  simp only [IntKind.wrap,IntKind.bits,IntKind.signed]
  simp
 have hx:=gl x; have hy:=gl y
 rw [e,UInt64.toNat_sub]
 omega
theorem Cj {p whole Yv:UInt64} {fL:Bool} {σ:ag} (h:look σ.m 0=some (.own [.int .u64 p.toNat, .int .u64 whole.toNat, .bool fL])) :
  Ex cA gU [.code xQ, .inLoop [2,6,7] xQ, .inBlock 0, .code DL] [(2, .ptr 0 0),(6,U Yv),(7, .int .u64 524288)] σ fun fr' σ1=>rbE σ1 ((look fr' 4).getD .undef)=some (.int .u64 ((tL p whole fL 20 Yv).toNat:Int)):=by
 have h20:(524288:Int)=((uo 20).toNat:Int):=by decide
 rw [h20]
 refine aP (S:=Nat×UInt64) (fun q=> [(2, .ptr 0 0),(6,U q.2),(7,U (uo q.1))]) (fun q=>q.1)
  (fun q σ'=>look σ'.m 0=some (.own [.int .u64 p.toNat, .int .u64 whole.toNat, .bool fL])/\q.1<=20/\tL p whole fL q.1 q.2=tL p whole fL 20 Yv) ?_ (20,Yv) _ ⟨h,aD _,rfl⟩
 rintro B ⟨n,low⟩ σ2 ⟨g1,g2,g3⟩ ih
 simp only at g1 g2 g3 ih
 cases n with
 | zero=>
  have hz:decide (((uo 0).toNat:Int) > 0)=false:=rfl
  rw [←g3]
  simp only [H5Fa,az,seval,ae,U,hz,tL]
 | succ m=>
  have hp:=U7 (n:=m) aa
  have hh:=P6 (n:=m) aa
  have hb:=Xw p whole (low+uo (m+1)) fL
  have hg:decide (((low+uo (m+1)).toNat:Int) > (low.toNat:Int))=decide (low.toNat < (low+uo (m+1)).toNat):=decide_eq_decide.2 aa
  have hL:tL p whole fL (m+1) low=tL p whole fL m (if decide (low.toNat < (low+uo (m+1)).toNat) && vG p whole fL (low+uo (m+1)) then low+uo (m+1) else low):=rfl
  rw [hL] at g3
  simp only [U] at hb hh
  generalize uo (m+1)=bt at*
  by_cases c1:low.toNat < (low+bt).toNat
  ·rw [decide_eq_true c1] at hg g3
   by_cases c2:vG p whole fL (low+bt)=true
   ·rw [c2] at hb g3
    simp only [H5Fa,az,seval,ae,U,hp,lL,hg,g1,hb,hh]
    exact ih (m,low+bt) _ _ (aV m) ⟨g1,by show m<=20; omega,g3⟩ rfl
   ·rw [Bool.not_eq_true] at c2
    rw [c2] at hb g3
    simp only [H5Fa,az,seval,ae,U,hp,lL,hg,g1,hb,hh]
    exact ih (m,low) _ _ (aV m) ⟨g1,by show m<=20; omega,g3⟩ rfl
  ·rw [decide_eq_false c1] at hg g3
   simp only [H5Fa,az,seval,ae,U,hp,lL,hg,g1,hh]
   exact ih (m,low) _ _ (aV m) ⟨g1,by show m<=20; omega,g3⟩ rfl
theorem r_bits {p whole y:UInt64} {fL all:Bool} (h:PreR p fL whole y):cR 375 [.agg [U p, .int .u64 0, .bool fL], .bool all]=some (U (if all=true then tL p whole fL 20 (y <<< 18 - 262144) else y <<< 18)):=by
 obtain ⟨fp,x0,x1,g,d,e,e1,e2,e3,e4,e5,e6,e7,e8,e9,e10⟩:=h
 have s18:bk .shl .u64 (y.toNat:Int) 18=some (U (y <<< 18)):=AM y 18 (by decide)
 have hsub:IntKind.wrap .u64 (((y <<< 18).toNat:Int) - 262144)=(((y <<< 18) - 262144).toNat:Int):=w_sub (y <<< 18) 262144
 refine aG (F:=F375) rfl ?_
 cases fL with
 | false=>
  simp only [if_false,bh] at e6 e8
  simp only [U] at e1 e6 e7 e10 s18 ⊢
  cases all with
  | false=>simp only [H5Fb,az,seval,ae,e1,e2,e4,e5,e6,e7,e8,e9,e10,s18]
  | true=>
   simp only [H5Fb,az,seval,ae,ax,e1,e2,e4,e5,e6,e7,e8,e9,e10,s18,hsub]
   exact Cj rfl
 | true=>
  simp only [if_true] at e6 e8
  simp only [U] at e1 e6 e7 e10 s18 ⊢
  cases all with
  | false=>simp only [H5Fb,az,seval,ae,e1,e2,e3,e4,e5,e6,e7,e8,e9,e10,s18]
  | true=>
   simp only [H5Fb,az,seval,ae,ax,e1,e2,e3,e4,e5,e6,e7,e8,e9,e10,s18,hsub]
   exact Cj rfl
noncomputable def runR (f:Nat) (x:AV):Option AV:=(dd cA (run cA gU 200) (.fn f [] []) [x] .empty).bind (fun x=>rbE x.2 x.1)
noncomputable def preF (p:UInt64) (fL:Bool):Option (UInt64×UInt64):=
 (BX (U p)).bind fun fp=>(runR 390 fp).bind fun x0=>(runR 391 fp).bind fun x1=>
 (intOf .u64 (if fL=true then x1 else x0)).bind fun w=>(BX w).bind fun g=>(bin .sub (if fL=true then x1 else x0) g).bind fun d=>
 (bin .mul d (.lit (.float .f64 4814348001659060224))).bind fun e=>(intOf .u64 e).bind fun y=>
 match w,y with
 | .int .u64 wi, .int .u64 yi=>if 0<=wi/\wi < 18446744073709551616/\0<=yi/\yi < 18446744073709551616 then some (UInt64.ofNat wi.toNat,UInt64.ofNat yi.toNat) else none
 | _,_=>none
theorem OC {p:UInt64} {fL:Bool} {w y:UInt64} (h:preF p fL=some (w,y)):PreR p fL w y:=by
 simp only [preF,Option.bind_eq_some_iff] at h
 obtain ⟨fp,e1,x0,e2,x1,e3,wv,e4,g,e5,d,e6,e,e7,yv,e8,h⟩:=h
 split at h
 ·rename_i wi yi
  split at h
  ·rename_i hr
   simp only [ah,aL] at h
   obtain ⟨rfl,rfl⟩:=h
   obtain ⟨h0,h1,h2,h3⟩:=hr
   have ew:AV.int .u64 wi=U (UInt64.ofNat wi.toNat):=by
    unfold U; rw [bY,aO (show wi.toNat < 2 ^ 64 by omega),Int.toNat_of_nonneg h0]
   have ey:AV.int .u64 yi=U (UInt64.ofNat yi.toNat):=by
    unfold U; rw [bY,aO (show yi.toNat < 2 ^ 64 by omega),Int.toNat_of_nonneg h2]
   rw [ew] at e4 e5
   rw [ey] at e8
   have hf:fp= .lit (.float .f64 (FloatKind.f64.nearest (p.toNat:Int))):=by
    unfold U BX at e1; exact (bT e1).symm
   exact ⟨⟨fp,x0,x1,g,d,e,e1,cQ 200 e2,cQ 200 e3,by rw [hf]; rfl,by rw [hf,Un],e4,e5,e6,e7,e8⟩⟩
  ·cases h
 ·cases h
def xl:List UInt64:= [2,3,5,7,11,13,17,19,23,29,31,37,41,43,47,53,59,61,67,71,73,79,83,89,97,101,103,107,109,113,127,131,137,139,149,151,157,163,167,173,179,181,191,193,197,199,211,223,227,229,233,239,241,251,257,263,269,271,277,281,283,293,307,311,313,317,331,337,347,349,353,359,367,373,379,383,389,397,401,409]
noncomputable def yQ (fL all:Bool) (p:UInt64):Option UInt64:=(preF p fL).map fun (q:UInt64×UInt64)=>if all=true then tL p q.1 fL 20 (q.2 <<< 18 - 262144) else q.2 <<< 18
theorem Iy {p r:UInt64} {fL all:Bool} (h:yQ fL all p=some r):cR 375 [.agg [U p, .int .u64 0, .bool fL], .bool all]=some (U r):=by
 unfold yQ at h
 rw [cH] at h
 obtain ⟨⟨w,y⟩,h1,rfl⟩:=h
 exact r_bits (OC h1)
theorem tab8:(xl.take 8).map (yQ false true)=HH.list.map some:=by kernel_rfl
theorem tab80:xl.map (yQ true true)=KK.map some:=by kernel_rfl
def H7Fa:=J @KF.eq_1 (J @D0.eq_1 (J @Ni.eq_1 (@F340.eq_1)))
def H7Fc:=J @DP.eq_1 (J @xT.eq_1 (J @xS.eq_1 (J @DR.eq_1 (J @xR.eq_1 (J @DQ.eq_1 (@Ky.eq_1))))))
def H7Fd:=J @DP.eq_1 (J @xT.eq_1 (J @xS.eq_1 (J @xR.eq_1 (J @DQ.eq_1 (@Ky.eq_1)))))
def F0 (p:Nat):Nat->Nat->Nat->aA
 | 0,_,_=>none
 | f+1,q,m=>if q < 410 then F0 p f (q+p) (m ||| 2 ^ q) else some m
def oF (n:Nat):Nat->Nat->Nat->List Nat->Option (List Nat)
 | 0,_,_,_=>none
 | f+1,p,m,out=>if out.length < n then (if p < 410 then (if m.testBit p then oF n f (p+1) m out else (F0 p 411 (p*p) m).bind fun m'=>oF n f (p+1) m' (out ++ [p])) else none) else some out
def OY (m:Nat):ai:=(List.range 410).map fun i=> .bool (m.testBit i)
theorem tF (m:Nat):(OY m).length=410:=by simp [OY]
theorem Jf {m p:Nat} (h:p < 410):(OY m)[p]? =some (.bool (m.testBit p)):=by
 rw [OY,bV,List.getElem?_range h]; rfl
theorem Yo {m q:Nat} (h:q < 410):(OY m).take q ++ [.bool true] ++(OY m).drop (q+1)=OY (m ||| 2 ^ q):=by
 have e:(OY m).set q (.bool true)=OY (m ||| 2 ^ q):=by
  apply List.ext_getElem?
  intro k
  rw [List.getElem?_set]
  by_cases hk:k < 410
  ·rw [Jf hk,Jf hk,Nat.testBit_or,Nat.testBit_two_pow]
   by_cases hq:q=k
   ·subst hq; simp [tF,h]
   ·simp [hq]
  ·have e1: ∀m,(OY m)[k]? =none:=fun m=>cM (by rw [tF]; omega)
   rw [e1,e1]
   split
   ·rename_i hq; rw [if_neg (by rw [tF]; omega)]
   ·rfl
 rw [←e,List.set_eq_take_append_cons_drop,if_pos (by rw [tF]; exact h),bb]; rfl
def OU (l:List Nat):ai:=l.map fun (p:Nat)=> .int .u64 (p:Int)
def M6 (x:AV) (σ:ag) (out:List Nat):Prop:=∃ob,x=ik 1 ob out.length/\mz σ 1 ob out.length (OU out)
theorem UU {n f:Nat} {out:List Nat} (h:oF n f 2 0 []=some out) (hn:n < 1000): ∃x σ',cj cA gU (.fn 374 [] []) [.int .i64 (n:Int)] .empty=some (x,σ')/\M6 x σ' out:=by
 suffices hs:Ex cA gU [.code Ky.body] (fK ([] ++ [.int .i64 (n:Int)] ++ [])) .empty fun fr' σ1=>∃r,iO fr' σ1 Ky.res=some r/\M6 r σ1 out by
  obtain ⟨k,fr',σ1,h1,r,h2,h3⟩:=hs
  exact ⟨r,σ1,cU (id:=374) (F:=Ky) rfl ⟨k,fr',σ1,h1,h2,rfl⟩,h3⟩
 simp only [DP,xT,xS,DR,xR,Ky,az,seval,ax]
 refine aP (S:=Nat×Nat×Nat×List Nat×aA) (fun q=> [(0, .int .i64 (n:Int)),(3, .ptr 0 0),(4,ik 1 q.2.2.2.2 q.2.2.2.1.length),(5, .int .i64 (q.2.1:Int))]) (fun q=>q.1)
  (fun q σ'=>look σ'.m 0=some (.own (OY q.2.2.1))/\mz σ' 1 q.2.2.2.2 q.2.2.2.1.length (OU q.2.2.2.1)/\q.2.2.2.2≠some 0/\1<=σ'.next/\oF n q.1 q.2.1 q.2.2.1 q.2.2.2.1=some out) ?_ (f,2,0, [],none) _ ⟨by kernel_rfl,⟨rfl,rfl⟩,by simp,aD _,h⟩
 rintro B ⟨f,p,m,l,ob⟩ σ1 ⟨g0,g1,g2,g3,g4⟩ ih
 simp only at g0 g1 g2 g3 g4 ih
 cases f with
 | zero=>simp [oF] at g4
 | succ f=>
  have hlen:=vl g1
  rw [oF] at g4
  by_cases hl:l.length < n
  ·rw [if_pos hl] at g4
   by_cases hp:p < 410
   ·rw [if_pos hp] at g4
    have aR:decide ((l.length:Int) < (n:Int))=true:=decide_eq_true aa
    have hx:=iM (k:= .i64) (n:=410) (b:=0) (j:=p) hp
    have iS:=Jf (m:=m) hp
    have w1:IntKind.wrap .i64 ((p:Int)+1)=((p+1:Nat):Int):=by rw [aU aa aa]; omega
    cases hb:m.testBit p with
    | true=>
     rw [hb,if_pos rfl] at g4
     rw [hb] at iS
     simp only [H7Fd,az,seval,ae,hlen,aR,hx,g0,iS,w1]
     exact ih (f,p+1,m,l,ob) _ _ (aV f) ⟨g0,g1,g2,g3,g4⟩ rfl
    | false=>
     rw [hb,if_neg (by decide),Option.bind_eq_some_iff] at g4
     obtain ⟨m',hm,g5⟩:=g4
     rw [hb] at iS
     have w2:IntKind.wrap .u64 (p:Int)=(p:Int):=fI aa aa
     have hpp:p*p < 410*410:=Nat.mul_lt_mul'' hp hp
     have w3:IntKind.wrap .i64 ((p:Int)*(p:Int))=((p*p:Nat):Int):=by rw [aU (by rw [←Int.natCast_mul]; omega) (by rw [←Int.natCast_mul]; omega),Int.natCast_mul]
     obtain ⟨σ2,a1,a2,a3,a4⟩:=fY (bytes:=8) (k:=1) (new:= [.int .u64 (p:Int)]) g1 (by decide) (by decide) (by unfold aY; omega) rfl rfl (by decide)
     have a0:look σ2.m 0=some (.own (OY m)):=by
      have:=a4 0 aa g2
      unfold ag.get at this; rw [this]; exact g0
     simp only [H7Fd,az,seval,ae,ax,hlen,aR,hx,g0,iS,w2,w3,lenOf,rowOf,AV.cells,a1]
     refine aP (S:=Nat×Nat×Nat) (fun q=> [(0, .int .i64 (n:Int)),(3, .ptr 0 0),(4,ik 1 (some σ1.next) (l.length+1)),(5, .int .i64 (p:Int)),(6, .int .i64 (q.2.1:Int))]) (fun q=>q.1)
      (fun q σ'=>look σ'.m 0=some (.own (OY q.2.2))/\mz σ' 1 (some σ1.next) (l.length+1) (OU (l ++ [p]))/\1<=σ'.next/\q.2.1 < 1000000/\F0 p q.1 q.2.1 q.2.2=some m') ?_ (411,p*p,m) _ ⟨a0,by rw [OU,List.map_append]; exact a2,by omega,by show p*p < 1000000; omega,hm⟩
     rintro B2 ⟨g,q,mm⟩ σ3 ⟨k0,k1,k2,k3,k4⟩ iY
     simp only at k0 k1 k2 k3 k4 iY
     cases g with
     | zero=>simp [F0] at k4
     | succ g=>
      rw [F0] at k4
      by_cases hq:q < 410
      ·rw [if_pos hq] at k4
       have hlq:decide ((q:Int) < 410)=true:=decide_eq_true aa
       have hxq:=iM (k:= .i64) (n:=410) (b:=0) (j:=q) hq
       have kF:=Yo (m:=mm) hq
       have w4:IntKind.wrap .i64 ((q:Int)+(p:Int))=((q+p:Nat):Int):=by rw [aU aa aa]; omega
       have hnl:=tF mm
       have hq9:q<=409:=by omega
       simp only [H7Fc,az,seval,ae,hlq,hxq,k0,hnl,hq9,kF,w4]
       refine iY (g,q+p,mm ||| 2 ^ q) _ _ (aV g) ⟨by simp [look],?_,k2,by show q+p < 1000000; omega,k4⟩ rfl
       obtain ⟨o1,o2,o3,o4⟩:=k1
       refine ⟨?_,o2,o3,o4⟩
       unfold ag.get at o1 ⊢
       have: ¬0=σ1.next:=by omega
       simpa [look,this] using o1
      ·rw [if_neg hq] at k4
       have YZ:mm=m':=bT k4
       subst YZ
       have hlq:decide ((q:Int) < 410)=false:=decide_eq_false aa
       simp only [H7Fc,az,seval,ae,hlq,w1]
       refine ih (f,p+1,mm,l ++ [p],some σ1.next) _ _ (aV f) ⟨k0,?_,by simp; omega,k2,g5⟩ (by simp only [aq]; rfl)
       rw [aq]; exact k1
   ·rw [if_neg hp] at g4; cases g4
  ·rw [if_neg hl] at g4
   have jm:l=out:=bT g4
   subst jm
   have aR:decide ((l.length:Int) < (n:Int))=false:=decide_eq_false aa
   simp only [H7Fd,az,seval,ae,hlen,aR]
   exact ⟨_,rfl,ob,rfl,g1⟩
theorem WT:oF 80 500 2 0 []=some (xl.map UInt64.toNat):=by decide+kernel
theorem sieve8:oF 8 500 2 0 []=some ((xl.take 8).map UInt64.toNat):=by decide+kernel
theorem er_U: ∀l:List UInt64,eP (l.map U)=l.map U
 | []=>dt
 | x ::l=>by rw [List.map_cons,cg,er_U l,kV]
theorem Fq {n f:Nat} {ps rs:List UInt64} {fL all:Bool} (h:oF n f 2 0 []=some (ps.map UInt64.toNat)) (hn:n < 1000) (hr:ps.map (yQ fL all)=rs.map some) (h0:0 < ps.length) (hps:ps.length < 1000):cR 340 [.int .i64 (n:Int), .bool fL, .bool all]=some (.vsl (rs.map U) none):=by
 obtain ⟨x,σ0,hc,ob,rfl,ho⟩:=UU h hn
 have Ie:cj cA gU (.fn 374 [] []) [.int .i64 (n:Int)] ⟨0, []⟩=some (ik 1 ob (ps.map UInt64.toNat).length,σ0):=hc
 have hlen:=vl ho
 have AX:(ps.map UInt64.toNat).length=ps.length:=aH _
 have V4:rs.length=ps.length:=by
  have:=congrArg List.length hr; simpa using this.symm
 have Mz {i:Nat} {p:UInt64} (hp:ps[i]? =some p): ∃r,rs[i]? =some r/\yQ fL all p=some r:=by
  have h1:(ps.map (yQ fL all))[i]? =(rs.map some)[i]? :=by rw [hr]
  rw [bV,bV,hp] at h1
  cases hri:rs[i]? with
  | none=>rw [hri] at h1; cases h1
  | some r=>rw [hri] at h1; exact ⟨r,rfl,bT h1⟩
 have hnum:OU (ps.map UInt64.toNat)=ps.map U:=by rw [OU,List.map_map]; rfl
 rw [hnum,AX] at ho
 rw [AX] at hlen Ie
 refine aG (F:=F340) rfl ?_
 simp only [KF,D0,F340,az,seval,ax,Ie,hlen]
 refine aP (S:=Nat) (fun i=> [(1, .bool fL),(2, .bool all),(7,ik 1 ob ps.length),(12,ik 1 ob ps.length),(13, .int .i64 ps.length),(14, .int .i64 (i:Int))]) (fun i=>ps.length - i)
  (fun i σ'=>mz σ' 1 ob ps.length ((rs.take i).map U ++(ps.drop i).map U)/\i<=ps.length) ?_ 0 _ ⟨ho,Nat.zero_le _⟩
 rintro B i σ1 ⟨g1,g2⟩ ih
 obtain ⟨b,rfl⟩ : ∃b,ob=some b:=by
  cases ob with
  | none=>have:=g1.1; omega
  | some b=>exact ⟨b,rfl⟩
 obtain ⟨o1,o2,o3,o4⟩:=g1
 have o1':look σ1.m b=some (.own ((rs.take i).map U ++(ps.drop i).map U)):=o1
 by_cases hi:i=ps.length
 ·subst hi
  have gt:decide ((ps.length:Int) < (ps.length:Int))=false:=decide_eq_false aa
  rw [aJ aa,List.drop_length,List.map_nil,bC] at o1'
  have hR:rbE σ1 (ik 1 (some b) ps.length)=some (.vsl (rs.map U) none):=by
   have gh:ay (rs.map U)=true:=ft.2 (by intro x hx; obtain ⟨y,_,rfl⟩:=List.mem_map.1 hx; rfl)
   have YX:(rs.map U).all AV.notAgg=true:=by simp [AV.notAgg]
   have he:=er_U rs
   have:=jC (d:=23) (off:=0) (n:=ps.length) (c:=none) o1' (by rw [aH]; omega) gh YX
   rw [List.drop_zero,aJ (by rw [aH]; omega)] at this
   unfold rbE ik
   rw [show bJ=23+1 from rfl]
   simp only
   rw [this,Option.map_some,fW,he]
  simp only [H7Fa,az,seval,ae,gt,hR]
 ·obtain ⟨p,hp⟩ : ∃p,ps[i]? =some p:=⟨ps[i]'(by omega),bx aa⟩
  obtain ⟨r,hri,Pj⟩:=Mz hp
  have Mz:=Iy Pj
  have aR:decide ((i:Int) < (ps.length:Int))=true:=decide_eq_true aa
  have cl:idxOf 1 none (ik 1 (some b) ps.length) (.int .i64 (i:Int))=some (.ptr b i):=by
   have:i < ps.length:=by omega
   simp [idxOf,ik,this]
  have Da:((rs.take i).map U).length=i:=by rw [aH,bU]; omega
  have iS:((rs.take i).map U ++(ps.drop i).map U)[i]? =some (U p):=by
   rw [eI aa,Da,Nat.sub_self,bV,List.getElem?_drop,Nat.add_zero,hp]; rfl
  have kF:((rs.take i).map U ++(ps.drop i).map U).take i ++ [U r] ++((rs.take i).map U ++(ps.drop i).map U).drop (i+1)=(rs.take (i+1)).map U ++(ps.drop (i+1)).map U:=by
   have hir:=(bI.1 hri).1
   rw [List.take_left' Da,fM hir,(bI.1 hri).2,List.map_append,List.drop_append,cc aa,List.nil_append,Da,show i+1 - i=1 by omega,←List.map_drop,List.drop_drop]; rfl
  have hle:i+1<=((rs.take i).map U ++(ps.drop i).map U).length:=by rw [o2]; omega
  have w1:IntKind.wrap .i64 ((i:Int)+1)=((i+1:Nat):Int):=by rw [aU aa aa]; omega
  simp only [U] at Mz iS kF
  simp only [H7Fa,az,seval,ae,aR,cl,o1',iS,Mz,w1,hle,kF]
  refine ih (i+1) _ _ aa ⟨⟨?_,?_,o3,o4⟩,by omega⟩ rfl
  ·unfold ag.get; simp [look]
  ·simp; omega
theorem tabKK:cR 340 [.int .i64 80, .bool true, .bool true]=some (.vsl (KK.map U) none):=Fq (n:=80) WT (by decide) tab80 (by decide) (by decide)
theorem tabHH:cR 340 [.int .i64 8, .bool false, .bool true]=some (.vsl (HH.list.map U) none):=Fq (n:=8) sieve8 (by decide) tab8 (by decide) (by decide)
theorem toLE8r (n:Nat):(toLE 8 n).reverse= [UInt8.ofNat (n / 72057594037927936),UInt8.ofNat (n / 281474976710656),UInt8.ofNat (n / 1099511627776),UInt8.ofNat (n / 4294967296),UInt8.ofNat (n / 16777216),UInt8.ofNat (n / 65536),UInt8.ofNat (n / 256),UInt8.ofNat (n / 1)]:=by
 rw [pN]; rfl
theorem Sw (v:V8):I2 v= [UInt8.ofNat (v.a.toNat / 72057594037927936),UInt8.ofNat (v.a.toNat / 281474976710656),UInt8.ofNat (v.a.toNat / 1099511627776),UInt8.ofNat (v.a.toNat / 4294967296),UInt8.ofNat (v.a.toNat / 16777216),UInt8.ofNat (v.a.toNat / 65536),UInt8.ofNat (v.a.toNat / 256),UInt8.ofNat (v.a.toNat / 1),UInt8.ofNat (v.b.toNat / 72057594037927936),UInt8.ofNat (v.b.toNat / 281474976710656),UInt8.ofNat (v.b.toNat / 1099511627776),UInt8.ofNat (v.b.toNat / 4294967296),UInt8.ofNat (v.b.toNat / 16777216),UInt8.ofNat (v.b.toNat / 65536),UInt8.ofNat (v.b.toNat / 256),UInt8.ofNat (v.b.toNat / 1),UInt8.ofNat (v.c.toNat / 72057594037927936),UInt8.ofNat (v.c.toNat / 281474976710656),UInt8.ofNat (v.c.toNat / 1099511627776),UInt8.ofNat (v.c.toNat / 4294967296),UInt8.ofNat (v.c.toNat / 16777216),UInt8.ofNat (v.c.toNat / 65536),UInt8.ofNat (v.c.toNat / 256),UInt8.ofNat (v.c.toNat / 1),UInt8.ofNat (v.d.toNat / 72057594037927936),UInt8.ofNat (v.d.toNat / 281474976710656),UInt8.ofNat (v.d.toNat / 1099511627776),UInt8.ofNat (v.d.toNat / 4294967296),UInt8.ofNat (v.d.toNat / 16777216),UInt8.ofNat (v.d.toNat / 65536),UInt8.ofNat (v.d.toNat / 256),UInt8.ofNat (v.d.toNat / 1),UInt8.ofNat (v.e.toNat / 72057594037927936),UInt8.ofNat (v.e.toNat / 281474976710656),UInt8.ofNat (v.e.toNat / 1099511627776),UInt8.ofNat (v.e.toNat / 4294967296),UInt8.ofNat (v.e.toNat / 16777216),UInt8.ofNat (v.e.toNat / 65536),UInt8.ofNat (v.e.toNat / 256),UInt8.ofNat (v.e.toNat / 1),UInt8.ofNat (v.f.toNat / 72057594037927936),UInt8.ofNat (v.f.toNat / 281474976710656),UInt8.ofNat (v.f.toNat / 1099511627776),UInt8.ofNat (v.f.toNat / 4294967296),UInt8.ofNat (v.f.toNat / 16777216),UInt8.ofNat (v.f.toNat / 65536),UInt8.ofNat (v.f.toNat / 256),UInt8.ofNat (v.f.toNat / 1),UInt8.ofNat (v.g.toNat / 72057594037927936),UInt8.ofNat (v.g.toNat / 281474976710656),UInt8.ofNat (v.g.toNat / 1099511627776),UInt8.ofNat (v.g.toNat / 4294967296),UInt8.ofNat (v.g.toNat / 16777216),UInt8.ofNat (v.g.toNat / 65536),UInt8.ofNat (v.g.toNat / 256),UInt8.ofNat (v.g.toNat / 1),UInt8.ofNat (v.h.toNat / 72057594037927936),UInt8.ofNat (v.h.toNat / 281474976710656),UInt8.ofNat (v.h.toNat / 1099511627776),UInt8.ofNat (v.h.toNat / 4294967296),UInt8.ofNat (v.h.toNat / 16777216),UInt8.ofNat (v.h.toNat / 65536),UInt8.ofNat (v.h.toNat / 256),UInt8.ofNat (v.h.toNat / 1)]:=by
 simp only [I2,V8.list,List.flatMap_cons,List.flatMap_nil,toLE8r,List.cons_append,List.nil_append,bC]
theorem Ba (w:UInt64) {k:Int} (h0:0<=k) (h1:k < 64):bk .shr .u64 (w.toNat:Int) k=some (.int .u64 ((w.toNat / 2 ^ k.toNat:Nat):Int)):=by
 have:=rE w k.toNat aa
 rw [Int.toNat_of_nonneg h0] at this
 rw [this,U,UInt64.toNat_shiftRight,Nat.shiftRight_eq_div_pow,bY,aO (show k.toNat < 2 ^ 64 by omega),aO (show k.toNat < 64 by omega)]
theorem wb8 (n m:Nat):IntKind.wrap .u8 ((n / m:Nat):Int)=((UInt8.ofNat (n / m)).toNat:Int):=by
 rw [mI,eW]
theorem row_U {σ:ag} {l:List UInt64} {c:aA}:rowOf σ 1 (.vsl (l.map U) c)=some (l.map U):=by
 have h1:((l.map U).all fun e=>e.cells.length == 1)=true:=by simp [AV.cells]
 have h2:(l.map U).flatMap AV.cells=l.map U:=by
  induction l with
  | nil=>rfl
  | cons x l ih=>rw [List.map_cons,List.flatMap_cons,ih (by simp [AV.cells])]; rfl
 simp only [rowOf,h1,if_true,h2]
theorem sj {cs:ai} {c:aA} {l:Nat} (h:l<=cs.length) (ho:cs.all AV.one=true):dq 1 (.vsl cs c) (some (l:Int)) none none=some (.vsl (cs.drop l) (c.map (· - l))):=by
 have e1:(cs.all fun e=>e.cells.length == 1)=true:=by
  rw [bG] at ho ⊢
  intro x hx
  have:=ho x hx
  cases x <;> simp_all [AV.one,AV.cells]
 have e2:(0:Int)<=(l:Int)/\(l:Int)<=(cs.length:Int)/\(cs.length:Int)<=(cs.length:Int):=by omega
 simp only [dq,bounds,Option.getD_some,Option.getD_none,if_pos e2,e1,or_true,if_true,Int.toNat_natCast]
 rw [aJ (aD _)]
theorem Ln (s:aw) (n:Nat):(af s).take n=af (s.take n):=by simp [af]
theorem Lo (s:aw) (n:Nat):(af s).drop n=af (s.drop n):=by simp [af]
theorem Fp {ls:List (aw)} {s:aw} (hn:s.length < 1099511627776) (hj: ∃x σ',cj cA gU (.fn 376 [] []) [.vsl (ls.map bN) none, .nils] .empty=some (x,σ')/\As x σ' s)
  (gh:ay (ls.map bN)=true) (JC:eP (ls.map bN)=ls.map bN):cR 278 [.vsl (ls.map bN) none]=some (bD (aB s)):=by
 have hp:=RE hn hj
 have hK:=tabKK
 have hH:=tabHH
 have hlenP:=tu s
 have hT:=qH s.length
 have hcopy:js ⟨2, [(1, .own (List.replicate 8 (.int .u64 0))),(0, .own (List.replicate 64 (.int .u8 0)))]⟩ 1 (.sl 1 0 8 1 (some 8)) (.vsl (HH.list.map U) none)=some (.int .i64 8,⟨2, [(1, .own HH.cells),(1, .own (List.replicate 8 (.int .u64 0))),(0, .own (List.replicate 64 (.int .u8 0)))]⟩):=by
  simp only [js,lenOf,row_U]
  rfl
 generalize hP:fJ s=P at*
 have YR:aB s=I2 (ny KK (ld s.length / 128) HH P):=by rw [aB,hP]
 rw [YR]
 simp only [List.replicate] at hcopy
 refine aG (F:=VM) rfl ?_
 simp only [Ee,x5,xZ,xY,VM,az,seval,ae,@eJ,pA,ax,hK,hH,hcopy,gh,JC,hp]
 generalize hN:ld s.length / 128=N at*
 generalize hR:ny KK N HH P=R at*
 have hKl:KK.length=80:=rfl
 refine aP (S:=Nat×V8×aw) (fun q=> [(2, .ptr 0 0),(3, .vsl (KK.map U) none),(4, .ptr 1 0),(5,bN q.2.2)]) (fun q=>q.1)
  (fun q σ'=>look σ'.m 1=some (.own q.2.1.cells)/\look σ'.m 0=some (.own (List.replicate 64 (.int .u8 0)))/\2<=σ'.next/\q.2.2.length=128*q.1/\ny KK q.1 q.2.1 q.2.2=R) ?_ (N,HH,P) _ ⟨rfl,rfl,aD _,by show P.length=128*N; omega,hR⟩
 rintro B ⟨k,v,rest⟩ σ1 ⟨g1,g0,g2,g3,g4⟩ ih
 simp only at g1 g0 g2 g3 g4 ih
 cases k with
 | zero=>
  have hr0:rest= []:=ei aa
  subst hr0
  have hv:v=R:=g4
  subst hv
  have hu:af []= []:=rfl
  have fV: ¬σ1.next=0:=by omega
  have hne1: ¬σ1.next=1:=by omega
  rw [Sw]
  unfold V8.cells at g1
  simp only [List.replicate] at g0
  simp only [bN,hu]
  simp only [bD,af,List.map_cons,List.map_nil]
  simp only [Ee,x5,Ef,xZ,xY,Np,VM,az,seval,ae,ax,aN,@aU,@br,U,g1,g0,fV,hne1,@Ba,wb8]
 | succ m=>
  have ES:decide ((rest.length:Int) > 0)=true:=decide_eq_true aa
  have hle:128<=(af rest).length:=by rw [aM]; omega
  have s1:dq 1 (.vsl (af rest) none) none (some 128) none=some (.vsl ((af rest).take 128) none):=oE (n:=128) hle
  have s2:dq 1 (.vsl (af rest) none) (some 128) none none=some (.vsl ((af rest).drop 128) none):=sj (l:=128) hle (cp rest)
  rw [Ln] at s1
  rw [Lo] at s2
  obtain ⟨σ2,m1,m2,m3,m4⟩:=c_mix (b:=1) (v:=v) (s:=rest.take 128) (ks:=KK) (c1:=none) (c2:=none) (by rw [bU]; omega) hKl g1 aa
  simp only [Ee,x5,Ef,xZ,xY,VM,az,seval,ae,bN,aM,ES,s1,s2,m1]
  refine ih (m,O0 KK v (rest.take 128),rest.drop 128) _ _ (aV m) ⟨m2,?_,by omega,by show (rest.drop 128).length=128*m; rw [fw]; omega,g4⟩ rfl
  rw [m4 0 aa (by decide)]; exact g0
theorem lI: ∀ls:List (aw),ay (ls.map bN)=true
 | []=>rfl
 | s ::ls=>by simp only [List.map_cons,ay,AV.closed,aC,lI ls,aW]
theorem Ai: ∀ls:List (aw),eP (ls.map bN)=ls.map bN
 | []=>dt
 | s ::ls=>by rw [List.map_cons,cg,Ai ls,fW,bF]
theorem r_sha1 {a:aw} (hn:a.length < 1099511627776):cR 278 [.vsl [bN a] none]=some (bD (aB a)):=
 Fp (ls:= [a]) hn (ZA hn) (lI _) (Ai _)
theorem r_shaN {a:aw} {rest:List (aw)} (hr:0 < rest.length) (Ql:rest.length < 1099511627776) (h0:0 < a.length) (hn:(a ::rest).flatten.length < 1099511627776) :
  cR 278 [.vsl ((a ::rest).map bN) none]=some (bD (aB (a ::rest).flatten)):=
 Fp hn (c_join hr Ql (by rw [List.flatten_cons,aq]; omega) hn) (lI _) (Ai _)
def NM:=J @AB.eq_1 (J @AA.eq_1 (J @D5.eq_1 (J @uC.eq_1 (J @uA.eq_1 (J @D6.eq_1 (J @uz.eq_1 (J @uy.eq_1 (J @Nj.eq_1 (@Qd.eq_1)))))))))
def VV:=J @AB.eq_1 (J @AA.eq_1 (J @D5.eq_1 (J @uC.eq_1 (J @uA.eq_1 (J @uz.eq_1 (J @uy.eq_1 (@Qd.eq_1)))))))
def D13Fc:=J @AB.eq_1 (J @AA.eq_1 (J @D5.eq_1 (J @uC.eq_1 (J @uA.eq_1 (J @D6.eq_1 (J @uz.eq_1 (J @uy.eq_1 (@Qd.eq_1))))))))
def fA (n:Nat):Nat:=(248 - (n+1) % 128) % 128
theorem So {n k:Nat} (h:k<=fA n):(n+1+k) % 128=120↔k=fA n:=by
 unfold fA at*; omega
theorem padJ_T (n:Nat):(ld n=n+1+fA n+8∨ld n=n+1+fA n+128+8):=by
 unfold ld fA; omega
theorem MY {m j:Nat} (h:j < 8):(nC m)[j]? =some (UInt8.ofNat (m / 2 ^ (8*(7 - j)))):=by
 rw [nC,List.getElem?_reverse (by rw [aX]; omega),aX,pN,bV,List.getElem?_range aa,show 8 - 1 - j=7 - j by omega]
 rw [Option.map_some,show (256:Nat)=2 ^ 8 from rfl,←Nat.pow_mul]
theorem Q9 {n k:Nat} (hn:n < 1099511627776) (hk:k < 64):bk .shr .u64 ((8*n:Nat):Int) ((k:Nat):Int)=some (.int .u64 ((8*n / 2 ^ k:Nat):Int)):=by
 have hu:((8*n:Nat):Int)=((UInt64.ofNat (8*n)).toNat:Int):=by
  rw [bY,aO aa]
 have:=rE (UInt64.ofNat (8*n)) k hk
 rw [hu,this,U,UInt64.toNat_shiftRight,Nat.shiftRight_eq_div_pow,bY,aO (show 8*n < 2 ^ 64 by omega),bY,aO (show k < 2 ^ 64 by omega),aO hk]
theorem OJ (s:aw) (hn:s.length < 1099511627776) (σ:ag): ∃x1 σ1 b σ2,aF σ 1 1 (.vsl [] (some 0)) (af s) s.length=some (x1,σ1)/\aF σ1 1 1 x1 [.int .u8 128] 1=some (.sl b 0 (s.length+1) 1 none,σ2)/\
  look σ2.m b=some (.own (af (s ++ [128])))/\b < σ2.next:=by
 have hr:rowOf σ 1 (.vsl [] (some 0))=some []:=rfl
 cases s with
 | nil=>
  refine ⟨.vsl [] (some 0),σ,σ.next,σ.alloc [.int .u8 128],?_,?_,?_,?_⟩
  ·unfold aF
   simp only [lenOf]
   rw [if_pos ⟨by decide,by decide,by unfold aY; decide,rfl,rfl⟩]
   simp
  ·unfold aF
   simp only [lenOf]
   rw [if_pos ⟨by decide,by decide,by unfold aY; decide,rfl,rfl⟩]
   simp [hr]
  ·simp [ag.alloc,look,af]
  ·simp [ag.alloc]
 | cons c l=>
  have fV:(c ::l).length≠0:=by simp
  have hp:0 < (c ::l).length:=by simp
  generalize c ::l=s at*
  have h1:aF σ 1 1 (.vsl [] (some 0)) (af s) s.length=some (.sl σ.next 0 s.length 1 none,σ.alloc (af s)):=by
   unfold aF
   simp only [lenOf,List.length_nil]
   rw [if_pos ⟨by decide,by decide,by unfold aY; omega,by rw [aM]; omega,cp s⟩]
   simp [hr,fV]
  have h2:look (σ.alloc (af s)).m σ.next=some (.own (af s)):=by simp [ag.alloc,look]
  obtain ⟨σ4,q1,q2,q3⟩:=kD (c:=128) h2 (aM s) hp (by simp [ag.alloc]) aa
  refine ⟨_,_,_,σ4,h1,q1,?_,?_⟩
  ·rw [q2,mK]
  ·rw [q3]; exact aV _
theorem Ot {s:aw} (hn:s.length < 1099511627776):cR 335 [bN s, .int .i64 128]=some (bN (fJ s)):=by
 obtain ⟨x1,σ1,b1,σ2,a1,a2,a3,a4⟩:=OJ s hn ⟨0, []⟩
 have hT:=padJ_T s.length
 have w1:IntKind.wrap .u64 (s.length:Int)=(s.length:Int):=fI aa aa
 have w2:IntKind.wrap .u64 ((s.length:Int)*8)=((8*s.length:Nat):Int):=by rw [fI aa aa]; omega
 have v1:IntKind.wrap .i64 ((s.length:Int)+17)=((s.length+17:Nat):Int):=by rw [aU aa aa]; omega
 have v2:IntKind.wrap .i64 (((s.length+17:Nat):Int)+127)=((s.length+17+127:Nat):Int):=by rw [aU aa aa]; omega
 have v3':Int.tdiv ((s.length+17+127:Nat):Int) 128=(((s.length+17+127) / 128:Nat):Int):=rfl
 have v3:IntKind.wrap .i64 (((s.length+17+127) / 128:Nat):Int)=(((s.length+17+127) / 128:Nat):Int):=aU aa aa
 have v4:IntKind.wrap .i64 ((((s.length+17+127) / 128:Nat):Int)*128)=((ld s.length:Nat):Int):=by rw [aU aa aa]; unfold ld; omega
 have v5:IntKind.wrap .i64 (((s.length+1+fA s.length:Nat):Int)+8)=((s.length+1+fA s.length+8:Nat):Int):=by rw [aU (by have:fA s.length < 128:=aZ _ (by decide); omega) (by have:fA s.length < 128:=aZ _ (by decide); omega)]; omega
 have hJ:fA s.length < 128:=aZ _ (by decide)
 have c8:IntKind.wrap .i64 120=120:=rfl
 refine aG (F:=Qd) rfl ?_
 have r128 {σ:ag} {c:aA}:rowOf σ 1 (.vsl [.int .u8 128] c)=some [.int .u8 128]:=rfl
 simp only [AB,AA,uC,uA,uz,uy,Qd,az,seval,ae,ax,lenOf,pS,r128,aM,a1,a2]
 rw [show ((s.length+1:Nat))=s.length+1+0 from rfl]
 refine aP (S:=Nat×Nat) (fun p=> [(0,bN s),(1, .int .i64 128),(5, .sl p.2 0 (s.length+1+p.1) 1 none)]) (fun p=>fA s.length - p.1)
  (fun p σ'=>look σ'.m p.2=some (.own (af (s ++ [128] ++List.replicate p.1 0)))/\p.2 < σ'.next/\p.1<=fA s.length) ?_ (0,b1) _ ⟨by rw [List.replicate_zero,bC]; exact a3,a4,Nat.zero_le _⟩
 rintro B ⟨k,b⟩ σ3 ⟨g1,g2,g3⟩ ih
 simp only at g1 g2 g3 ih
 have Pk:Int.tmod ((s.length+1+k:Nat):Int) 128=(((s.length+1+k) % 128:Nat):Int):=rfl
 have V2:IntKind.wrap .i64 (((s.length+1+k) % 128:Nat):Int)=(((s.length+1+k) % 128:Nat):Int):=aU aa aa
 have zD:=So g3
 by_cases hk:k=fA s.length
 ·have fV:((((s.length+1+k) % 128:Nat):Int) == 120)=true:=by
   rw [beq_iff_eq]; have:=zD.2 hk; omega
  rcases hT with hT | hT
  ·have ES:decide (((ld s.length:Nat):Int) > ((s.length+1+fA s.length+8:Nat):Int))=false:=decide_eq_false aa
   subst hk
   simp only [VV,az,seval,ae,ax,Pk,V2,fV,bne,c8,lenOf,aM,v1,v2,v3',v3,v4,v5,ES,w1,w2]
   clear ih
   have hpd:s ++ [128] ++List.replicate (fA s.length) 0 ++nC (8*s.length)=fJ s:=by
    rw [fJ,show ld s.length - s.length - 9=fA s.length by omega]
   rw [show ((s.length+1+fA s.length:Nat))=s.length+1+fA s.length+0 from rfl]
   have k8: ∀j:Nat,j < 8->(nC (8*s.length))[j]? =some (UInt8.ofNat (8*s.length / 2 ^ (8*(7 - j)))):=fun j hj=>MY hj
   refine aP (S:=Nat×Nat) (fun p=> [(5, .sl p.2 0 (s.length+1+fA s.length+p.1) 1 none),(7, .int .u64 ((8*s.length:Nat):Int)),(8, .int .i64 (7 - (p.1:Int)))]) (fun p=>8 - p.1)
    (fun p σ'=>look σ'.m p.2=some (.own (af (s ++ [128] ++List.replicate (fA s.length) 0 ++(nC (8*s.length)).take p.1)))/\p.2 < σ'.next/\p.1<=8) ?_ (0,b) _ ⟨by rw [List.take_zero,bC]; exact g1,g2,Nat.zero_le _⟩
   rintro B2 ⟨j,b2⟩ σ3 ⟨k1,k2,k3⟩ iY
   simp only at k1 k2 k3 iY
   by_cases hj:j=8
   ·subst hj
    have lp:decide ((7:Int) - ((8:Nat):Int)≥0)=false:=rfl
    rw [aJ (by rw [oc]; omega)] at k1
    rw [hpd] at k1
    have hR:rbE σ3 (.sl b2 0 (s.length+1+fA s.length+8) 1 none)=some (bN (fJ s)):=by
     have gh:(af (fJ s)).length=s.length+1+(fA s.length)+8:=by rw [aM,tu]; omega
     have:=jC (d:=23) (off:=0) (n:=s.length+1+(fA s.length)+8) (c:=none) k1 aa (aC _) (by
      have:=cp (fJ s)
      rw [bG] at this ⊢
      intro x hx; have:=this x hx
      cases x <;> simp_all [AV.one,AV.notAgg])
     rw [List.drop_zero,aJ aa] at this
     unfold rbE
     rw [show bJ=23+1 from rfl,this,Option.map_some,fW,bF]
    simp only [NM,az,seval,ae,lp,hR]
   ·have lp:decide ((7:Int) - (j:Int)≥0)=true:=decide_eq_true aa
    have iS:=k8 j aa
    have gh:(af (s ++ [128] ++List.replicate (fA s.length) 0 ++(nC (8*s.length)).take j)).length=s.length+1+(fA s.length)+j:=by
     rw [aM]; simp only [aq,List.length_cons,List.length_nil,iB,bU,oc]; omega
    have hw:IntKind.wrap .i64 (7 - (j:Int) - 1)=7 - ((j+1:Nat):Int):=by rw [aU aa aa]; omega
    have uL: ∀c,(nC (8*s.length))[j]? =some c->(nC (8*s.length)).take (j+1)=(nC (8*s.length)).take j ++ [c]:=by
     intro c hc
     have hi:=(bI.1 hc).1
     rw [fM hi,(bI.1 hc).2]
    have hm8:IntKind.wrap .i64 (8*(7 - (j:Int)))=((8*(7 - j):Nat):Int):=by rw [aU aa aa]; omega
    have mD:=Q9 (n:=s.length) (k:=8*(7 - j)) hn aa
    have vq:IntKind.wrap .u8 ((8*s.length / 2 ^ (8*(7 - j)):Nat):Int)=((UInt8.ofNat (8*s.length / 2 ^ (8*(7 - j)))).toNat:Int):=by
     rw [mI,eW]
    obtain ⟨σ4,q1,q2,q3⟩:=kD (c:=UInt8.ofNat (8*s.length / 2 ^ (8*(7 - j)))) k1 gh aa k2 aa
    generalize 8*s.length / 2 ^ (8*(7 - j))=y at*
    simp only [NM,az,seval,ae,lp,hm8,mD,vq,lenOf,rowOf,AV.cells,q1,hw]
    refine iY (j+1,σ3.next) _ _ (by show 8 - (j+1) < 8 - j; omega) ⟨?_,by rw [q3]; exact aV _,by show j+1<=8; omega⟩ rfl
    show look σ4.m σ3.next=_
    rw [q2,mK,uL _ iS,bb]
  ·have ES:decide (((ld s.length:Nat):Int) > ((s.length+1+fA s.length+8:Nat):Int))=true:=decide_eq_true aa
   subst hk
   simp only [VV,az,seval,ae,ax,Pk,V2,fV,bne,c8,lenOf,aM,v1,v2,v3',v3,v4,v5,ES]
   clear ih
   rw [show ((s.length+1+fA s.length:Nat))=s.length+1+fA s.length+0 from rfl]
   refine aP (S:=Nat×Nat) (fun p=> [(0,bN s),(5, .sl p.2 0 (s.length+1+fA s.length+p.1) 1 none),(6, .int .i64 (p.1:Int))]) (fun p=>128 - p.1)
    (fun p σ'=>look σ'.m p.2=some (.own (af (s ++ [128] ++List.replicate (fA s.length+p.1) 0)))/\p.2 < σ'.next/\p.1<=128) ?_ (0,b) _ ⟨g1,g2,Nat.zero_le _⟩
   rintro B3 ⟨i,b3⟩ σ5 ⟨e1,e2,e3⟩ ih3
   simp only at e1 e2 e3 ih3
   by_cases hi:i=128
   ·subst hi
    have aR:decide (((128:Nat):Int) < 128)=false:=rfl
    simp only [D13Fc,az,seval,ae,ax,aR,lenOf,aM,w1,w2]
    clear ih3
    have hpd:s ++ [128] ++List.replicate (fA s.length+128) 0 ++nC (8*s.length)=fJ s:=by
     rw [fJ,show ld s.length - s.length - 9=fA s.length+128 by omega]
    rw [show s.length+1+fA s.length+128=s.length+1+(fA s.length+128)+0 by omega]
    have k8: ∀j:Nat,j < 8->(nC (8*s.length))[j]? =some (UInt8.ofNat (8*s.length / 2 ^ (8*(7 - j)))):=fun j hj=>MY hj
    refine aP (S:=Nat×Nat) (fun p=> [(5, .sl p.2 0 (s.length+1+(fA s.length+128)+p.1) 1 none),(7, .int .u64 ((8*s.length:Nat):Int)),(8, .int .i64 (7 - (p.1:Int)))]) (fun p=>8 - p.1)
     (fun p σ'=>look σ'.m p.2=some (.own (af (s ++ [128] ++List.replicate ((fA s.length+128)) 0 ++(nC (8*s.length)).take p.1)))/\p.2 < σ'.next/\p.1<=8) ?_ (0,b3) _ ⟨by rw [List.take_zero,bC]; exact e1,e2,Nat.zero_le _⟩
    rintro B2 ⟨j,b2⟩ σ3 ⟨k1,k2,k3⟩ iY
    simp only at k1 k2 k3 iY
    by_cases hj:j=8
    ·subst hj
     have lp:decide ((7:Int) - ((8:Nat):Int)≥0)=false:=rfl
     rw [aJ (by rw [oc]; omega)] at k1
     rw [hpd] at k1
     have hR:rbE σ3 (.sl b2 0 (s.length+1+(fA s.length+128)+8) 1 none)=some (bN (fJ s)):=by
      have gh:(af (fJ s)).length=s.length+1+((fA s.length+128))+8:=by rw [aM,tu]; omega
      have:=jC (d:=23) (off:=0) (n:=s.length+1+((fA s.length+128))+8) (c:=none) k1 aa (aC _) (by
       have:=cp (fJ s)
       rw [bG] at this ⊢
       intro x hx; have:=this x hx
       cases x <;> simp_all [AV.one,AV.notAgg])
      rw [List.drop_zero,aJ aa] at this
      unfold rbE
      rw [show bJ=23+1 from rfl,this,Option.map_some,fW,bF]
     simp only [NM,az,seval,ae,lp,hR]
    ·have lp:decide ((7:Int) - (j:Int)≥0)=true:=decide_eq_true aa
     have iS:=k8 j aa
     have gh:(af (s ++ [128] ++List.replicate ((fA s.length+128)) 0 ++(nC (8*s.length)).take j)).length=s.length+1+((fA s.length+128))+j:=by
      rw [aM]; simp only [aq,List.length_cons,List.length_nil,iB,bU,oc]; omega
     have hw:IntKind.wrap .i64 (7 - (j:Int) - 1)=7 - ((j+1:Nat):Int):=by rw [aU aa aa]; omega
     have uL: ∀c,(nC (8*s.length))[j]? =some c->(nC (8*s.length)).take (j+1)=(nC (8*s.length)).take j ++ [c]:=by
      intro c hc
      have hi:=(bI.1 hc).1
      rw [fM hi,(bI.1 hc).2]
     have hm8:IntKind.wrap .i64 (8*(7 - (j:Int)))=((8*(7 - j):Nat):Int):=by rw [aU aa aa]; omega
     have mD:=Q9 (n:=s.length) (k:=8*(7 - j)) hn aa
     have vq:IntKind.wrap .u8 ((8*s.length / 2 ^ (8*(7 - j)):Nat):Int)=((UInt8.ofNat (8*s.length / 2 ^ (8*(7 - j)))).toNat:Int):=by
      rw [mI,eW]
     obtain ⟨σ4,q1,q2,q3⟩:=kD (c:=UInt8.ofNat (8*s.length / 2 ^ (8*(7 - j)))) k1 gh aa k2 aa
     generalize 8*s.length / 2 ^ (8*(7 - j))=y at*
     simp only [NM,az,seval,ae,lp,hm8,mD,vq,lenOf,rowOf,AV.cells,q1,hw]
     refine iY (j+1,σ3.next) _ _ (by show 8 - (j+1) < 8 - j; omega) ⟨?_,by rw [q3]; exact aV _,by show j+1<=8; omega⟩ rfl
     show look σ4.m σ3.next=_
     rw [q2,mK,uL _ iS,bb]
   ·have aR:decide ((i:Int) < 128)=true:=decide_eq_true aa
    have hw:IntKind.wrap .i64 ((i:Int)+1)=((i+1:Nat):Int):=by rw [aU aa aa]; omega
    have gh:(af (s ++ [128] ++List.replicate (fA s.length+i) 0)).length=s.length+1+fA s.length+i:=by rw [aM]; simp only [aq,List.length_cons,List.length_nil,iB]; omega
    obtain ⟨σ4,q1,q2,q3⟩:=kD (c:=0) e1 gh aa e2 aa
    rw [show (((0:UInt8).toNat:Nat):Int)=0 from rfl] at q1
    simp only [D13Fc,az,seval,ae,aR,lenOf,rowOf,AV.cells,q1,hw]
    refine ih3 (i+1,σ5.next) _ _ (by show 128 - (i+1) < 128 - i; omega) ⟨?_,by rw [q3]; exact aV _,by show i+1<=128; omega⟩ rfl
    show look σ4.m σ5.next=_
    rw [q2,mK,bb,←Nat.add_assoc,List.replicate_succ']
 ·have fV:((((s.length+1+k) % 128:Nat):Int) == 120)=false:=by
   rw [cE]; intro hc; exact hk (zD.1 aa)
  have gh:(af (s ++ [128] ++List.replicate k 0)).length=s.length+1+k:=by rw [aM]; simp only [aq,List.length_cons,List.length_nil,iB]
  obtain ⟨σ4,q1,q2,q3⟩:=kD (c:=0) g1 gh aa g2 aa
  rw [show (((0:UInt8).toNat:Nat):Int)=0 from rfl] at q1
  simp only [VV,az,seval,ae,Pk,V2,fV,bne,c8,lenOf,rowOf,AV.cells,q1]
  refine ih (k+1,σ3.next) _ _ (by show fA s.length - (k+1) < fA s.length - k; omega) ⟨?_,by rw [q3]; exact aV _,by show k+1<=fA s.length; omega⟩ rfl
  show look σ4.m σ3.next=_
  rw [q2,mK,bb,List.replicate_succ']
theorem Vb (l:aw) (c:UInt8):Qv (l ++ [c])=Qv l <<< 8 ||| c.toUInt64:=by
 rw [Qv,Qv,List.foldl_append]; rfl
def WB (s:aw) (j q:Nat):AV:=U (Qv ((s.drop (8*q)).take (min 8 (j - 8*q))))
def Qj (s:aw) (j:Nat):ai:=(List.range 16).map (WB s j) ++List.replicate 64 (.int .u64 0)
theorem Wv (s:aw) (j:Nat):(Qj s j).length=80:=by simp [Qj]
theorem wsB_at (s:aw) {j q:Nat} (h:q < 16):(Qj s j)[q]? =some (WB s j q):=by
 rw [Qj,eX (by simpa using h),bV,List.getElem?_range h]; rfl
theorem WY {f g:Nat->AV} {i n:Nat} {x:AV} (hi:i < n) (h: ∀q,q < n->q≠i->f q=g q) (hx:g i=x) (T:ai) :
  ((List.range n).map f ++T).take i ++ [x] ++((List.range n).map f ++T).drop (i+1)=(List.range n).map g ++T:=by
 have hl:i < ((List.range n).map f ++T).length:=by simp; omega
 have e:=List.set_eq_take_append_cons_drop (l:=(List.range n).map f ++T) (i:=i) (a:=x)
 rw [if_pos hl] at e
 rw [bb,List.singleton_append,←e]
 apply List.ext_getElem?
 intro q
 rw [List.getElem?_set]
 by_cases hq:i=q
 ·subst hq
  rw [if_pos rfl,if_pos hl,eX (by simpa using hi),bV,List.getElem?_range hi,Option.map_some,hx]
 ·rw [if_neg hq]
  by_cases hn:q < n
  ·rw [eX (by simpa using hn),eX (by simpa using hn),bV,bV,List.getElem?_range hn,Option.map_some,Option.map_some,h q hn (Ne.symm hq)]
  ·rw [eI (by simp; omega),eI (by simp; omega)]; simp
theorem Wu (s:aw) {j:Nat} {c:UInt8} (hj:j < 128) (hc:s[j]? =some c) :
  (Qj s j).take (j / 8) ++ [U (Qv ((s.drop (8*(j / 8))).take (j % 8)) <<< 8 ||| c.toUInt64)] ++(Qj s j).drop (j / 8+1)=Qj s (j+1):=by
 refine WY aa (fun q hq fV=> ?_) ?_ _
 ·unfold WB
  rw [show min 8 (j - 8*q)=min 8 (j+1 - 8*q) by omega]
 ·unfold WB
  have hd:(s.drop (8*(j / 8)))[j % 8]? =some c:=by
   rw [List.getElem?_drop,show 8*(j / 8)+j % 8=j by omega,hc]
  have hi:=(bI.1 hd).1
  rw [show min 8 (j+1 - 8*(j / 8))=j % 8+1 by omega,fM hi,(bI.1 hd).2,Vb]
theorem WA (s:aw) (j:Nat):WB s j (j / 8)=U (Qv ((s.drop (8*(j / 8))).take (j % 8))):=by
 unfold WB; rw [show min 8 (j - 8*(j / 8))=j % 8 by omega]
theorem QF (s:aw):Qj s 0=List.replicate 80 (.int .u64 0):=by
 have:(List.range 16).map (WB s 0)=List.replicate 16 (.int .u64 0):=by
  apply List.eq_replicate_iff.2
  refine ⟨by simp,fun b hb=> ?_⟩
  rw [List.mem_map] at hb
  obtain ⟨q,_,rfl⟩:=hb
  unfold WB
  rw [show min 8 (0 - 8*q)=0 by omega,List.take_zero]; rfl
 rw [Qj,this]; rfl
theorem Ww (s:aw):Qj s 128=wP s 16:=by
 rw [Qj,wP,ku,if_pos (by decide),DE,List.map_map]
 refine congrArg (· ++_) ?_
 apply List.map_congr_left
 intro q hq
 have:=List.mem_range.1 hq
 unfold WB
 rw [show min 8 (128 - 8*q)=8 by omega]; rfl
theorem Yp (l:List UInt64):zf l=l.getD (l.length - 16) 0+l.getD (l.length - 7) 0+Q6 (l.getD (l.length - 15) 0)+Q5 (l.getD (l.length - 2) 0):=by
 have e: ∀a b c:UInt64,a+b+c=a+c+b:=fun a b c=>by rw [UInt64.add_assoc,UInt64.add_comm b,←UInt64.add_assoc]
 rw [zf,e (l.getD (l.length - 16) 0)]
theorem Rx:cR 333 []=some (.agg (KK.map U)):=cQ 100 (by kernel_rfl)
theorem RB:cR 334 []=some (.agg HH.cells):=cQ 100 (by kernel_rfl)
theorem WO (u:V8) (y w:UInt64):Bb u (w+y)=
  ⟨u.h+(rotl u.e 50 ^^^ rotl u.e 46 ^^^ rotl u.e 23)+((u.e &&& u.f) ^^^ (~~~u.e &&& u.g))+y+w+((rotl u.a 36 ^^^ rotl u.a 30 ^^^ rotl u.a 25)+((u.a &&& u.b) ^^^ (u.a &&& u.c) ^^^ (u.b &&& u.c))),u.a,u.b,u.c,
  u.d+(u.h+(rotl u.e 50 ^^^ rotl u.e 46 ^^^ rotl u.e 23)+((u.e &&& u.f) ^^^ (~~~u.e &&& u.g))+y+w),u.e,u.f,u.g⟩:=by
 have e: ∀z:UInt64,z+(w+y)=z+y+w:=fun z=>by rw [UInt64.add_comm w y,UInt64.add_assoc]
 simp only [Bb,e]
end Go.Ab
