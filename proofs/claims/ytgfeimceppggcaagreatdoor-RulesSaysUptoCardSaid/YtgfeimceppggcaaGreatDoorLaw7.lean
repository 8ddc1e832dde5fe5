/- What functions of the program, and of the library, answer. Conditions: none. -/
import Derived.Test.YtgfeimceppggcaaGreatDoorLaw6
set_option linter.unusedVariables false
set_option linter.unusedSimpArgs false
set_option linter.defProp false
set_option linter.unnecessarySimpa false
namespace Go.Ab
set_option maxRecDepth 100000
set_option maxHeartbeats 1000000
def H2Fe:=J @uT.eq_1 (J @uR.eq_1 (J @qo.eq_1 (J @K3.eq_1 (J @qm.eq_1 (J @s7.eq_1 (J @ql.eq_1 (J @qk.eq_1 (J @qj.eq_1 (J @qi.eq_1 (@IJ.eq_1))))))))))
theorem zQ: ∀n l,xG (n+1) l=xG n l ++ [xW (xG n l)]
 | 0,l=>rfl
 | n+1,l=>by rw [xG,zQ n,←xG]
def jY (s:aG) (i:Nat):List UInt64:=if i<=16 then Cb s i else xG (i - 16) (Cb s 16)
theorem FA (s:aG) (n:Nat):(Cb s n).length=n:=by simp [Cb]
theorem iJ (s:aG) (i:Nat):(jY s i).length=i:=by
 unfold jY; split
 ·exact FA _ _
 ·rw [DE,FA]; omega
theorem wsI_lo (s:aG) {i:Nat} (h:i < 16):jY s (i+1)=jY s i ++ [Om ((s.drop (8*i)).take 8)]:=by
 unfold jY
 rw [if_pos aa,if_pos aa,Cb,List.range_succ,List.map_append]; rfl
theorem OA (s:aG) {i:Nat} (h:16<=i):jY s (i+1)=jY s i ++ [xW (jY s i)]:=by
 have e:jY s i=xG (i - 16) (Cb s 16):=by
  unfold jY; split
  ·have:i=16:=by omega
   subst this; rfl
  ·rfl
 rw [e,jY,if_neg aa,show i+1 - 16=i - 16+1 by omega,zQ]
def vI (s:aG) (i:Nat):ai:=(jY s i).map U ++List.replicate (80 - i) (.int .u64 0)
theorem vS (s:aG) {i:Nat} (h:i<=80):(vI s i).length=80:=by
 simp [vI,iJ]; omega
theorem mJ (s:aG) {i j:Nat} (h:j < i):(vI s i)[j]? =some (U ((jY s i).getD j 0)):=by
 rw [vI,eQ (by rw [aH,iJ]; exact h),bO,a9,bo (by rw [iJ]; exact h)]; rfl
theorem Uw (s:aG) {i:Nat} (h:i < 80):(vI s i)[i]? =some (.int .u64 0):=by
 rw [vI,fK (by rw [aH,iJ]; omega),aH,iJ,Nat.sub_self,List.getElem?_replicate,if_pos aa]
theorem AY (s:aG) {i:Nat} (h:i < 80) {x:UInt64} (hx:jY s (i+1)=jY s i ++ [x]):(vI s i).take i ++ [U x] ++(vI s i).drop (i+1)=vI s (i+1):=by
 have hl:((jY s i).map U).length=i:=by rw [aH,iJ]
 rw [vI,vI,hx,List.map_append,List.take_left' hl,show (80 - i)=(80 - (i+1))+1 by omega,List.replicate_succ,List.append_cons ((jY s i).map U) (.int .u64 0) (List.replicate (80 - (i+1)) (.int .u64 0))]
 rw [List.drop_left' (by rw [az,hl]; rfl)]
 rfl
theorem ex8 {s:aG} (h:s.length=8): ∃b0 b1 b2 b3 b4 b5 b6 b7,s= [b0,b1,b2,b3,b4,b5,b6,b7]:=by
 match s,h with
 | [b0,b1,b2,b3,b4,b5,b6,b7],_=>exact ⟨b0,b1,b2,b3,b4,b5,b6,b7,rfl⟩
theorem LN {cs:ai} {c:aD} {l n:Nat} (h1:l<=n) (h:n<=cs.length) (ho:cs.all AV.one=true):dd 1 (.vsl cs c) (some (l:Int)) (some (n:Int)) none=some (.vsl ((cs.take n).drop l) (c.map (· - l))):=by
 have e1:(cs.all fun e=>e.cells.length == 1)=true:=by
  rw [bj] at ho ⊢
  intro x hx
  have:=ho x hx
  cases x <;> simp_all [AV.one,AV.cells]
 have e2:(0:Int)<=(l:Int)/\(l:Int)<=(n:Int)/\(n:Int)<=(cs.length:Int):=by omega
 simp only [dd,bounds,Option.getD_some,if_pos e2,e1,or_true,if_true,Int.toNat_natCast]
theorem ZX {els:ai} {c:aD} {i:Int} (h0:0<=i):idxOf 1 none (.vsl els c) (.int .i64 i)=(els[i.toNat]?).bind fun e=>if e.cells.length=1 then some (.vptr e.cells 0) else none:=by
 simp only [idxOf,h0,if_true]
 cases els[i.toNat]? <;> rfl
def putAt (l:ai) (i:Nat) (x:AV):ai:=l.take i ++ [x] ++l.drop (i+1)
theorem PH {l:ai} {i:Nat} {x:AV}:l.take i ++ [x] ++l.drop (i+1)=putAt l i x:=rfl
theorem VM {l:ai} {i:Nat} {x:AV} (h:i < l.length):(putAt l i x).length=l.length:=by
 simp [putAt]; omega
theorem put_at {l:ai} {i:Nat} {x:AV} (h:i < l.length):(putAt l i x)[i]? =some x:=by
 rw [putAt,bf,fK (by rw [bE]; omega),bE,Nat.min_eq_left aa,Nat.sub_self]; rfl
theorem VL {l:ai} {i:Nat} {x y:AV} (h:i < l.length):putAt (putAt l i x) i y=putAt l i y:=by
 have e:(l.take i).length=i:=by simp; omega
 have e2:(l.take i ++ [x]).length=i+1:=by rw [az,e]; rfl
 unfold putAt
 rw [List.drop_left' e2,bf (l.take i) [x],List.take_left' e]
theorem qZ: ∀(l m:List UInt64) (v:V8),gF v (l ++m)=gF (gF v l) m
 | [],m,v=>rfl
 | x ::l,m,v=>by rw [List.cons_append,gF,qZ l m,gF]
theorem c_mix {b:Nat} {v:V8} {s:aG} {ks:List UInt64} {c1 c2:aD} {σ:ag} (hs:s.length=128) (hk:ks.length=80) (h:look σ.m b=some (.own v.cells)) (hn:b < σ.next) :
  ∃σ',cf cF gU (.fn 342 [] []) [.ptr b 0, .vsl (af s) c1, .vsl (ks.map U) c2] σ=some (.tup [],σ')/\look σ'.m b=some (.own (MN ks v s).cells)/\σ.next<=σ'.next/\∀j,j < σ.next->j≠b->look σ'.m j=look σ.m j:=by
 refine uC (F:=IJ) rfl ?_
 have nu (k:Nat): ¬b=σ.next+k:=by omega
 have E5: ¬b=σ.next:=by omega
 have hb'' (k:Nat): ¬σ.next+k=b:=by omega
 have zE: ¬σ.next=b:=by omega
 simp only [uT,uR,qo,qm,ql,qk,qj,qi,IJ,ax,seval,ay]
 refine aL (S:=Nat) (fun i=> [(0, .ptr b 0),(1, .vsl (af s) c1),(2, .vsl (ks.map U) c2),(6, .ptr σ.next 0),(19, .int .i64 (i:Int))]) (fun i=>80 - i)
  (fun i σ'=>look σ'.m b=some (.own v.cells)/\look σ'.m σ.next=some (.own (vI s i))/\σ.next < σ'.next/\(∀j,j < σ.next->j≠b->look σ'.m j=look σ.m j)/\i<=80) ?_ 0 _ ?_
 ·rintro B i σ1 ⟨g0,g1,g2,g3,hi⟩ ih
  by_cases h80:i=80
  ·subst h80
   have gt:decide (((80:Nat):Int) < 80)=false:=rfl
   have hlen:=vS s (i:=80) (by decide)
   have tq:(vI s 80).take 80=vI s 80:=aQ aa
   have hW:vI s 80=(jY s 80).map U:=by rw [vI,Nat.sub_self,List.replicate_zero,bm]
   have fX: ¬σ1.next=σ.next:=by omega
   have E4: ¬b=σ1.next:=by omega
   have Nh: ¬σ1.next=b:=by omega
   have dx:(vI s 80).all AV.one=true:=by
    rw [hW,List.all_map]; simp [AV.one]
   unfold V8.cells at g0
   simp only [uT,uR,qo,qm,s7,ql,qk,qj,qi,IJ,ax,seval,ae,gt,ay,cy,g0,g1,hlen,tq,dx,fX]
   refine aL (S:=Nat) (fun i=> [(0, .ptr b 0),(2, .vsl (ks.map U) c2),(14, .ptr σ1.next 0),(15, .fn 377 [.ptr b 0] []),(91, .agg (vI s 80)),(92, .int .i64 (i:Int))]) (fun i=>80 - i)
    (fun i σ'=>look σ'.m b=some (.own (gF v ((lU (jY s 80) ks).take i)).cells)/\look σ'.m σ1.next=some (.own v.cells)/\σ1.next < σ'.next/\(∀j,j < σ.next->j≠b->look σ'.m j=look σ.m j)/\i<=80) ?_ 0 _ ?_
   ·rintro B2 i σ2 ⟨k0,k1,k2,k3,tu⟩ ir
    by_cases h82:i=80
    ·subst h82
     have hL:(lU (jY s 80) ks).length=80:=by rw [lU,List.length_zipWith,iJ,hk]; rfl
     rw [aQ aa] at k0
     have hmix:MN ks v s=v.add (gF v (lU (jY s 80) ks)):=rfl
     rw [hmix]
     generalize gF v (lU (jY s 80) ks)=r at*
     unfold V8.cells at k0 k1
     clear ih ir
     simp only [uT,uR,qo,qm,s7,ql,qk,Cx,qj,qi,K2,IJ,ax,seval,ae,gt,ay,aT,cy,@aP,@bk,k0,k1,E4,Nh]
     refine ⟨?_,by omega,fun j hj An=> ?_⟩
     ·simp only [k9,V8.add,V8.cells,UInt64.add_comm]
     ·have e2: ¬b=j:=fun e=>An e.symm
      simp only [e2,if_false]
      exact k3 j hj An
    ·have aN:decide ((i:Int) < 80)=true:=decide_eq_true aa
     have w2:IntKind.wrap .i64 ((i:Int)+1)=((i+1:Nat):Int):=by rw [aP aa aa]; omega
     have hiv:=j8 (n:=80) (k:= .i64) (cs:=vI s 80) (i:=(i:Int)) aa aa
     have iD:=mJ s (i:=80) (j:=i) aa
     obtain ⟨y,hy⟩ : ∃y,ks[i]? =some y:=⟨ks[i]'(by omega),bo aa⟩
     have hym:(ks.map U)[i]? =some (U y):=by rw [bO,hy]; rfl
     have vl:=oc (sz:=1) (c:=c2) hym rfl
     have hL:(lU (jY s 80) ks)[i]? =some ((jY s 80).getD i 0+y):=by
      have hw:(jY s 80)[i]? =some ((jY s 80).getD i 0):=by
       rw [a9,bo (by rw [iJ]; omega)]; rfl
      rw [lU,List.getElem?_zipWith,hw,hy]
     have ht:=c_turn (x:=(jY s 80).getD i 0+y) k0
     have EM:(lU (jY s 80) ks).take (i+1)=(lU (jY s 80) ks).take i ++ [(jY s 80).getD i 0+y]:=by
      have hi:=(bA.1 hL).1
      rw [eR hi,(bA.1 hL).2]
     simp only [U] at vl iD ht
     simp only [AV.cells] at vl
     simp only [Int.toNat_natCast] at hiv
     simp only [uT,uR,qo,qm,s7,ql,qk,Cx,qj,qi,IJ,ax,seval,ae,aN,w2,hiv,iD,vl,ht,k9]
     refine ir (i+1) _ _ aa ⟨?_,?_,k2,?_,by omega⟩ rfl
     ·rw [EM,qZ]; simp [look]; rfl
     ·simpa [look,E4] using k1
     ·intro j hj An
      have e2: ¬b=j:=fun e=>An e.symm
      simpa [look,e2] using k3 j hj An
   ·refine ⟨?_,?_,aR _,?_,by decide⟩
    ·simpa [look,Nh,gF,V8.cells] using g0
    ·simp [look,V8.cells]
    ·intro j hj An
     have e2: ¬σ1.next=j:=by omega
     simpa [look,e2] using g3 j hj An
  ·by_cases h16:i < 16
   ·have aN:decide ((i:Int) < 80)=true:=decide_eq_true aa
    have sK:decide ((i:Int) < 16)=true:=decide_eq_true aa
    have w1:IntKind.wrap .i64 (8*(i:Int))=((8*i:Nat):Int):=by rw [aP aa aa]; omega
    have w2:IntKind.wrap .i64 ((i:Int)+1)=((i+1:Nat):Int):=by rw [aP aa aa]; omega
    have w3:IntKind.wrap .i64 (8*((i+1:Nat):Int))=((8*(i+1):Nat):Int):=by rw [aP aa aa]; omega
    have wk:=LN (cs:=af s) (c:=c1) (l:=8*i) (n:=8*(i+1)) aa (by rw [af,aH]; omega) (cI s)
    have hch:((af s).take (8*(i+1))).drop (8*i)=af ((s.drop (8*i)).take 8):=by
     rw [af,←List.map_take,←List.map_drop,List.drop_take,show 8*(i+1) - 8*i=8 by omega]; rfl
    obtain ⟨b0,b1,b2,b3,b4,b5,b6,b7,he⟩:=ex8 (s:=(s.drop (8*i)).take 8) (by simp; omega)
    rw [hch,he,show af [b0,b1,b2,b3,b4,b5,b6,b7]= [.int .u8 (b0.toNat:Int), .int .u8 (b1.toNat:Int), .int .u8 (b2.toNat:Int), .int .u8 (b3.toNat:Int), .int .u8 (b4.toNat:Int), .int .u8 (b5.toNat:Int), .int .u8 (b6.toNat:Int), .int .u8 (b7.toNat:Int)] from rfl] at wk
    have hx:=iu (k:= .i64) (n:=80) (b:=σ.next) (j:=i) aa
    have iD:=Uw s (i:=i) aa
    have s80:aY .shl .u64 0 8=some (.int .u64 0):=rfl
    have sl8 (x:UInt64):aY .shl .u64 (x.toNat:Int) 8=some (U (x <<< 8)):=Gm x 8 (by decide)
    have hlen:=vS s hi
    have ka:=AY s (i:=i) aa (wsI_lo s h16)
    have hle:i < (vI s i).length:=by omega
    have pa {x:AV}:=put_at (x:=x) hle
    have pl {x:AV}:=VM (x:=x) hle
    have pp {x y:AV}:=VL (x:=x) (y:=y) hle
    have h79:i<=79:=by omega
    have hbe:Om [b0,b1,b2,b3,b4,b5,b6,b7]=((((((((b0.toUInt64 <<< 8 ||| b1.toUInt64) <<< 8) ||| b2.toUInt64) <<< 8 ||| b3.toUInt64) <<< 8 ||| b4.toUInt64) <<< 8 ||| b5.toUInt64) <<< 8 ||| b6.toUInt64) <<< 8 ||| b7.toUInt64):=by
     simp [Om]
    rw [he,hbe] at ka
    simp only [U] at ka sl8
    simp only [H2Fe,ax,seval,ae,ay,aT,aN,sK,w1,w2,w3,wk,hx,g1,iD,hlen,sl8,tF,rP,iy,@ZX,Option.bind_some,s80,Wf,PH,pa,pl,pp,h79,@aP]
    refine aT.1 (ih (i+1) [(0, .ptr b 0),(1, .vsl (af s) c1),(2, .vsl (ks.map U) c2),(6, .ptr σ.next 0),(19, .int .i64 ((i+1:Nat):Int))] _ aa ⟨?_,?_,?_,?_,by omega⟩ rfl)
    ·simpa [look,zE] using g0
    ·rw [←ka]; simp [look,putAt]
    ·exact g2
    ·intro j hj An
     have e2: ¬σ.next=j:=by omega
     simpa [look,e2] using g3 j hj An
   ·have aN:decide ((i:Int) < 80)=true:=decide_eq_true aa
    have sK:decide ((i:Int) < 16)=false:=decide_eq_false aa
    have w2:IntKind.wrap .i64 ((i:Int)+1)=((i+1:Nat):Int):=by rw [aP aa aa]; omega
    have v15:IntKind.wrap .i64 ((i:Int) - 15)=((i - 15:Nat):Int):=by rw [aP aa aa]; omega
    have v2:IntKind.wrap .i64 ((i:Int) - 2)=((i - 2:Nat):Int):=by rw [aP aa aa]; omega
    have v16:IntKind.wrap .i64 ((i:Int) - 16)=((i - 16:Nat):Int):=by rw [aP aa aa]; omega
    have v7:IntKind.wrap .i64 ((i:Int) - 7)=((i - 7:Nat):Int):=by rw [aP aa aa]; omega
    have hx:=iu (k:= .i64) (n:=80) (b:=σ.next) (j:=i) aa
    have hx15:=iu (k:= .i64) (n:=80) (b:=σ.next) (j:=i - 15) aa
    have nt:=iu (k:= .i64) (n:=80) (b:=σ.next) (j:=i - 2) aa
    have hx16:=iu (k:= .i64) (n:=80) (b:=σ.next) (j:=i - 16) aa
    have hx7:=iu (k:= .i64) (n:=80) (b:=σ.next) (j:=i - 7) aa
    have a15:=mJ s (i:=i) (j:=i - 15) aa
    have a2:=mJ s (i:=i) (j:=i - 2) aa
    have a16:=mJ s (i:=i) (j:=i - 16) aa
    have a7:=mJ s (i:=i) (j:=i - 7) aa
    have hlen:=vS s hi
    have ka:=AY s (i:=i) aa (OA s aa)
    have h79:i<=79:=by omega
    have r1 {y:UInt64}:=iX (x:=y) (k:= -1) (j:=63) (by kernel_rfl) (by decide) (by decide)
    have r2 {y:UInt64}:=iX (x:=y) (k:= -8) (j:=56) (by kernel_rfl) (by decide) (by decide)
    have r3 {y:UInt64}:=iX (x:=y) (k:= -19) (j:=45) (by kernel_rfl) (by decide) (by decide)
    have r4 {y:UInt64}:=iX (x:=y) (k:= -61) (j:=3) (by kernel_rfl) (by decide) (by decide)
    have sr7 (x:UInt64):aY .shr .u64 (x.toNat:Int) 7=some (U (x >>> 7)):=qB x 7 (by decide)
    have sr6 (x:UInt64):aY .shr .u64 (x.toNat:Int) 6=some (U (x >>> 6)):=qB x 6 (by decide)
    have ES:xW (jY s i)=(jY s i).getD (i - 16) 0+OX ((jY s i).getD (i - 15) 0)+(jY s i).getD (i - 7) 0+OW ((jY s i).getD (i - 2) 0):=by rw [xW,iJ]
    rw [ES] at ka
    simp only [OX,OW] at ka
    simp only [U] at ka a15 a2 a16 a7 r1 r2 r3 r4 sr7 sr6
    simp only [H2Fe,ax,seval,ae,aN,sK,w2,v15,v2,v16,v7,hx,hx15,nt,hx16,hx7,g1,a15,a2,a16,a7,hlen,r1,r2,r3,r4,sr7,sr6,k9,Dr,iy,h79,ka]
    refine ih (i+1) _ _ aa ⟨?_,by simp [look],g2,?_,by omega⟩ rfl
    ·simpa [look,zE] using g0
    ·intro j hj An
     have e2: ¬σ.next=j:=by omega
     simpa [look,e2] using g3 j hj An
 ·refine ⟨?_,?_,aR _,?_,by decide⟩
  ·simpa [look,zE] using h
  ·simp [look,vI,jY,Cb,List.replicate]
  ·intro j hj An
   have e2: ¬σ.next=j:=by omega
   simp [look,e2]
theorem wq8 (a0 a1 a2 a3 a4 a5 a6 a7:UInt64):uz (v4 a0 a1 a2 a3+aM*v4 a4 a5 a6 a7)= [U a0,U a1,U a2,U a3,U a4,U a5,U a6,U a7]:=by
 have key (n:Nat) (a:UInt64) (i:Nat) (h:n / 18446744073709551616 ^ i % 18446744073709551616=a.toNat):wq n i=a:=UInt64.toNat.inj (by rw [kZ,h])
 have h0:=a0.toNat_lt; have h1:=a1.toNat_lt; have h2:=a2.toNat_lt; have h3:=a3.toNat_lt; have h4:=a4.toNat_lt; have h5:=a5.toNat_lt; have h6:=a6.toNat_lt; have h7:=a7.toNat_lt
 have e:v4 a0 a1 a2 a3+aM*v4 a4 a5 a6 a7=a0.toNat+18446744073709551616*(a1.toNat+18446744073709551616*(a2.toNat+18446744073709551616*(a3.toNat+18446744073709551616*(a4.toNat+18446744073709551616*(a5.toNat+18446744073709551616*(a6.toNat+18446744073709551616*a7.toNat)))))):=by
  unfold v4 aM; omega
 rw [e]
 have st (a:UInt64) (m:Nat):(a.toNat+18446744073709551616*m) / 18446744073709551616=m:=by have:=a.toNat_lt; omega
 have sm (a:UInt64) (m:Nat):(a.toNat+18446744073709551616*m) % 18446744073709551616=a.toNat:=by have:=a.toNat_lt; omega
 have q0 (n:Nat):n / 18446744073709551616 ^ 0=n:=by rw [Nat.pow_zero,Nat.div_one]
 have qs (n i:Nat):n / 18446744073709551616 ^ (i+1)=n / 18446744073709551616 / 18446744073709551616 ^ i:=by rw [Nat.pow_succ',cL]
 unfold uz
 congr 1
 ·rw [key _ a0 0 (by rw [q0,sm])]
 congr 1
 ·rw [key _ a1 1 (by rw [qs,st,q0,sm])]
 congr 1
 ·rw [key _ a2 2 (by rw [qs,st,qs,st,q0,sm])]
 congr 1
 ·rw [key _ a3 3 (by rw [qs,st,qs,st,qs,st,q0,sm])]
 congr 1
 ·rw [key _ a4 4 (by rw [qs,st,qs,st,qs,st,qs,st,q0,sm])]
 congr 1
 ·rw [key _ a5 5 (by rw [qs,st,qs,st,qs,st,qs,st,qs,st,q0,sm])]
 congr 1
 ·rw [key _ a6 6 (by rw [qs,st,qs,st,qs,st,qs,st,qs,st,qs,st,q0,sm])]
 congr 1
 ·rw [key _ a7 7 (by rw [qs,st,qs,st,qs,st,qs,st,qs,st,qs,st,qs,st,q0]; omega)]
theorem YI:256 ^ 64=T512:=by decide+kernel
theorem leN64 (b0 b1 b2 b3 b4 b5 b6 b7 b8 b9 fJ fI fG fF fE fD eY fC fB fA fy fx fw fu fe ft fq fk fj fh fg fb Ul Yt Ys Yr Yq Yp Yo Yn Uk Ym Yl Yk Yj Yi Yh Yg Uj Yf Ye Yd Yc Yb Ya X9 X8 X7 X6 X5 X4 X0 XZ Cc:UInt8):bL [b0,b1,b2,b3,b4,b5,b6,b7,b8,b9,fJ,fI,fG,fF,fE,fD,eY,fC,fB,fA,fy,fx,fw,fu,fe,ft,fq,fk,fj,fh,fg,fb,Ul,Yt,Ys,Yr,Yq,Yp,Yo,Yn,Uk,Ym,Yl,Yk,Yj,Yi,Yh,Yg,Uj,Yf,Ye,Yd,Yc,Yb,Ya,X9,X8,X7,X6,X5,X4,X0,XZ,Cc]=v4 (w8 b0 b1 b2 b3 b4 b5 b6 b7) (w8 b8 b9 fJ fI fG fF fE fD) (w8 eY fC fB fA fy fx fw fu) (w8 fe ft fq fk fj fh fg fb)+aM*v4 (w8 Ul Yt Ys Yr Yq Yp Yo Yn) (w8 Uk Ym Yl Yk Yj Yi Yh Yg) (w8 Uj Yf Ye Yd Yc Yb Ya X9) (w8 X8 X7 X6 X5 X4 X0 XZ Cc):=by
 have e8 (a0 a1 a2 a3 a4 a5 a6 a7:UInt8) (l:aG):bL (a0 ::a1 ::a2 ::a3 ::a4 ::a5 ::a6 ::a7 ::l)=bL [a0,a1,a2,a3,a4,a5,a6,a7]+18446744073709551616*bL l:=by
  simp only [bL]; omega
 rw [e8 b0,e8 b8,e8 eY,e8 fe,e8 Ul,e8 Uk,e8 Uj]
 unfold v4 aM
 simp only [xz]
 have g (l:aG): ∃n,bL l=n:=⟨_,rfl⟩
 omega
theorem w_ofL (b0 b1 b2 b3 b4 b5 b6 b7 b8 b9 fJ fI fG fF fE fD eY fC fB fA fy fx fw fu fe ft fq fk fj fh fg fb Ul Yt Ys Yr Yq Yp Yo Yn Uk Ym Yl Yk Yj Yi Yh Yg Uj Yf Ye Yd Yc Yb Ya X9 X8 X7 X6 X5 X4 X0 XZ Cc:UInt8) {R:Nat} {c:aG} (h:cR 360 [.agg [U (w8 b0 b1 b2 b3 b4 b5 b6 b7),U (w8 b8 b9 fJ fI fG fF fE fD),U (w8 eY fC fB fA fy fx fw fu),U (w8 fe ft fq fk fj fh fg fb),U (w8 Ul Yt Ys Yr Yq Yp Yo Yn),U (w8 Uk Ym Yl Yk Yj Yi Yh Yg),U (w8 Uj Yf Ye Yd Yc Yb Ya X9),U (w8 X8 X7 X6 X5 X4 X0 XZ Cc)]]=some (aw R)) (h2:cR 308 [aw R]=some (bG c)) (hc:c.length=32):cR 305 [.vsl [.int .u8 (b0.toNat:Int), .int .u8 (b1.toNat:Int), .int .u8 (b2.toNat:Int), .int .u8 (b3.toNat:Int), .int .u8 (b4.toNat:Int), .int .u8 (b5.toNat:Int), .int .u8 (b6.toNat:Int), .int .u8 (b7.toNat:Int), .int .u8 (b8.toNat:Int), .int .u8 (b9.toNat:Int), .int .u8 (fJ.toNat:Int), .int .u8 (fI.toNat:Int), .int .u8 (fG.toNat:Int), .int .u8 (fF.toNat:Int), .int .u8 (fE.toNat:Int), .int .u8 (fD.toNat:Int), .int .u8 (eY.toNat:Int), .int .u8 (fC.toNat:Int), .int .u8 (fB.toNat:Int), .int .u8 (fA.toNat:Int), .int .u8 (fy.toNat:Int), .int .u8 (fx.toNat:Int), .int .u8 (fw.toNat:Int), .int .u8 (fu.toNat:Int), .int .u8 (fe.toNat:Int), .int .u8 (ft.toNat:Int), .int .u8 (fq.toNat:Int), .int .u8 (fk.toNat:Int), .int .u8 (fj.toNat:Int), .int .u8 (fh.toNat:Int), .int .u8 (fg.toNat:Int), .int .u8 (fb.toNat:Int), .int .u8 (Ul.toNat:Int), .int .u8 (Yt.toNat:Int), .int .u8 (Ys.toNat:Int), .int .u8 (Yr.toNat:Int), .int .u8 (Yq.toNat:Int), .int .u8 (Yp.toNat:Int), .int .u8 (Yo.toNat:Int), .int .u8 (Yn.toNat:Int), .int .u8 (Uk.toNat:Int), .int .u8 (Ym.toNat:Int), .int .u8 (Yl.toNat:Int), .int .u8 (Yk.toNat:Int), .int .u8 (Yj.toNat:Int), .int .u8 (Yi.toNat:Int), .int .u8 (Yh.toNat:Int), .int .u8 (Yg.toNat:Int), .int .u8 (Uj.toNat:Int), .int .u8 (Yf.toNat:Int), .int .u8 (Ye.toNat:Int), .int .u8 (Yd.toNat:Int), .int .u8 (Yc.toNat:Int), .int .u8 (Yb.toNat:Int), .int .u8 (Ya.toNat:Int), .int .u8 (X9.toNat:Int), .int .u8 (X8.toNat:Int), .int .u8 (X7.toNat:Int), .int .u8 (X6.toNat:Int), .int .u8 (X5.toNat:Int), .int .u8 (X4.toNat:Int), .int .u8 (X0.toNat:Int), .int .u8 (XZ.toNat:Int), .int .u8 (Cc.toNat:Int)] none]=some (bG c):=by
 have hl:(af c).length=32:=by rw [af,aH,hc]
 have ht:(af c).take 32=af c:=aQ aa
 refine aC (F:=F305) rfl ?_
 simp only [bG,aw,U,w8] at h h2 ⊢
 simp only [F305,ax,seval,ae,ay,aT,@aP,@bk,@qN,@j8,@ZX,Option.bind_some,AV.cells,@O2,tF,Wf,rP,iy,h,h2,hl,ht,aK,bS,cI]
theorem r_rOfL {s:aG} (h:s.length=64):cR 305 [.vsl (af s) none]=some (bG (toLE 32 (bL s % LL))):=by
 obtain ⟨a,b,rfl,ha,hb⟩ : ∃a b,s=a ++b/\a.length=32/\b.length=32:=⟨s.take 32,s.drop 32,(ep 32 s).symm,by rw [bE]; omega,by rw [gA]; omega⟩
 obtain ⟨b0,b1,b2,b3,b4,b5,b6,b7,b8,b9,fJ,fI,fG,fF,fE,fD,eY,fC,fB,fA,fy,fx,fw,fu,fe,ft,fq,fk,fj,fh,fg,fb,rfl⟩:=Np ha
 obtain ⟨Ul,Yt,Ys,Yr,Yq,Yp,Yo,Yn,Uk,Ym,Yl,Yk,Yj,Yi,Yh,Yg,Uj,Yf,Ye,Yd,Yc,Yb,Ya,X9,X8,X7,X6,X5,X4,X0,XZ,Cc,rfl⟩:=Np hb
 clear h ha hb
 simp only [List.cons_append,List.nil_append]
 have hL:=leN64 b0 b1 b2 b3 b4 b5 b6 b7 b8 b9 fJ fI fG fF fE fD eY fC fB fA fy fx fw fu fe ft fq fk fj fh fg fb Ul Yt Ys Yr Yq Yp Yo Yn Uk Ym Yl Yk Yj Yi Yh Yg Uj Yf Ye Yd Yc Yb Ya X9 X8 X7 X6 X5 X4 X0 XZ Cc
 have hr:=Pm (N:=bL [b0,b1,b2,b3,b4,b5,b6,b7,b8,b9,fJ,fI,fG,fF,fE,fD,eY,fC,fB,fA,fy,fx,fw,fu,fe,ft,fq,fk,fj,fh,fg,fb,Ul,Yt,Ys,Yr,Yq,Yp,Yo,Yn,Uk,Ym,Yl,Yk,Yj,Yi,Yh,Yg,Uj,Yf,Ye,Yd,Yc,Yb,Ya,X9,X8,X7,X6,X5,X4,X0,XZ,Cc]) (kR (rk _) YI)
 rw [hL] at hr ⊢
 rw [wq8] at hr
 exact w_ofL b0 b1 b2 b3 b4 b5 b6 b7 b8 b9 fJ fI fG fF fE fD eY fC fB fA fy fx fw fu fe ft fq fk fj fh fg fb Ul Yt Ys Yr Yq Yp Yo Yn Uk Ym Yl Yk Yj Yi Yh Yg Uj Yf Ye Yd Yc Yb Ya X9 X8 X7 X6 X5 X4 X0 XZ Cc hr (DZ _) (bN _ _)
def H3Fa:=J @wO.eq_1 (J @wN.eq_1 (J @Ck.eq_1 (J @wM.eq_1 (J @wL.eq_1 (J @KV.eq_1 (@IC.eq_1))))))
def H3Fb:=J @wO.eq_1 (J @wN.eq_1 (J @wM.eq_1 (J @wL.eq_1 (@IC.eq_1))))
def H3Fc:=J @wO.eq_1 (J @wN.eq_1 (J @Ck.eq_1 (J @wM.eq_1 (J @wL.eq_1 (@IC.eq_1)))))
abbrev cx (s:aG):AV:= .vsl (af s) none
theorem aU (s:aG):(af s).length=s.length:=by rw [af,aH]
theorem kB (s t:aG):af (s ++t)=af s ++af t:=by simp [af]
theorem gq (s:aG):(af s).flatMap AV.cells=af s:=by
 induction s with
 | nil=>rfl
 | cons b s ih=>
  have e:af (b ::s)= .int .u8 (b.toNat:Int) ::af s:=rfl
  rw [e,List.flatMap_cons,ih]; rfl
theorem UP (s:aG):((af s).all fun e=>e.cells.length == 1)=true:=by
 simp [af,AV.cells]
theorem tP {σ:ag} {s:aG} {c:aD}:rowOf σ 1 (.vsl (af s) c)=some (af s):=by
 simp only [rowOf,UP,if_true,gq]
theorem Fu {σ:ag} {b off l:Nat} {c e:aD} {cs:ai} {s:aG} (h:look σ.m b=some (.own cs)) (hl:s.length<=l) (hc:off+l<=cs.length) :
  ∃σ',jN σ 1 (.sl b off l 1 c) (.vsl (af s) e)=some (.int .i64 s.length,σ')/\σ'.next=σ.next/\look σ'.m b=some (.own (cs.take off ++af s ++cs.drop (off+s.length)))/\∀j,j≠b->look σ'.m j=look σ.m j:=by
 have ho:σ.owned b=some cs:=by unfold ag.owned ag.get; rw [h]
 by_cases h0:s.length=0
 ·have:=dW h0
  subst this
  refine ⟨σ,?_,rfl,?_,fun _ _=>rfl⟩
  ·simp only [jN,lenOf,tP]; rfl
  ·rw [h]; simp [af]
 ·refine ⟨{ σ with m:=(b, .own (cs.take off ++af s ++cs.drop (off+s.length))) ::σ.m },?_,rfl,by simp [look],fun j hj=>by simp [look,Ne.symm hj]⟩
  simp only [jN,lenOf,tP,ho,aU,ag.set,splice]
  rw [if_neg h0,if_pos ⟨trivial,by decide,hl,by omega,by omega,cI s⟩]
theorem zN {ls:List (aG)} {i:Nat} {s:aG} (h:ls[i]? =some s):(ls.take (i+1)).flatten=(ls.take i).flatten ++s:=by
 have hi:=(bA.1 h).1
 rw [eR hi,(bA.1 h).2]; simp
theorem A3 {ls:List (aG)} (i:Nat):(ls.take i).flatten.length<=ls.flatten.length:=by
 conv=>rhs; rw [←ep i ls,List.flatten_append,az]
 omega
def Joined (x:AV) (σ:ag) (s:aG):Prop:=lenL x=some (.int .i64 s.length)/\
 ∀c:UInt8,∃σ',aJ σ 1 1 x [.int .u8 (c.toNat:Int)] 1=some (.sl σ.next 0 (s.length+1) 1 none,σ')/\look σ'.m σ.next=some (.own (af (s ++ [c])))/\σ'.next=σ.next+1
theorem QA {σ:ag} {b:Nat} {s:aG} (h:look σ.m b=some (.own (af s))) (hn:s.length < 1099511627776):Joined (.sl b 0 s.length 1 (some s.length)) σ s:=by
 refine ⟨rfl,fun c=>⟨σ.alloc (af (s ++ [c])),?_,?_,rfl⟩⟩
 ·have hb:σ.cells b=some (af s):=by unfold ag.cells ag.get; rw [h]
  have hr:rowOf σ 1 (.sl b 0 s.length 1 (some s.length))=some (af s):=by
   simp only [rowOf,if_true,hb]
   rw [if_pos (by rw [aU]; omega),List.drop_zero,aQ (by rw [aU]; omega)]
  unfold aJ
  simp only [lenOf,hr]
  rw [if_pos ⟨by decide,by decide,by unfold bg; omega,rfl,rfl⟩,if_neg (by decide),if_pos trivial,kB]; rfl
 ·simp [ag.alloc,look]
theorem c_join {a:aG} {rest:List (aG)} (hr:0 < rest.length) (Od:rest.length < 1099511627776) (h0:0 < (a ::rest).flatten.length) (hn:(a ::rest).flatten.length < 1099511627776) :
  ∃x σ',cf cF gU (.fn 376 [] []) [.vsl ((a ::rest).map cx) none, .nils] .empty=some (x,σ')/\Joined x σ' (a ::rest).flatten:=by
 generalize hls:a ::rest=ls at*
 have hlen:ls.length=rest.length+1:=by rw [←hls]; rfl
 have Hq:(ls.map cx).length=ls.length:=aH _
 have e0:((ls.length:Int) == 0)=false:=by rw [cc]; omega
 have e1:((ls.length:Int) == 1)=false:=by rw [cc]; omega
 generalize hN:ls.flatten.length=N at*
 suffices h: ∃x σ',cf cF gU (.fn 376 [] []) [.vsl (ls.map cx) none, .nils] .empty=some (x,σ')/\(x= .sl 0 0 N 1 (some N)/\look σ'.m 0=some (.own (af ls.flatten))) by
  obtain ⟨x,σ',h1,rfl,h2⟩:=h
  refine ⟨_,σ',h1,?_⟩
  rw [←hN]; exact QA h2 aa
 suffices h:Ex cF gU [.code IC.body] (eW ([] ++ [.vsl (ls.map cx) none, .nils] ++ [])) .empty fun fr' σ1=>iB fr' σ1 IC.res=some (.sl 0 0 N 1 (some N))/\look σ1.m 0=some (.own (af ls.flatten)) by
  obtain ⟨σ',h1,h2⟩:=uC (id:=376) (F:=IC) rfl h
  exact ⟨_,σ',h1,rfl,h2⟩
 simp only [H3Fb,ax,seval,ay,Hq,e0,e1]
 have Kp {i:Nat} {s:aG} (h:ls[i]? =some s):idxOf 1 none (.vsl (ls.map cx) none) (.int .i64 (i:Int))=some (.vptr [cx s] 0):=
  oc (e:=cx s) (sz:=1) (by rw [bO,h]; rfl) rfl
 refine aL (S:=Nat) (fun i=> [(0, .vsl (ls.map cx) none),(1, .nils),(5, .int .i64 ((ls.take i).flatten.length:Int)),(42, .vsl (ls.map cx) none),(43, .int .i64 ls.length),(44, .int .i64 (i:Int))]) (fun i=>ls.length - i)
  (fun i σ'=>σ'=⟨0, []⟩/\i<=ls.length) ?_ 0 _ ⟨rfl,Nat.zero_le _⟩
 ·rintro B i σ1 ⟨rfl,hi⟩ ih
  by_cases hl:i=ls.length
  ·subst hl
   have gt:decide ((ls.length:Int) < (ls.length:Int))=false:=decide_eq_false aa
   have hfl:(ls.take ls.length).flatten.length=N:=by rw [List.take_length,hN]
   have mk:rh ⟨0, []⟩ (N:Int)=some (.sl 0 0 N 1 none,⟨1, [(0, .own (List.replicate N .undef))]⟩):=by
    have:N<=bg:=by unfold bg; omega
    simp [rh,ag.alloc,this]
   have sl3:dd 1 (.sl 0 0 N 1 none) none (some (N:Int)) (some (N:Int))=some (.sl 0 0 N 1 (some N)):=by
    have: ¬N=0:=by omega
    simp [dd,this]
    try omega
   have h0':ls[0]? =some a:=by rw [←hls]; rfl
   have e0:=Kp h0'
   have ea:ls.take 1= [a]:=by rw [←hls]; rfl
   have la:a.length<=N:=by
    have:=A3 (ls:=ls) 1
    rw [ea,hN] at this; simpa using this
   obtain ⟨σ2,k1,k2,k3,k4⟩:=Fu (σ:=⟨1, [(0, .own (List.replicate N .undef))]⟩) (b:=0) (off:=0) (l:=N) (c:=some N) (e:=none) (s:=a) rfl la (by simp)
   have slR:dd 1 (.vsl (ls.map cx) none) (some 1) none none=some (.vsl ((ls.map cx).drop 1) none):=by
    have e2:((ls.map cx).all fun e=>e.cells.length == 1)=true:=by simp [AV.cells]
    have e3:(0:Int)<=1/\(1:Int)<=((ls.map cx).length:Int)/\((ls.map cx).length:Int)<=((ls.map cx).length:Int):=by rw [Hq]; omega
    simp only [dd,bounds,Option.getD_some,Option.getD_none,if_pos e3,e2,or_true,if_true,Int.toNat_natCast]
    rw [aQ (aE _)]; rfl
   have Xn:((ls.map cx).drop 1).length=rest.length:=by rw [gA,Hq]; omega
   rw [show ((0:Nat):Int)=0 from rfl] at e0
   simp only [H3Fc,ax,seval,ae,ay,gt,hfl,mk,sl3,e0,k1,slR,Xn]
   rw [show (a.length:Int)=((ls.take (0+1)).flatten.length:Int) by rw [ea]; simp]
   have cpn {σ:ag} {b off l:Nat} {c:aD}:jN σ 1 (.sl b off l 1 c) .nils=some (.int .i64 0,σ):=rfl
   refine aL (S:=Nat) (fun i=> [(1, .nils),(8, .sl 0 0 N 1 (some N)),(9, .int .i64 ((ls.take (i+1)).flatten.length:Int)),(70, .vsl ((ls.map cx).drop 1) none),(71, .int .i64 rest.length),(72, .int .i64 (i:Int))]) (fun i=>rest.length - i)
    (fun i σ'=>look σ'.m 0=some (.own (af (ls.take (i+1)).flatten ++List.replicate (N - (ls.take (i+1)).flatten.length) .undef))/\i<=rest.length) ?_ 0 _ ?_
   ·rintro B2 i σ3 ⟨g1,tu⟩ ir
    by_cases F2:i=rest.length
    ·subst F2
     have gt2:decide ((rest.length:Int) < (rest.length:Int))=false:=decide_eq_false aa
     rw [aQ aa,hN,Nat.sub_self,List.replicate_zero,bm] at g1
     simp only [H3Fa,ax,seval,ae,gt2,g1]
    ·obtain ⟨s,hs⟩ : ∃s,ls[i+1]? =some s:=⟨ls[i+1]'(by omega),bo aa⟩
     have e1:idxOf 1 none (.vsl ((ls.map cx).drop 1) none) (.int .i64 (i:Int))=some (.vptr [cx s] 0):=
      oc (e:=cx s) (sz:=1) (by rw [List.getElem?_drop,Nat.add_comm,bO,hs]; rfl) rfl
     have aN:decide ((i:Int) < (rest.length:Int))=true:=decide_eq_true aa
     have ht:=zN hs
     have hle:=A3 (ls:=ls) (i+1+1)
     rw [ht,az,hN] at hle
     have sl4:dd 1 (.sl 0 0 N 1 (some N)) (some ((ls.take (i+1)).flatten.length:Int)) none none=some (.sl 0 (ls.take (i+1)).flatten.length (N - (ls.take (i+1)).flatten.length) 1 (some (N - (ls.take (i+1)).flatten.length))):=by
      have e3:(0:Int)<=((ls.take (i+1)).flatten.length:Int)/\((ls.take (i+1)).flatten.length:Int)<=(N:Int)/\(N:Int)<=(N:Int):=by omega
      simp only [dd,bounds,Option.getD_some,Option.getD_none,if_pos e3,if_true,Int.toNat_natCast]
      rw [Nat.mul_one,Nat.zero_add]; rfl
     have w0:IntKind.wrap .i64 (((ls.take (i+1)).flatten.length:Int)+0)=((ls.take (i+1)).flatten.length:Int):=by rw [aP aa aa]; omega
     obtain ⟨σ4,q1,q2,q3,q4⟩:=Fu (b:=0) (off:=(ls.take (i+1)).flatten.length) (l:=N - (ls.take (i+1)).flatten.length) (c:=some (N - (ls.take (i+1)).flatten.length)) (e:=none) (s:=s) g1 aa (by rw [az,aU,iV]; omega)
     have w2:IntKind.wrap .i64 (((ls.take (i+1)).flatten.length:Int)+(s.length:Int))=((ls.take (i+1+1)).flatten.length:Int):=by
      rw [ht,az,aP aa aa]; omega
     have w3:IntKind.wrap .i64 ((i:Int)+1)=((i+1:Nat):Int):=by rw [aP aa aa]; omega
     simp only [H3Fa,ax,seval,ae,aN,e1,sl4,cpn,w0,q1,w2,w3]
     refine ir (i+1) _ _ aa ⟨?_,by omega⟩ rfl
     rw [q3,List.take_left' (aU _),ht,kB,az]
     congr 3
     rw [List.drop_append,bn (by rw [aU]; omega),List.nil_append,List.drop_replicate,aU]
     congr 1; omega
   ·rw [k3,ea]
    simp
  ·obtain ⟨s,hs⟩ : ∃s,ls[i]? =some s:=⟨ls[i]'(by omega),bo aa⟩
   have e1:=Kp hs
   have aN:decide ((i:Int) < (ls.length:Int))=true:=decide_eq_true aa
   have ht:=zN hs
   have hle:=A3 (ls:=ls) (i+1)
   rw [ht,az] at hle
   have w1:IntKind.wrap .i64 (9223372036854775807 - ((ls.take i).flatten.length:Int))=9223372036854775807 - ((ls.take i).flatten.length:Int):=aP aa aa
   have g1:decide ((s.length:Int) > 9223372036854775807 - ((ls.take i).flatten.length:Int))=false:=decide_eq_false aa
   have w2:IntKind.wrap .i64 (((ls.take i).flatten.length:Int)+(s.length:Int))=((ls.take (i+1)).flatten.length:Int):=by
    rw [ht,az,aP aa aa]; omega
   have w3:IntKind.wrap .i64 ((i:Int)+1)=((i+1:Nat):Int):=by rw [aP aa aa]; omega
   simp only [H3Fc,ax,seval,ae,aN,e1,cx,aU,w1,g1,w2,w3]
   exact ih (i+1) _ _ aa ⟨rfl,by omega⟩ rfl
def H4Fa:=J @Cy.eq_1 (J @wV.eq_1 (J @Cz.eq_1 (J @wU.eq_1 (J @wT.eq_1 (J @K4.eq_1 (@TS.eq_1))))))
def H4Fc:=J @Cy.eq_1 (J @wV.eq_1 (J @Cz.eq_1 (J @wU.eq_1 (J @wT.eq_1 (@TS.eq_1)))))
theorem j6 {σ:ag} {b n:Nat} {cs:ai} {c:UInt8} (h:look σ.m b=some (.own cs)) (hl:cs.length=n) (h0:0 < n) (hb:b < σ.next) (hm:n < 2199023255552) :
  ∃σ',aJ σ 1 1 (.sl b 0 n 1 none) [.int .u8 (c.toNat:Int)] 1=some (.sl σ.next 0 (n+1) 1 none,σ')/\look σ'.m σ.next=some (.own (cs ++ [.int .u8 (c.toNat:Int)]))/\σ'.next=σ.next+1:=by
 obtain ⟨σ',h1,h2,h3,h4⟩:=gp (σ:=σ) (sz:=1) (bytes:=1) (n:=n) (k:=1) (ob:=some b) (cells:=cs) (new:= [.int .u8 (c.toNat:Int)]) ⟨h,by omega,hb,h0⟩ (by decide) (by decide) (by unfold bg; omega) rfl rfl (by decide)
 exact ⟨σ',h1,h2.1,h3⟩
theorem l7 (s:aG) (c:UInt8):af s ++ [.int .u8 (c.toNat:Int)]=af (s ++ [c]):=by rw [kB]; rfl
def xR (n:Nat):aG:=List.replicate 8 0 ++mR (8*n)
def mP (n:Nat):Nat:=kJ n - n - 17
theorem pad_eq (s:aG):eO s=s ++ [128] ++List.replicate (mP s.length) 0 ++xR s.length:=by
 have:=pX s.length
 rw [eO,xR,mP,show kJ s.length - s.length - 9=kJ s.length - s.length - 17+8 by omega,←List.replicate_append_replicate]
 simp only [bf]
theorem V5 {n j:Nat} (hn:n < 1099511627776) (h:j < 16):(xR n)[j]? =some (if 15 - j < 8 then UInt8.ofNat (8*n / 2 ^ (8*(15 - j))) else 0):=by
 rw [xR]
 by_cases h8:j < 8
 ·rw [eQ (by simpa using h8),if_neg aa,List.getElem?_replicate,if_pos h8]
 ·rw [fK (by simp; omega),if_pos aa,iV,mR,List.getElem?_reverse (by rw [bN]; omega),bN,o6,bO,List.getElem?_range aa,show 8 - 1 - (j - 8)=15 - j by omega]
  rw [Option.map_some,show (256:Nat)=2 ^ 8 from rfl,←Nat.pow_mul]
theorem V4 {n k:Nat} (h:k<=mP n):(n+1+k) % 128=112↔k=mP n:=by
 have:=pX n
 unfold mP at*; omega
theorem Pq {ls:List (aG)} {s:aG} (hn:s.length < 1099511627776) (hj: ∃x σ',cf cF gU (.fn 376 [] []) [.vsl (ls.map cx) none, .nils] .empty=some (x,σ')/\Joined x σ' s) :
  cR 341 [.vsl (ls.map cx) none, .int .i64 128, .int .i64 16]=some (cx (eO s)):=by
 obtain ⟨x,σ0,hc,hl,ha⟩:=hj
 obtain ⟨σ1,a1,a2,a3⟩:=ha 128
 have w1:IntKind.wrap .u64 (s.length:Int)=(s.length:Int):=iw aa aa
 have w2:IntKind.wrap .u64 ((s.length:Int)*8)=((8*s.length:Nat):Int):=by rw [iw aa aa]; omega
 rw [show (((128:UInt8).toNat:Nat):Int)=128 from rfl] at a1
 have F3:cf cF gU (.fn 376 [] []) [.vsl (ls.map cx) none, .nils] ⟨0, []⟩=some (x,σ0):=hc
 refine aC (F:=TS) rfl ?_
 simp only [Cy,wV,wU,wT,TS,ax,seval,ae,ay,F3,hl,w1,w2,lenOf,rowOf,AV.cells,a1]
 have Oe:(xR s.length).length=16:=by simp [xR,nH]
 have i64z: ∀i:Int, -9223372036854775808<=i->i < 9223372036854775808->IntKind.wrap .i64 i=i:=fun i=>aP
 have hT:=pX s.length
 have hK:mP s.length=kJ s.length - s.length - 17:=rfl
 have c16:IntKind.wrap .i64 112=112:=rfl
 have c15:IntKind.wrap .i64 15=15:=rfl
 rw [show ((s.length+1:Nat))=s.length+1+0 from rfl]
 refine aL (S:=Nat×Nat) (fun p=> [(1, .int .i64 128),(2, .int .i64 16),(7, .sl p.2 0 (s.length+1+p.1) 1 none),(8, .int .u64 ((8*s.length:Nat):Int))]) (fun p=>mP s.length - p.1)
  (fun p σ'=>look σ'.m p.2=some (.own (af (s ++ [128] ++List.replicate p.1 0)))/\p.2 < σ'.next/\p.1<=mP s.length) ?_ (0,σ0.next) _ ⟨by rw [List.replicate_zero,bm]; exact a2,by rw [a3]; exact aR _,Nat.zero_le _⟩
 rintro B ⟨k,b⟩ σ2 ⟨g1,g2,g3⟩ ih
 simp only at g1 g2 g3 ih
 have M5:Int.tmod ((s.length+1+k:Nat):Int) 128=(((s.length+1+k) % 128:Nat):Int):=rfl
 have Oc:IntKind.wrap .i64 (((s.length+1+k) % 128:Nat):Int)=(((s.length+1+k) % 128:Nat):Int):=aP aa aa
 have yp:=V4 g3
 by_cases hk:k=mP s.length
 ·have fX:((((s.length+1+k) % 128:Nat):Int) == 112)=true:=by
   rw [beq_iff_eq]; have:=yp.2 hk; omega
  simp only [H4Fc,ax,seval,ae,ay,M5,Oc,fX,bne,c16,c15]
  subst hk
  clear ih
  rw [show ((s.length+1+mP s.length:Nat))=s.length+1+mP s.length+0 from rfl]
  refine aL (S:=Nat×Nat) (fun p=> [(7, .sl p.2 0 (s.length+1+mP s.length+p.1) 1 none),(8, .int .u64 ((8*s.length:Nat):Int)),(9, .int .i64 (15 - (p.1:Int)))]) (fun p=>16 - p.1)
   (fun p σ'=>look σ'.m p.2=some (.own (af (s ++ [128] ++List.replicate (mP s.length) 0 ++(xR s.length).take p.1)))/\p.2 < σ'.next/\p.1<=16) ?_ (0,b) _ ⟨by rw [List.take_zero,bm]; exact g1,g2,Nat.zero_le _⟩
  rintro B2 ⟨j,b2⟩ σ3 ⟨k1,k2,k3⟩ ir
  simp only at k1 k2 k3 ir
  by_cases hj:j=16
  ·subst hj
   have kc:decide ((15:Int) - ((16:Nat):Int)≥0)=false:=rfl
   rw [aQ aa,←pad_eq] at k1
   have hlen:=sk s
   have hR:rbE σ3 (.sl b2 0 (s.length+1+mP s.length+16) 1 none)=some (cx (eO s)):=by
    have gH:(af (eO s)).length=s.length+1+mP s.length+16:=by rw [aU]; omega
    have:=nX (d:=23) (off:=0) (n:=s.length+1+mP s.length+16) (c:=none) k1 aa (aK _) (by
     have:=cI (eO s)
     rw [bj] at this ⊢
     intro x hx; have:=this x hx
     cases x <;> simp_all [AV.one,AV.notAgg])
    rw [List.drop_zero,aQ aa] at this
    unfold rbE
    rw [show bK=23+1 from rfl,this,Option.map_some,jr,bS]
   simp only [H4Fa,ax,seval,ae,kc,hR]
  ·have kc:decide ((15:Int) - (j:Int)≥0)=true:=decide_eq_true aa
   have iD:=V5 hn (show j < 16 by omega)
   have gH:(af (s ++ [128] ++List.replicate (mP s.length) 0 ++(xR s.length).take j)).length=s.length+1+mP s.length+j:=by
    rw [aU]; simp; omega
   have hw:IntKind.wrap .i64 (15 - (j:Int) - 1)=15 - ((j+1:Nat):Int):=by rw [aP aa aa]; omega
   have tq: ∀c,(xR s.length)[j]? =some c->(xR s.length).take (j+1)=(xR s.length).take j ++ [c]:=by
    intro c hc
    have hi:=(bA.1 hc).1
    rw [eR hi,(bA.1 hc).2]
   by_cases h8:15 - j < 8
   ·rw [if_pos h8] at iD
    have hl8:decide ((15:Int) - (j:Int) < 8)=true:=decide_eq_true aa
    have hm8:IntKind.wrap .i64 (8*(15 - (j:Int)))=((8*(15 - j):Nat):Int):=by rw [aP aa aa]; omega
    have od:aY .shr .u64 ((8*s.length:Nat):Int) ((8*(15 - j):Nat):Int)=some (.int .u64 ((8*s.length / 2 ^ (8*(15 - j)):Nat):Int)):=by
     have hu:((8*s.length:Nat):Int)=((UInt64.ofNat (8*s.length)).toNat:Int):=by
      rw [bR,aO aa]
     have:=qB (UInt64.ofNat (8*s.length)) (8*(15 - j)) aa
     rw [hu,this,U,UInt64.toNat_shiftRight,Nat.shiftRight_eq_div_pow,bR,aO (show 8*s.length < 2 ^ 64 by omega),bR,aO (show 8*(15 - j) < 2 ^ 64 by omega),aO (show 8*(15 - j) < 64 by omega)]
    have uj:IntKind.wrap .u8 ((8*s.length / 2 ^ (8*(15 - j)):Nat):Int)=((UInt8.ofNat (8*s.length / 2 ^ (8*(15 - j)))).toNat:Int):=by
     rw [kY,dF]
    obtain ⟨σ4,q1,q2,q3⟩:=j6 (c:=UInt8.ofNat (8*s.length / 2 ^ (8*(15 - j)))) k1 gH aa k2 aa
    generalize 8*s.length / 2 ^ (8*(15 - j))=y at*
    simp only [H4Fa,ax,seval,ae,kc,hl8,hm8,od,uj,lenOf,rowOf,AV.cells,q1,hw]
    refine ir (j+1,σ3.next) _ _ (by show 16 - (j+1) < 16 - j; omega) ⟨?_,by rw [q3]; exact aR _,by show j+1<=16; omega⟩ rfl
    show look σ4.m σ3.next=_
    rw [q2,l7,tq _ iD,bf]
   ·rw [if_neg h8] at iD
    have hl8:decide ((15:Int) - (j:Int) < 8)=false:=decide_eq_false aa
    obtain ⟨σ4,q1,q2,q3⟩:=j6 (c:=0) k1 gH aa k2 aa
    rw [show (((0:UInt8).toNat:Nat):Int)=0 from rfl] at q1
    simp only [H4Fa,ax,seval,ae,kc,hl8,lenOf,rowOf,AV.cells,q1,hw]
    refine ir (j+1,σ3.next) _ _ (by show 16 - (j+1) < 16 - j; omega) ⟨?_,by rw [q3]; exact aR _,by show j+1<=16; omega⟩ rfl
    show look σ4.m σ3.next=_
    rw [q2,l7,tq _ iD,bf]
 ·have fX:((((s.length+1+k) % 128:Nat):Int) == 112)=false:=by
   rw [cc]; intro hc; exact hk (yp.1 aa)
  have gH:(af (s ++ [128] ++List.replicate k 0)).length=s.length+1+k:=by rw [aU]; simp; omega
  obtain ⟨σ4,q1,q2,q3⟩:=j6 (c:=0) g1 gH aa g2 aa
  rw [show (((0:UInt8).toNat:Nat):Int)=0 from rfl] at q1
  simp only [H4Fc,ax,seval,ae,M5,Oc,fX,bne,c16,lenOf,rowOf,AV.cells,q1]
  refine ih (k+1,σ2.next) _ _ (by show mP s.length - (k+1) < mP s.length - k; omega) ⟨?_,by rw [q3]; exact aR _,by show k+1<=mP s.length; omega⟩ rfl
  show look σ4.m σ2.next=_
  rw [q2,l7,bf,List.replicate_succ']
def YN:=J @Co.eq_1 (J @Cn.eq_1 (J @wP.eq_1 (J @Cm.eq_1 (J @Cl.eq_1 (@YP.eq_1)))))
def YM:=J @Co.eq_1 (J @Cn.eq_1 (J @Cm.eq_1 (@YP.eq_1)))
def H5Fc:= @F392.eq_1
def uF (p whole:UInt64) (eP:Bool) (low:UInt64):Bool:=
 let h:=eM low low; let s0:=low*low
 let h2:=eM low (2*whole); let l2:=low*(2*whole)
 let s1:=h+l2; let c:=lV h l2 0
 let s2:=whole*whole+h2+c
 if eP=true then
  let a1:=eM s0 low; let b1:=eM s1 low; let b0:=s1*low
  let c1:=eM s0 whole; let c0:=s0*whole
  let d1:=eM s2 low; let d0:=s2*low
  let e1:=eM s1 whole; let e0:=s1*whole
  let w1:=a1+b0; let k1:=lV a1 b0 0
  let k2:=lV w1 c0 0
  let w2:=b1+c1+k1; let k3:=lV b1 c1 k1
  let w2':=w2+d0+k2; let k4:=lV w2 d0 k2
  let k5:=lV w2' e0 0
  decide ((s2*whole+d1+e1+k3+k4+k5).toNat < p.toNat)
 else decide (s2.toNat < p.toNat)
theorem VC (p whole low:UInt64) (eP:Bool):cR 392 [.agg [U p,U whole, .bool eP],U low]=some (.bool (uF p whole eP low)):=by
 have m1:=jV low low
 have m2:=jV low (2*whole)
 have sg:(2:Int)*(whole.toNat:Int)=((2:UInt64).toNat:Int)*(whole.toNat:Int):=rfl
 have w2:=Je 2 whole
 rw [←sg] at w2
 have z0:((0:UInt64).toNat:Int)=0:=rfl
 have ad0 (x y:UInt64):c9 .add64 [U x,U y, .int .u64 0]=some (.tup [U (x+y),U (lV x y 0)]):=by
  have:=ie x y 0 (by decide)
  rw [UInt64.add_zero] at this
  exact this
 refine aC (F:=F392) rfl ?_
 cases eP with
 | false=>
  simp only [U] at m1 m2 ad0 ⊢
  simp only [H5Fc,ax,seval,ae,w2,m1,m2,ad0,Je,k9,uF]
  simp only [Int.ofNat_lt,if_false,aX]
 | true=>
  simp only [uF,if_true]
  have n1:=jV (low*low) low
  have n2:=jV (eM low low+low*(2*whole)) low
  have n3:=jV (low*low) whole
  have n4:=jV (whole*whole+eM low (2*whole)+lV (eM low low) (low*(2*whole)) 0) low
  have n5:=jV (eM low low+low*(2*whole)) whole
  generalize oS:whole*whole+eM low (2*whole)+lV (eM low low) (low*(2*whole)) 0=s2 at*
  generalize vk:eM low low+low*(2*whole)=s1 at*
  have k1:=jX (eM (low*low) low) (s1*low) 0 (by decide)
  have k2:=jX (eM (low*low) low+s1*low) (low*low*whole) 0 (by decide)
  have x3:=ie (eM s1 low) (eM (low*low) whole) _ k1
  have x4:=ie (eM s1 low+eM (low*low) whole+lV (eM (low*low) low) (s1*low) 0) (s2*low) _ k2
  simp only [U] at m1 m2 n1 n2 n3 n4 n5 x3 x4 ad0 ⊢
  simp only [H5Fc,ax,seval,ae,w2,m1,m2,n1,n2,n3,n4,n5,vk,oS,ad0,x3,x4,Je,k9,Int.ofNat_lt]
  try rfl
def sF (p whole:UInt64) (eP:Bool):Nat->UInt64->UInt64
 | 0,low=>low
 | n+1,low=>sF p whole eP n (if decide (low.toNat < (low+UInt64.ofNat (2 ^ n)).toNat) && uF p whole eP (low+UInt64.ofNat (2 ^ n)) then low+UInt64.ofNat (2 ^ n) else low)
def sX:Nat->UInt64
 | 0=>0
 | n+1=>UInt64.ofNat (2 ^ n)
theorem NS {n:Nat} (h:n < 64):aY .shr .u64 ((sX (n+1)).toNat:Int) 1=some (U (sX n)):=by
 have h1:=qB (sX (n+1)) 1 (by decide)
 rw [show ((1:Nat):Int)=1 from rfl] at h1
 rw [h1]
 congr 2
 cases n with
 | zero=>rfl
 | succ m=>
  apply UInt64.toNat_inj.1
  show (UInt64.ofNat (2 ^ (m+1)) >>> UInt64.ofNat 1).toNat=(UInt64.ofNat (2 ^ m)).toNat
  rw [UInt64.toNat_shiftRight,show (UInt64.ofNat 1).toNat % 64=1 from rfl,Nat.shiftRight_eq_div_pow,bR,bR]
  have l1:2 ^ (m+1) < 2 ^ 64:=Nat.pow_lt_pow_right (by decide) aa
  have l2:2 ^ m < 2 ^ 64:=Nat.pow_lt_pow_right (by decide) aa
  rw [aO l1,aO l2,Nat.pow_succ]; omega
theorem S4 {n:Nat} (h:n < 64):decide (((sX (n+1)).toNat:Int) > 0)=true:=by
 have l2:2 ^ n < 2 ^ 64:=Nat.pow_lt_pow_right (by decide) h
 have:=Nat.two_pow_pos n
 apply decide_eq_true
 show ((UInt64.ofNat (2 ^ n)).toNat:Int) > 0
 rw [bR,aO l2]; omega
structure PreR (p:UInt64) (eP:Bool) (whole y:UInt64):Prop where
 pre: ∃fp x0 x1 g d e,Ax (U p)=some fp/\cR 390 [fp]=some x0/\cR 391 [fp]=some x1/\fp.closed=true/\fp.er=fp/\intOf .u64 (if eP=true then x1 else x0)=some (U whole)/\Ax (U whole)=some g/\
  bin .sub (if eP=true then x1 else x0) g=some d/\bin .mul d (.lit (.float .f64 4814348001659060224))=some e/\intOf .u64 e=some (U y)
theorem w_sub (x y:UInt64):IntKind.wrap .u64 ((x.toNat:Int) - (y.toNat:Int))=((x - y).toNat:Int):=by
 have e: ∀i:Int,IntKind.wrap .u64 i=i % 18446744073709551616:=by
  intro i
  simp only [IntKind.wrap,IntKind.bits,IntKind.signed]
  simp
 have hx:=fL x; have hy:=fL y
 rw [e,UInt64.toNat_sub]
 omega
theorem AM {p whole WA:UInt64} {eP:Bool} {σ:ag} (h:look σ.m 0=some (.own [.int .u64 p.toNat, .int .u64 whole.toNat, .bool eP])) :
  Ex cF gU [.code wP, .inLoop [2,6,7] wP, .inBlock 0, .code Cl] [(2, .ptr 0 0),(6,U WA),(7, .int .u64 524288)] σ fun fr' σ1=>rbE σ1 ((look fr' 4).getD .undef)=some (.int .u64 ((sF p whole eP 20 WA).toNat:Int)):=by
 have h20:(524288:Int)=((sX 20).toNat:Int):=by decide
 rw [h20]
 refine aL (S:=Nat×UInt64) (fun q=> [(2, .ptr 0 0),(6,U q.2),(7,U (sX q.1))]) (fun q=>q.1)
  (fun q σ'=>look σ'.m 0=some (.own [.int .u64 p.toNat, .int .u64 whole.toNat, .bool eP])/\q.1<=20/\sF p whole eP q.1 q.2=sF p whole eP 20 WA) ?_ (20,WA) _ ⟨h,aE _,rfl⟩
 rintro B ⟨n,low⟩ σ2 ⟨g1,g2,g3⟩ ih
 simp only at g1 g2 g3 ih
 cases n with
 | zero=>
  have hz:decide (((sX 0).toNat:Int) > 0)=false:=rfl
  rw [←g3]
  simp only [YN,ax,seval,ae,U,hz,sF]
 | succ m=>
  have hp:=S4 (n:=m) aa
  have hh:=NS (n:=m) aa
  have hb:=VC p whole (low+sX (m+1)) eP
  have hg:decide (((low+sX (m+1)).toNat:Int) > (low.toNat:Int))=decide (low.toNat < (low+sX (m+1)).toNat):=decide_eq_decide.2 aa
  have hL:sF p whole eP (m+1) low=sF p whole eP m (if decide (low.toNat < (low+sX (m+1)).toNat) && uF p whole eP (low+sX (m+1)) then low+sX (m+1) else low):=rfl
  rw [hL] at g3
  simp only [U] at hb hh
  generalize sX (m+1)=bt at*
  by_cases c1:low.toNat < (low+bt).toNat
  ·rw [decide_eq_true c1] at hg g3
   by_cases c2:uF p whole eP (low+bt)=true
   ·rw [c2] at hb g3
    simp only [YN,ax,seval,ae,U,hp,k9,hg,g1,hb,hh]
    exact ih (m,low+bt) _ _ (aR m) ⟨g1,by show m<=20; omega,g3⟩ rfl
   ·rw [Bool.not_eq_true] at c2
    rw [c2] at hb g3
    simp only [YN,ax,seval,ae,U,hp,k9,hg,g1,hb,hh]
    exact ih (m,low) _ _ (aR m) ⟨g1,by show m<=20; omega,g3⟩ rfl
  ·rw [decide_eq_false c1] at hg g3
   simp only [YN,ax,seval,ae,U,hp,k9,hg,g1,hh]
   exact ih (m,low) _ _ (aR m) ⟨g1,by show m<=20; omega,g3⟩ rfl
theorem r_bits {p whole y:UInt64} {eP all:Bool} (h:PreR p eP whole y):cR 375 [.agg [U p, .int .u64 0, .bool eP], .bool all]=some (U (if all=true then sF p whole eP 20 (y <<< 18 - 262144) else y <<< 18)):=by
 obtain ⟨fp,x0,x1,g,d,e,e1,e2,e3,e4,e5,e6,e7,e8,e9,e10⟩:=h
 have s18:aY .shl .u64 (y.toNat:Int) 18=some (U (y <<< 18)):=Gm y 18 (by decide)
 have hsub:IntKind.wrap .u64 (((y <<< 18).toNat:Int) - 262144)=(((y <<< 18) - 262144).toNat:Int):=w_sub (y <<< 18) 262144
 refine aC (F:=YP) rfl ?_
 cases eP with
 | false=>
  simp only [if_false,aX] at e6 e8
  simp only [U] at e1 e6 e7 e10 s18 ⊢
  cases all with
  | false=>simp only [YM,ax,seval,ae,e1,e2,e4,e5,e6,e7,e8,e9,e10,s18]
  | true=>
   simp only [YM,ax,seval,ae,ay,e1,e2,e4,e5,e6,e7,e8,e9,e10,s18,hsub]
   exact AM rfl
 | true=>
  simp only [if_true] at e6 e8
  simp only [U] at e1 e6 e7 e10 s18 ⊢
  cases all with
  | false=>simp only [YM,ax,seval,ae,e1,e2,e3,e4,e5,e6,e7,e8,e9,e10,s18]
  | true=>
   simp only [YM,ax,seval,ae,ay,e1,e2,e3,e4,e5,e6,e7,e8,e9,e10,s18,hsub]
   exact AM rfl
noncomputable def runR (f:Nat) (x:AV):Option AV:=(dj cF (run cF gU 200) (.fn f [] []) [x] .empty).bind (fun x=>rbE x.2 x.1)
noncomputable def preF (p:UInt64) (eP:Bool):Option (UInt64×UInt64):=
 (Ax (U p)).bind fun fp=>(runR 390 fp).bind fun x0=>(runR 391 fp).bind fun x1=>
 (intOf .u64 (if eP=true then x1 else x0)).bind fun w=>(Ax w).bind fun g=>(bin .sub (if eP=true then x1 else x0) g).bind fun d=>
 (bin .mul d (.lit (.float .f64 4814348001659060224))).bind fun e=>(intOf .u64 e).bind fun y=>
 match w,y with
 | .int .u64 wi, .int .u64 yi=>if 0<=wi/\wi < 18446744073709551616/\0<=yi/\yi < 18446744073709551616 then some (UInt64.ofNat wi.toNat,UInt64.ofNat yi.toNat) else none
 | _,_=>none
theorem Mo {p:UInt64} {eP:Bool} {w y:UInt64} (h:preF p eP=some (w,y)):PreR p eP w y:=by
 simp only [preF,Option.bind_eq_some_iff] at h
 obtain ⟨fp,e1,x0,e2,x1,e3,wv,e4,g,e5,d,e6,e,e7,yv,e8,h⟩:=h
 split at h
 ·rename_i wi yi
  split at h
  ·rename_i hr
   simp only [ah,aI] at h
   obtain ⟨rfl,rfl⟩:=h
   obtain ⟨h0,h1,h2,h3⟩:=hr
   have ew:AV.int .u64 wi=U (UInt64.ofNat wi.toNat):=by
    unfold U; rw [bR,aO (show wi.toNat < 2 ^ 64 by omega),Int.toNat_of_nonneg h0]
   have ey:AV.int .u64 yi=U (UInt64.ofNat yi.toNat):=by
    unfold U; rw [bR,aO (show yi.toNat < 2 ^ 64 by omega),Int.toNat_of_nonneg h2]
   rw [ew] at e4 e5
   rw [ey] at e8
   have hf:fp= .lit (.float .f64 (FloatKind.f64.nearest (p.toNat:Int))):=by
    unfold U Ax at e1; exact (br e1).symm
   exact ⟨⟨fp,x0,x1,g,d,e,e1,cQ 200 e2,cQ 200 e3,by rw [hf]; rfl,by rw [hf,So],e4,e5,e6,e7,e8⟩⟩
  ·cases h
 ·cases h
def vZ:List UInt64:= [2,3,5,7,11,13,17,19,23,29,31,37,41,43,47,53,59,61,67,71,73,79,83,89,97,101,103,107,109,113,127,131,137,139,149,151,157,163,167,173,179,181,191,193,197,199,211,223,227,229,233,239,241,251,257,263,269,271,277,281,283,293,307,311,313,317,331,337,347,349,353,359,367,373,379,383,389,397,401,409]
noncomputable def xH (eP all:Bool) (p:UInt64):Option UInt64:=(preF p eP).map fun (q:UInt64×UInt64)=>if all=true then sF p q.1 eP 20 (q.2 <<< 18 - 262144) else q.2 <<< 18
theorem Gp {p r:UInt64} {eP all:Bool} (h:xH eP all p=some r):cR 375 [.agg [U p, .int .u64 0, .bool eP], .bool all]=some (U r):=by
 unfold xH at h
 rw [cp] at h
 obtain ⟨⟨w,y⟩,h1,rfl⟩:=h
 exact r_bits (Mo h1)
theorem tab8:(vZ.take 8).map (xH false true)=HH.list.map some:=by kernel_rfl
theorem tab80:vZ.map (xH true true)=KK.map some:=by kernel_rfl
def H7Fa:=J @IK.eq_1 (J @CA.eq_1 (J @K5.eq_1 (@YX.eq_1)))
def H7Fc:=J @Cp.eq_1 (J @wS.eq_1 (J @wR.eq_1 (J @Cr.eq_1 (J @wQ.eq_1 (J @Cq.eq_1 (@ID.eq_1))))))
def H7Fd:=J @Cp.eq_1 (J @wS.eq_1 (J @wR.eq_1 (J @wQ.eq_1 (J @Cq.eq_1 (@ID.eq_1)))))
def EB (p:Nat):Nat->Nat->Nat->aD
 | 0,_,_=>none
 | f+1,q,m=>if q < 410 then EB p f (q+p) (m ||| 2 ^ q) else some m
def nU (n:Nat):Nat->Nat->Nat->List Nat->Option (List Nat)
 | 0,_,_,_=>none
 | f+1,p,m,out=>if out.length < n then (if p < 410 then (if m.testBit p then nU n f (p+1) m out else (EB p 411 (p*p) m).bind fun m'=>nU n f (p+1) m' (out ++ [p])) else none) else some out
def ML (m:Nat):ai:=(List.range 410).map fun i=> .bool (m.testBit i)
theorem sA (m:Nat):(ML m).length=410:=by simp [ML]
theorem G4 {m p:Nat} (h:p < 410):(ML m)[p]? =some (.bool (m.testBit p)):=by
 rw [ML,bO,List.getElem?_range h]; rfl
theorem Ws {m q:Nat} (h:q < 410):(ML m).take q ++ [.bool true] ++(ML m).drop (q+1)=ML (m ||| 2 ^ q):=by
 have e:(ML m).set q (.bool true)=ML (m ||| 2 ^ q):=by
  apply List.ext_getElem?
  intro k
  rw [List.getElem?_set]
  by_cases hk:k < 410
  ·rw [G4 hk,G4 hk,Nat.testBit_or,Nat.testBit_two_pow]
   by_cases hq:q=k
   ·subst hq; simp [sA,h]
   ·simp [hq]
  ·have e1: ∀m,(ML m)[k]? =none:=fun m=>cK (by rw [sA]; omega)
   rw [e1,e1]
   split
   ·rename_i hq; rw [if_neg (by rw [sA]; omega)]
   ·rfl
 rw [←e,List.set_eq_take_append_cons_drop,if_pos (by rw [sA]; exact h),bf]; rfl
def MH (l:List Nat):ai:=l.map fun (p:Nat)=> .int .u64 (p:Int)
def KR (x:AV) (σ:ag) (out:List Nat):Prop:=∃ob,x=iA 1 ob out.length/\nL σ 1 ob out.length (MH out)
theorem SQ {n f:Nat} {out:List Nat} (h:nU n f 2 0 []=some out) (hn:n < 1000): ∃x σ',cf cF gU (.fn 374 [] []) [.int .i64 (n:Int)] .empty=some (x,σ')/\KR x σ' out:=by
 suffices hs:Ex cF gU [.code ID.body] (eW ([] ++ [.int .i64 (n:Int)] ++ [])) .empty fun fr' σ1=>∃r,iB fr' σ1 ID.res=some r/\KR r σ1 out by
  obtain ⟨k,fr',σ1,h1,r,h2,h3⟩:=hs
  exact ⟨r,σ1,gy (id:=374) (F:=ID) rfl ⟨k,fr',σ1,h1,h2,rfl⟩,h3⟩
 simp only [Cp,wS,wR,Cr,wQ,ID,ax,seval,ay]
 refine aL (S:=Nat×Nat×Nat×List Nat×aD) (fun q=> [(0, .int .i64 (n:Int)),(3, .ptr 0 0),(4,iA 1 q.2.2.2.2 q.2.2.2.1.length),(5, .int .i64 (q.2.1:Int))]) (fun q=>q.1)
  (fun q σ'=>look σ'.m 0=some (.own (ML q.2.2.1))/\nL σ' 1 q.2.2.2.2 q.2.2.2.1.length (MH q.2.2.2.1)/\q.2.2.2.2≠some 0/\1<=σ'.next/\nU n q.1 q.2.1 q.2.2.1 q.2.2.2.1=some out) ?_ (f,2,0, [],none) _ ⟨by kernel_rfl,⟨rfl,rfl⟩,by simp,aE _,h⟩
 rintro B ⟨f,p,m,l,ob⟩ σ1 ⟨g0,g1,g2,g3,g4⟩ ih
 simp only at g0 g1 g2 g3 g4 ih
 cases f with
 | zero=>simp [nU] at g4
 | succ f=>
  have hlen:=ue g1
  rw [nU] at g4
  by_cases hl:l.length < n
  ·rw [if_pos hl] at g4
   by_cases hp:p < 410
   ·rw [if_pos hp] at g4
    have aN:decide ((l.length:Int) < (n:Int))=true:=decide_eq_true aa
    have hx:=iu (k:= .i64) (n:=410) (b:=0) (j:=p) hp
    have iD:=G4 (m:=m) hp
    have w1:IntKind.wrap .i64 ((p:Int)+1)=((p+1:Nat):Int):=by rw [aP aa aa]; omega
    cases hb:m.testBit p with
    | true=>
     rw [hb,if_pos rfl] at g4
     rw [hb] at iD
     simp only [H7Fd,ax,seval,ae,hlen,aN,hx,g0,iD,w1]
     exact ih (f,p+1,m,l,ob) _ _ (aR f) ⟨g0,g1,g2,g3,g4⟩ rfl
    | false=>
     rw [hb,if_neg (by decide),Option.bind_eq_some_iff] at g4
     obtain ⟨m',hm,g5⟩:=g4
     rw [hb] at iD
     have w2:IntKind.wrap .u64 (p:Int)=(p:Int):=iw aa aa
     have hpp:p*p < 410*410:=Nat.mul_lt_mul'' hp hp
     have w3:IntKind.wrap .i64 ((p:Int)*(p:Int))=((p*p:Nat):Int):=by rw [aP (by rw [←Int.natCast_mul]; omega) (by rw [←Int.natCast_mul]; omega),Int.natCast_mul]
     obtain ⟨σ2,a1,a2,a3,a4⟩:=gp (bytes:=8) (k:=1) (new:= [.int .u64 (p:Int)]) g1 (by decide) (by decide) (by unfold bg; omega) rfl rfl (by decide)
     have a0:look σ2.m 0=some (.own (ML m)):=by
      have:=a4 0 aa g2
      unfold ag.get at this; rw [this]; exact g0
     simp only [H7Fd,ax,seval,ae,ay,hlen,aN,hx,g0,iD,w2,w3,lenOf,rowOf,AV.cells,a1]
     refine aL (S:=Nat×Nat×Nat) (fun q=> [(0, .int .i64 (n:Int)),(3, .ptr 0 0),(4,iA 1 (some σ1.next) (l.length+1)),(5, .int .i64 (p:Int)),(6, .int .i64 (q.2.1:Int))]) (fun q=>q.1)
      (fun q σ'=>look σ'.m 0=some (.own (ML q.2.2))/\nL σ' 1 (some σ1.next) (l.length+1) (MH (l ++ [p]))/\1<=σ'.next/\q.2.1 < 1000000/\EB p q.1 q.2.1 q.2.2=some m') ?_ (411,p*p,m) _ ⟨a0,by rw [MH,List.map_append]; exact a2,by omega,by show p*p < 1000000; omega,hm⟩
     rintro B2 ⟨g,q,mm⟩ σ3 ⟨k0,k1,k2,k3,k4⟩ ir
     simp only at k0 k1 k2 k3 k4 ir
     cases g with
     | zero=>simp [EB] at k4
     | succ g=>
      rw [EB] at k4
      by_cases hq:q < 410
      ·rw [if_pos hq] at k4
       have hlq:decide ((q:Int) < 410)=true:=decide_eq_true aa
       have hxq:=iu (k:= .i64) (n:=410) (b:=0) (j:=q) hq
       have ka:=Ws (m:=mm) hq
       have w4:IntKind.wrap .i64 ((q:Int)+(p:Int))=((q+p:Nat):Int):=by rw [aP aa aa]; omega
       have hnl:=sA mm
       have hq9:q<=409:=by omega
       simp only [H7Fc,ax,seval,ae,hlq,hxq,k0,hnl,hq9,ka,w4]
       refine ir (g,q+p,mm ||| 2 ^ q) _ _ (aR g) ⟨by simp [look],?_,k2,by show q+p < 1000000; omega,k4⟩ rfl
       obtain ⟨o1,o2,o3,o4⟩:=k1
       refine ⟨?_,o2,o3,o4⟩
       unfold ag.get at o1 ⊢
       have: ¬0=σ1.next:=by omega
       simpa [look,this] using o1
      ·rw [if_neg hq] at k4
       have W9:mm=m':=br k4
       subst W9
       have hlq:decide ((q:Int) < 410)=false:=decide_eq_false aa
       simp only [H7Fc,ax,seval,ae,hlq,w1]
       refine ih (f,p+1,mm,l ++ [p],some σ1.next) _ _ (aR f) ⟨k0,?_,by simp; omega,k2,g5⟩ (by simp only [az]; rfl)
       rw [az]; exact k1
   ·rw [if_neg hp] at g4; cases g4
  ·rw [if_neg hl] at g4
   have jc:l=out:=br g4
   subst jc
   have aN:decide ((l.length:Int) < (n:Int))=false:=decide_eq_false aa
   simp only [H7Fd,ax,seval,ae,hlen,aN]
   exact ⟨_,rfl,ob,rfl,g1⟩
theorem UY:nU 80 500 2 0 []=some (vZ.map UInt64.toNat):=by decide+kernel
theorem sieve8:nU 8 500 2 0 []=some ((vZ.take 8).map UInt64.toNat):=by decide+kernel
theorem er_U: ∀l:List UInt64,dT (l.map U)=l.map U
 | []=>gM
 | x ::l=>by rw [List.map_cons,dD,er_U l,pF]
theorem DO {n f:Nat} {ps rs:List UInt64} {eP all:Bool} (h:nU n f 2 0 []=some (ps.map UInt64.toNat)) (hn:n < 1000) (hr:ps.map (xH eP all)=rs.map some) (h0:0 < ps.length) (hps:ps.length < 1000):cR 340 [.int .i64 (n:Int), .bool eP, .bool all]=some (.vsl (rs.map U) none):=by
 obtain ⟨x,σ0,hc,ob,rfl,ho⟩:=SQ h hn
 have F3:cf cF gU (.fn 374 [] []) [.int .i64 (n:Int)] ⟨0, []⟩=some (iA 1 ob (ps.map UInt64.toNat).length,σ0):=hc
 have hlen:=ue ho
 have Oe:(ps.map UInt64.toNat).length=ps.length:=aH _
 have hrl:rs.length=ps.length:=by
  have:=congrArg List.length hr; simpa using this.symm
 have Kk {i:Nat} {p:UInt64} (hp:ps[i]? =some p): ∃r,rs[i]? =some r/\xH eP all p=some r:=by
  have h1:(ps.map (xH eP all))[i]? =(rs.map some)[i]? :=by rw [hr]
  rw [bO,bO,hp] at h1
  cases hri:rs[i]? with
  | none=>rw [hri] at h1; cases h1
  | some r=>rw [hri] at h1; exact ⟨r,rfl,br h1⟩
 have hnum:MH (ps.map UInt64.toNat)=ps.map U:=by rw [MH,List.map_map]; rfl
 rw [hnum,Oe] at ho
 rw [Oe] at hlen F3
 refine aC (F:=YX) rfl ?_
 simp only [IK,CA,YX,ax,seval,ay,F3,hlen]
 refine aL (S:=Nat) (fun i=> [(1, .bool eP),(2, .bool all),(7,iA 1 ob ps.length),(12,iA 1 ob ps.length),(13, .int .i64 ps.length),(14, .int .i64 (i:Int))]) (fun i=>ps.length - i)
  (fun i σ'=>nL σ' 1 ob ps.length ((rs.take i).map U ++(ps.drop i).map U)/\i<=ps.length) ?_ 0 _ ⟨ho,Nat.zero_le _⟩
 rintro B i σ1 ⟨g1,g2⟩ ih
 obtain ⟨b,rfl⟩ : ∃b,ob=some b:=by
  cases ob with
  | none=>have:=g1.1; omega
  | some b=>exact ⟨b,rfl⟩
 obtain ⟨o1,o2,o3,o4⟩:=g1
 have o1':look σ1.m b=some (.own ((rs.take i).map U ++(ps.drop i).map U)):=o1
 by_cases hi:i=ps.length
 ·subst hi
  have gt:decide ((ps.length:Int) < (ps.length:Int))=false:=decide_eq_false aa
  rw [aQ aa,List.drop_length,List.map_nil,bm] at o1'
  have hR:rbE σ1 (iA 1 (some b) ps.length)=some (.vsl (rs.map U) none):=by
   have gH:aB (rs.map U)=true:=hZ.2 (by intro x hx; obtain ⟨y,_,rfl⟩:=List.mem_map.1 hx; rfl)
   have W7:(rs.map U).all AV.notAgg=true:=by simp [AV.notAgg]
   have he:=er_U rs
   have:=nX (d:=23) (off:=0) (n:=ps.length) (c:=none) o1' (by rw [aH]; omega) gH W7
   rw [List.drop_zero,aQ (by rw [aH]; omega)] at this
   unfold rbE iA
   rw [show bK=23+1 from rfl]
   simp only
   rw [this,Option.map_some,jr,he]
  simp only [H7Fa,ax,seval,ae,gt,hR]
 ·obtain ⟨p,hp⟩ : ∃p,ps[i]? =some p:=⟨ps[i]'(by omega),bo aa⟩
  obtain ⟨r,hri,M4⟩:=Kk hp
  have Kk:=Gp M4
  have aN:decide ((i:Int) < (ps.length:Int))=true:=decide_eq_true aa
  have bQ:idxOf 1 none (iA 1 (some b) ps.length) (.int .i64 (i:Int))=some (.ptr b i):=by
   have:i < ps.length:=by omega
   simp [idxOf,iA,this]
  have sK:((rs.take i).map U).length=i:=by rw [aH,bE]; omega
  have iD:((rs.take i).map U ++(ps.drop i).map U)[i]? =some (U p):=by
   rw [fK aa,sK,Nat.sub_self,bO,List.getElem?_drop,Nat.add_zero,hp]; rfl
  have ka:((rs.take i).map U ++(ps.drop i).map U).take i ++ [U r] ++((rs.take i).map U ++(ps.drop i).map U).drop (i+1)=(rs.take (i+1)).map U ++(ps.drop (i+1)).map U:=by
   have hir:=(bA.1 hri).1
   rw [List.take_left' sK,eR hir,(bA.1 hri).2,List.map_append,List.drop_append,bn aa,List.nil_append,sK,show i+1 - i=1 by omega,←List.map_drop,List.drop_drop]; rfl
  have hle:i+1<=((rs.take i).map U ++(ps.drop i).map U).length:=by rw [o2]; omega
  have w1:IntKind.wrap .i64 ((i:Int)+1)=((i+1:Nat):Int):=by rw [aP aa aa]; omega
  simp only [U] at Kk iD ka
  simp only [H7Fa,ax,seval,ae,aN,bQ,o1',iD,Kk,w1,hle,ka]
  refine ih (i+1) _ _ aa ⟨⟨?_,?_,o3,o4⟩,by omega⟩ rfl
  ·unfold ag.get; simp [look]
  ·simp; omega
theorem tabKK:cR 340 [.int .i64 80, .bool true, .bool true]=some (.vsl (KK.map U) none):=DO (n:=80) UY (by decide) tab80 (by decide) (by decide)
theorem tabHH:cR 340 [.int .i64 8, .bool false, .bool true]=some (.vsl (HH.list.map U) none):=DO (n:=8) sieve8 (by decide) tab8 (by decide) (by decide)
theorem toLE8r (n:Nat):(toLE 8 n).reverse= [UInt8.ofNat (n / 72057594037927936),UInt8.ofNat (n / 281474976710656),UInt8.ofNat (n / 1099511627776),UInt8.ofNat (n / 4294967296),UInt8.ofNat (n / 16777216),UInt8.ofNat (n / 65536),UInt8.ofNat (n / 256),UInt8.ofNat (n / 1)]:=by
 rw [o6]; rfl
theorem P8 (v:V8):GP v= [UInt8.ofNat (v.a.toNat / 72057594037927936),UInt8.ofNat (v.a.toNat / 281474976710656),UInt8.ofNat (v.a.toNat / 1099511627776),UInt8.ofNat (v.a.toNat / 4294967296),UInt8.ofNat (v.a.toNat / 16777216),UInt8.ofNat (v.a.toNat / 65536),UInt8.ofNat (v.a.toNat / 256),UInt8.ofNat (v.a.toNat / 1),UInt8.ofNat (v.b.toNat / 72057594037927936),UInt8.ofNat (v.b.toNat / 281474976710656),UInt8.ofNat (v.b.toNat / 1099511627776),UInt8.ofNat (v.b.toNat / 4294967296),UInt8.ofNat (v.b.toNat / 16777216),UInt8.ofNat (v.b.toNat / 65536),UInt8.ofNat (v.b.toNat / 256),UInt8.ofNat (v.b.toNat / 1),UInt8.ofNat (v.c.toNat / 72057594037927936),UInt8.ofNat (v.c.toNat / 281474976710656),UInt8.ofNat (v.c.toNat / 1099511627776),UInt8.ofNat (v.c.toNat / 4294967296),UInt8.ofNat (v.c.toNat / 16777216),UInt8.ofNat (v.c.toNat / 65536),UInt8.ofNat (v.c.toNat / 256),UInt8.ofNat (v.c.toNat / 1),UInt8.ofNat (v.d.toNat / 72057594037927936),UInt8.ofNat (v.d.toNat / 281474976710656),UInt8.ofNat (v.d.toNat / 1099511627776),UInt8.ofNat (v.d.toNat / 4294967296),UInt8.ofNat (v.d.toNat / 16777216),UInt8.ofNat (v.d.toNat / 65536),UInt8.ofNat (v.d.toNat / 256),UInt8.ofNat (v.d.toNat / 1),UInt8.ofNat (v.e.toNat / 72057594037927936),UInt8.ofNat (v.e.toNat / 281474976710656),UInt8.ofNat (v.e.toNat / 1099511627776),UInt8.ofNat (v.e.toNat / 4294967296),UInt8.ofNat (v.e.toNat / 16777216),UInt8.ofNat (v.e.toNat / 65536),UInt8.ofNat (v.e.toNat / 256),UInt8.ofNat (v.e.toNat / 1),UInt8.ofNat (v.f.toNat / 72057594037927936),UInt8.ofNat (v.f.toNat / 281474976710656),UInt8.ofNat (v.f.toNat / 1099511627776),UInt8.ofNat (v.f.toNat / 4294967296),UInt8.ofNat (v.f.toNat / 16777216),UInt8.ofNat (v.f.toNat / 65536),UInt8.ofNat (v.f.toNat / 256),UInt8.ofNat (v.f.toNat / 1),UInt8.ofNat (v.g.toNat / 72057594037927936),UInt8.ofNat (v.g.toNat / 281474976710656),UInt8.ofNat (v.g.toNat / 1099511627776),UInt8.ofNat (v.g.toNat / 4294967296),UInt8.ofNat (v.g.toNat / 16777216),UInt8.ofNat (v.g.toNat / 65536),UInt8.ofNat (v.g.toNat / 256),UInt8.ofNat (v.g.toNat / 1),UInt8.ofNat (v.h.toNat / 72057594037927936),UInt8.ofNat (v.h.toNat / 281474976710656),UInt8.ofNat (v.h.toNat / 1099511627776),UInt8.ofNat (v.h.toNat / 4294967296),UInt8.ofNat (v.h.toNat / 16777216),UInt8.ofNat (v.h.toNat / 65536),UInt8.ofNat (v.h.toNat / 256),UInt8.ofNat (v.h.toNat / 1)]:=by
 simp only [GP,V8.list,List.flatMap_cons,List.flatMap_nil,toLE8r,List.cons_append,List.nil_append,bm]
theorem Zm (w:UInt64) {k:Int} (h0:0<=k) (h1:k < 64):aY .shr .u64 (w.toNat:Int) k=some (.int .u64 ((w.toNat / 2 ^ k.toNat:Nat):Int)):=by
 have:=qB w k.toNat aa
 rw [Int.toNat_of_nonneg h0] at this
 rw [this,U,UInt64.toNat_shiftRight,Nat.shiftRight_eq_div_pow,bR,aO (show k.toNat < 2 ^ 64 by omega),aO (show k.toNat < 64 by omega)]
theorem wb8 (n m:Nat):IntKind.wrap .u8 ((n / m:Nat):Int)=((UInt8.ofNat (n / m)).toNat:Int):=by
 rw [kY,dF]
theorem row_U {σ:ag} {l:List UInt64} {c:aD}:rowOf σ 1 (.vsl (l.map U) c)=some (l.map U):=by
 have h1:((l.map U).all fun e=>e.cells.length == 1)=true:=by simp [AV.cells]
 have h2:(l.map U).flatMap AV.cells=l.map U:=by
  induction l with
  | nil=>rfl
  | cons x l ih=>rw [List.map_cons,List.flatMap_cons,ih (by simp [AV.cells])]; rfl
 simp only [rowOf,h1,if_true,h2]
theorem qV {cs:ai} {c:aD} {l:Nat} (h:l<=cs.length) (ho:cs.all AV.one=true):dd 1 (.vsl cs c) (some (l:Int)) none none=some (.vsl (cs.drop l) (c.map (· - l))):=by
 have e1:(cs.all fun e=>e.cells.length == 1)=true:=by
  rw [bj] at ho ⊢
  intro x hx
  have:=ho x hx
  cases x <;> simp_all [AV.one,AV.cells]
 have e2:(0:Int)<=(l:Int)/\(l:Int)<=(cs.length:Int)/\(cs.length:Int)<=(cs.length:Int):=by omega
 simp only [dd,bounds,Option.getD_some,Option.getD_none,if_pos e2,e1,or_true,if_true,Int.toNat_natCast]
 rw [aQ (aE _)]
theorem UN (s:aG) (n:Nat):(af s).take n=af (s.take n):=by simp [af]
theorem UO (s:aG) (n:Nat):(af s).drop n=af (s.drop n):=by simp [af]
theorem Pg {ls:List (aG)} {s:aG} (hn:s.length < 1099511627776) (hj: ∃x σ',cf cF gU (.fn 376 [] []) [.vsl (ls.map cx) none, .nils] .empty=some (x,σ')/\Joined x σ' s)
  (gH:aB (ls.map cx)=true) (Nb:dT (ls.map cx)=ls.map cx):cR 278 [.vsl (ls.map cx) none]=some (bG (cO s)):=by
 have hp:=Pq hn hj
 have hK:=tabKK
 have hH:=tabHH
 have hlenP:=sk s
 have hT:=pX s.length
 have hcopy:jN ⟨2, [(1, .own (List.replicate 8 (.int .u64 0))),(0, .own (List.replicate 64 (.int .u8 0)))]⟩ 1 (.sl 1 0 8 1 (some 8)) (.vsl (HH.list.map U) none)=some (.int .i64 8,⟨2, [(1, .own HH.cells),(1, .own (List.replicate 8 (.int .u64 0))),(0, .own (List.replicate 64 (.int .u8 0)))]⟩):=by
  simp only [jN,lenOf,row_U]
  rfl
 generalize hP:eO s=P at*
 have W2:cO s=GP (mQ KK (kJ s.length / 128) HH P):=by rw [cO,hP]
 rw [W2]
 simp only [List.replicate] at hcopy
 refine aC (F:=TT) rfl ?_
 simp only [CM,wZ,wY,wX,TT,ax,seval,ae,@eB,yd,ay,hK,hH,hcopy,gH,Nb,hp]
 generalize hN:kJ s.length / 128=N at*
 generalize hR:mQ KK N HH P=R at*
 have hKl:KK.length=80:=rfl
 refine aL (S:=Nat×V8×aG) (fun q=> [(2, .ptr 0 0),(3, .vsl (KK.map U) none),(4, .ptr 1 0),(5,cx q.2.2)]) (fun q=>q.1)
  (fun q σ'=>look σ'.m 1=some (.own q.2.1.cells)/\look σ'.m 0=some (.own (List.replicate 64 (.int .u8 0)))/\2<=σ'.next/\q.2.2.length=128*q.1/\mQ KK q.1 q.2.1 q.2.2=R) ?_ (N,HH,P) _ ⟨rfl,rfl,aE _,by show P.length=128*N; omega,hR⟩
 rintro B ⟨k,v,rest⟩ σ1 ⟨g1,g0,g2,g3,g4⟩ ih
 simp only at g1 g0 g2 g3 g4 ih
 cases k with
 | zero=>
  have hr0:rest= []:=dW aa
  subst hr0
  have hv:v=R:=g4
  subst hv
  have hu:af []= []:=rfl
  have fX: ¬σ1.next=0:=by omega
  have hne1: ¬σ1.next=1:=by omega
  rw [P8]
  unfold V8.cells at g1
  simp only [List.replicate] at g0
  simp only [cx,hu]
  simp only [bG,af,List.map_cons,List.map_nil]
  simp only [CM,wZ,CN,wY,wX,Lb,TT,ax,seval,ae,ay,aT,@aP,@bk,U,g1,g0,fX,hne1,@Zm,wb8]
 | succ m=>
  have hgt:decide ((rest.length:Int) > 0)=true:=decide_eq_true aa
  have hle:128<=(af rest).length:=by rw [aU]; omega
  have s1:dd 1 (.vsl (af rest) none) none (some 128) none=some (.vsl ((af rest).take 128) none):=nT (n:=128) hle
  have s2:dd 1 (.vsl (af rest) none) (some 128) none none=some (.vsl ((af rest).drop 128) none):=qV (l:=128) hle (cI rest)
  rw [UN] at s1
  rw [UO] at s2
  obtain ⟨σ2,m1,m2,m3,m4⟩:=c_mix (b:=1) (v:=v) (s:=rest.take 128) (ks:=KK) (c1:=none) (c2:=none) (by rw [bE]; omega) hKl g1 aa
  simp only [CM,wZ,CN,wY,wX,TT,ax,seval,ae,cx,aU,hgt,s1,s2,m1]
  refine ih (m,MN KK v (rest.take 128),rest.drop 128) _ _ (aR m) ⟨m2,?_,by omega,by show (rest.drop 128).length=128*m; rw [gA]; omega,g4⟩ rfl
  rw [m4 0 aa (by decide)]; exact g0
theorem uD: ∀ls:List (aG),aB (ls.map cx)=true
 | []=>rfl
 | s ::ls=>by simp only [List.map_cons,aB,AV.closed,aK,uD ls,aV]
theorem SX: ∀ls:List (aG),dT (ls.map cx)=ls.map cx
 | []=>gM
 | s ::ls=>by rw [List.map_cons,dD,SX ls,jr,bS]
theorem r_shaN {a:aG} {rest:List (aG)} (hr:0 < rest.length) (Od:rest.length < 1099511627776) (h0:0 < a.length) (hn:(a ::rest).flatten.length < 1099511627776) :
  cR 278 [.vsl ((a ::rest).map cx) none]=some (bG (cO (a ::rest).flatten)):=
 Pg hn (c_join hr Od (by rw [List.flatten_cons,az]; omega) hn) (uD _) (SX _)
def Lw:=J @zi.eq_1 (J @zh.eq_1 (J @CB.eq_1 (J @td.eq_1 (J @tc.eq_1 (J @CC.eq_1 (J @ta.eq_1 (J @s9.eq_1 (J @K6.eq_1 (@N0.eq_1)))))))))
def T3:=J @zi.eq_1 (J @zh.eq_1 (J @CB.eq_1 (J @td.eq_1 (J @tc.eq_1 (J @ta.eq_1 (J @s9.eq_1 (@N0.eq_1)))))))
def D13Fc:=J @zi.eq_1 (J @zh.eq_1 (J @CB.eq_1 (J @td.eq_1 (J @tc.eq_1 (J @CC.eq_1 (J @ta.eq_1 (J @s9.eq_1 (@N0.eq_1))))))))
def eF (n:Nat):Nat:=(248 - (n+1) % 128) % 128
theorem PZ {n k:Nat} (h:k<=eF n):(n+1+k) % 128=120↔k=eF n:=by
 unfold eF at*; omega
theorem padJ_T (n:Nat):(kJ n=n+1+eF n+8∨kJ n=n+1+eF n+128+8):=by
 unfold kJ eF; omega
theorem KI {m j:Nat} (h:j < 8):(mR m)[j]? =some (UInt8.ofNat (m / 2 ^ (8*(7 - j)))):=by
 rw [mR,List.getElem?_reverse (by rw [bN]; omega),bN,o6,bO,List.getElem?_range aa,show 8 - 1 - j=7 - j by omega]
 rw [Option.map_some,show (256:Nat)=2 ^ 8 from rfl,←Nat.pow_mul]
theorem O1 {n k:Nat} (hn:n < 1099511627776) (hk:k < 64):aY .shr .u64 ((8*n:Nat):Int) ((k:Nat):Int)=some (.int .u64 ((8*n / 2 ^ k:Nat):Int)):=by
 have hu:((8*n:Nat):Int)=((UInt64.ofNat (8*n)).toNat:Int):=by
  rw [bR,aO aa]
 have:=qB (UInt64.ofNat (8*n)) k hk
 rw [hu,this,U,UInt64.toNat_shiftRight,Nat.shiftRight_eq_div_pow,bR,aO (show 8*n < 2 ^ 64 by omega),bR,aO (show k < 2 ^ 64 by omega),aO hk]
theorem Mv (s:aG) (hn:s.length < 1099511627776) (σ:ag): ∃x1 σ1 b σ2,aJ σ 1 1 (.vsl [] (some 0)) (af s) s.length=some (x1,σ1)/\aJ σ1 1 1 x1 [.int .u8 128] 1=some (.sl b 0 (s.length+1) 1 none,σ2)/\
  look σ2.m b=some (.own (af (s ++ [128])))/\b < σ2.next:=by
 have hr:rowOf σ 1 (.vsl [] (some 0))=some []:=rfl
 cases s with
 | nil=>
  refine ⟨.vsl [] (some 0),σ,σ.next,σ.alloc [.int .u8 128],?_,?_,?_,?_⟩
  ·unfold aJ
   simp only [lenOf]
   rw [if_pos ⟨by decide,by decide,by unfold bg; decide,rfl,rfl⟩]
   simp
  ·unfold aJ
   simp only [lenOf]
   rw [if_pos ⟨by decide,by decide,by unfold bg; decide,rfl,rfl⟩]
   simp [hr]
  ·simp [ag.alloc,look,af]
  ·simp [ag.alloc]
 | cons c l=>
  have fX:(c ::l).length≠0:=by simp
  have hp:0 < (c ::l).length:=by simp
  generalize c ::l=s at*
  have h1:aJ σ 1 1 (.vsl [] (some 0)) (af s) s.length=some (.sl σ.next 0 s.length 1 none,σ.alloc (af s)):=by
   unfold aJ
   simp only [lenOf,List.length_nil]
   rw [if_pos ⟨by decide,by decide,by unfold bg; omega,by rw [aU]; omega,cI s⟩]
   simp [hr,fX]
  have h2:look (σ.alloc (af s)).m σ.next=some (.own (af s)):=by simp [ag.alloc,look]
  obtain ⟨σ4,q1,q2,q3⟩:=j6 (c:=128) h2 (aU s) hp (by simp [ag.alloc]) aa
  refine ⟨_,_,_,σ4,h1,q1,?_,?_⟩
  ·rw [q2,l7]
  ·rw [q3]; exact aR _
theorem Ma {s:aG} (hn:s.length < 1099511627776):cR 335 [cx s, .int .i64 128]=some (cx (eO s)):=by
 obtain ⟨x1,σ1,b1,σ2,a1,a2,a3,a4⟩:=Mv s hn ⟨0, []⟩
 have hT:=padJ_T s.length
 have w1:IntKind.wrap .u64 (s.length:Int)=(s.length:Int):=iw aa aa
 have w2:IntKind.wrap .u64 ((s.length:Int)*8)=((8*s.length:Nat):Int):=by rw [iw aa aa]; omega
 have v1:IntKind.wrap .i64 ((s.length:Int)+17)=((s.length+17:Nat):Int):=by rw [aP aa aa]; omega
 have v2:IntKind.wrap .i64 (((s.length+17:Nat):Int)+127)=((s.length+17+127:Nat):Int):=by rw [aP aa aa]; omega
 have v3':Int.tdiv ((s.length+17+127:Nat):Int) 128=(((s.length+17+127) / 128:Nat):Int):=rfl
 have v3:IntKind.wrap .i64 (((s.length+17+127) / 128:Nat):Int)=(((s.length+17+127) / 128:Nat):Int):=aP aa aa
 have v4:IntKind.wrap .i64 ((((s.length+17+127) / 128:Nat):Int)*128)=((kJ s.length:Nat):Int):=by rw [aP aa aa]; unfold kJ; omega
 have v5:IntKind.wrap .i64 (((s.length+1+eF s.length:Nat):Int)+8)=((s.length+1+eF s.length+8:Nat):Int):=by rw [aP (by have:eF s.length < 128:=bb _ (by decide); omega) (by have:eF s.length < 128:=bb _ (by decide); omega)]; omega
 have hJ:eF s.length < 128:=bb _ (by decide)
 have c8:IntKind.wrap .i64 120=120:=rfl
 refine aC (F:=N0) rfl ?_
 have r128 {σ:ag} {c:aD}:rowOf σ 1 (.vsl [.int .u8 128] c)=some [.int .u8 128]:=rfl
 simp only [zi,zh,td,tc,ta,s9,N0,ax,seval,ae,ay,lenOf,tP,r128,aU,a1,a2]
 rw [show ((s.length+1:Nat))=s.length+1+0 from rfl]
 refine aL (S:=Nat×Nat) (fun p=> [(0,cx s),(1, .int .i64 128),(5, .sl p.2 0 (s.length+1+p.1) 1 none)]) (fun p=>eF s.length - p.1)
  (fun p σ'=>look σ'.m p.2=some (.own (af (s ++ [128] ++List.replicate p.1 0)))/\p.2 < σ'.next/\p.1<=eF s.length) ?_ (0,b1) _ ⟨by rw [List.replicate_zero,bm]; exact a3,a4,Nat.zero_le _⟩
 rintro B ⟨k,b⟩ σ3 ⟨g1,g2,g3⟩ ih
 simp only at g1 g2 g3 ih
 have M5:Int.tmod ((s.length+1+k:Nat):Int) 128=(((s.length+1+k) % 128:Nat):Int):=rfl
 have Oc:IntKind.wrap .i64 (((s.length+1+k) % 128:Nat):Int)=(((s.length+1+k) % 128:Nat):Int):=aP aa aa
 have yp:=PZ g3
 by_cases hk:k=eF s.length
 ·have fX:((((s.length+1+k) % 128:Nat):Int) == 120)=true:=by
   rw [beq_iff_eq]; have:=yp.2 hk; omega
  rcases hT with hT | hT
  ·have hgt:decide (((kJ s.length:Nat):Int) > ((s.length+1+eF s.length+8:Nat):Int))=false:=decide_eq_false aa
   subst hk
   simp only [T3,ax,seval,ae,ay,M5,Oc,fX,bne,c8,lenOf,aU,v1,v2,v3',v3,v4,v5,hgt,w1,w2]
   clear ih
   have hpd:s ++ [128] ++List.replicate (eF s.length) 0 ++mR (8*s.length)=eO s:=by
    rw [eO,show kJ s.length - s.length - 9=eF s.length by omega]
   rw [show ((s.length+1+eF s.length:Nat))=s.length+1+eF s.length+0 from rfl]
   have k8: ∀j:Nat,j < 8->(mR (8*s.length))[j]? =some (UInt8.ofNat (8*s.length / 2 ^ (8*(7 - j)))):=fun j hj=>KI hj
   refine aL (S:=Nat×Nat) (fun p=> [(5, .sl p.2 0 (s.length+1+eF s.length+p.1) 1 none),(7, .int .u64 ((8*s.length:Nat):Int)),(8, .int .i64 (7 - (p.1:Int)))]) (fun p=>8 - p.1)
    (fun p σ'=>look σ'.m p.2=some (.own (af (s ++ [128] ++List.replicate (eF s.length) 0 ++(mR (8*s.length)).take p.1)))/\p.2 < σ'.next/\p.1<=8) ?_ (0,b) _ ⟨by rw [List.take_zero,bm]; exact g1,g2,Nat.zero_le _⟩
   rintro B2 ⟨j,b2⟩ σ3 ⟨k1,k2,k3⟩ ir
   simp only at k1 k2 k3 ir
   by_cases hj:j=8
   ·subst hj
    have kc:decide ((7:Int) - ((8:Nat):Int)≥0)=false:=rfl
    rw [aQ (by rw [nH]; omega)] at k1
    rw [hpd] at k1
    have hR:rbE σ3 (.sl b2 0 (s.length+1+eF s.length+8) 1 none)=some (cx (eO s)):=by
     have gH:(af (eO s)).length=s.length+1+(eF s.length)+8:=by rw [aU,sk]; omega
     have:=nX (d:=23) (off:=0) (n:=s.length+1+(eF s.length)+8) (c:=none) k1 aa (aK _) (by
      have:=cI (eO s)
      rw [bj] at this ⊢
      intro x hx; have:=this x hx
      cases x <;> simp_all [AV.one,AV.notAgg])
     rw [List.drop_zero,aQ aa] at this
     unfold rbE
     rw [show bK=23+1 from rfl,this,Option.map_some,jr,bS]
    simp only [Lw,ax,seval,ae,kc,hR]
   ·have kc:decide ((7:Int) - (j:Int)≥0)=true:=decide_eq_true aa
    have iD:=k8 j aa
    have gH:(af (s ++ [128] ++List.replicate (eF s.length) 0 ++(mR (8*s.length)).take j)).length=s.length+1+(eF s.length)+j:=by
     rw [aU]; simp only [az,List.length_cons,List.length_nil,iV,bE,nH]; omega
    have hw:IntKind.wrap .i64 (7 - (j:Int) - 1)=7 - ((j+1:Nat):Int):=by rw [aP aa aa]; omega
    have tq: ∀c,(mR (8*s.length))[j]? =some c->(mR (8*s.length)).take (j+1)=(mR (8*s.length)).take j ++ [c]:=by
     intro c hc
     have hi:=(bA.1 hc).1
     rw [eR hi,(bA.1 hc).2]
    have hm8:IntKind.wrap .i64 (8*(7 - (j:Int)))=((8*(7 - j):Nat):Int):=by rw [aP aa aa]; omega
    have od:=O1 (n:=s.length) (k:=8*(7 - j)) hn aa
    have uj:IntKind.wrap .u8 ((8*s.length / 2 ^ (8*(7 - j)):Nat):Int)=((UInt8.ofNat (8*s.length / 2 ^ (8*(7 - j)))).toNat:Int):=by
     rw [kY,dF]
    obtain ⟨σ4,q1,q2,q3⟩:=j6 (c:=UInt8.ofNat (8*s.length / 2 ^ (8*(7 - j)))) k1 gH aa k2 aa
    generalize 8*s.length / 2 ^ (8*(7 - j))=y at*
    simp only [Lw,ax,seval,ae,kc,hm8,od,uj,lenOf,rowOf,AV.cells,q1,hw]
    refine ir (j+1,σ3.next) _ _ (by show 8 - (j+1) < 8 - j; omega) ⟨?_,by rw [q3]; exact aR _,by show j+1<=8; omega⟩ rfl
    show look σ4.m σ3.next=_
    rw [q2,l7,tq _ iD,bf]
  ·have hgt:decide (((kJ s.length:Nat):Int) > ((s.length+1+eF s.length+8:Nat):Int))=true:=decide_eq_true aa
   subst hk
   simp only [T3,ax,seval,ae,ay,M5,Oc,fX,bne,c8,lenOf,aU,v1,v2,v3',v3,v4,v5,hgt]
   clear ih
   rw [show ((s.length+1+eF s.length:Nat))=s.length+1+eF s.length+0 from rfl]
   refine aL (S:=Nat×Nat) (fun p=> [(0,cx s),(5, .sl p.2 0 (s.length+1+eF s.length+p.1) 1 none),(6, .int .i64 (p.1:Int))]) (fun p=>128 - p.1)
    (fun p σ'=>look σ'.m p.2=some (.own (af (s ++ [128] ++List.replicate (eF s.length+p.1) 0)))/\p.2 < σ'.next/\p.1<=128) ?_ (0,b) _ ⟨g1,g2,Nat.zero_le _⟩
   rintro B3 ⟨i,b3⟩ σ5 ⟨e1,e2,e3⟩ ih3
   simp only at e1 e2 e3 ih3
   by_cases hi:i=128
   ·subst hi
    have aN:decide (((128:Nat):Int) < 128)=false:=rfl
    simp only [D13Fc,ax,seval,ae,ay,aN,lenOf,aU,w1,w2]
    clear ih3
    have hpd:s ++ [128] ++List.replicate (eF s.length+128) 0 ++mR (8*s.length)=eO s:=by
     rw [eO,show kJ s.length - s.length - 9=eF s.length+128 by omega]
    rw [show s.length+1+eF s.length+128=s.length+1+(eF s.length+128)+0 by omega]
    have k8: ∀j:Nat,j < 8->(mR (8*s.length))[j]? =some (UInt8.ofNat (8*s.length / 2 ^ (8*(7 - j)))):=fun j hj=>KI hj
    refine aL (S:=Nat×Nat) (fun p=> [(5, .sl p.2 0 (s.length+1+(eF s.length+128)+p.1) 1 none),(7, .int .u64 ((8*s.length:Nat):Int)),(8, .int .i64 (7 - (p.1:Int)))]) (fun p=>8 - p.1)
     (fun p σ'=>look σ'.m p.2=some (.own (af (s ++ [128] ++List.replicate ((eF s.length+128)) 0 ++(mR (8*s.length)).take p.1)))/\p.2 < σ'.next/\p.1<=8) ?_ (0,b3) _ ⟨by rw [List.take_zero,bm]; exact e1,e2,Nat.zero_le _⟩
    rintro B2 ⟨j,b2⟩ σ3 ⟨k1,k2,k3⟩ ir
    simp only at k1 k2 k3 ir
    by_cases hj:j=8
    ·subst hj
     have kc:decide ((7:Int) - ((8:Nat):Int)≥0)=false:=rfl
     rw [aQ (by rw [nH]; omega)] at k1
     rw [hpd] at k1
     have hR:rbE σ3 (.sl b2 0 (s.length+1+(eF s.length+128)+8) 1 none)=some (cx (eO s)):=by
      have gH:(af (eO s)).length=s.length+1+((eF s.length+128))+8:=by rw [aU,sk]; omega
      have:=nX (d:=23) (off:=0) (n:=s.length+1+((eF s.length+128))+8) (c:=none) k1 aa (aK _) (by
       have:=cI (eO s)
       rw [bj] at this ⊢
       intro x hx; have:=this x hx
       cases x <;> simp_all [AV.one,AV.notAgg])
      rw [List.drop_zero,aQ aa] at this
      unfold rbE
      rw [show bK=23+1 from rfl,this,Option.map_some,jr,bS]
     simp only [Lw,ax,seval,ae,kc,hR]
    ·have kc:decide ((7:Int) - (j:Int)≥0)=true:=decide_eq_true aa
     have iD:=k8 j aa
     have gH:(af (s ++ [128] ++List.replicate ((eF s.length+128)) 0 ++(mR (8*s.length)).take j)).length=s.length+1+((eF s.length+128))+j:=by
      rw [aU]; simp only [az,List.length_cons,List.length_nil,iV,bE,nH]; omega
     have hw:IntKind.wrap .i64 (7 - (j:Int) - 1)=7 - ((j+1:Nat):Int):=by rw [aP aa aa]; omega
     have tq: ∀c,(mR (8*s.length))[j]? =some c->(mR (8*s.length)).take (j+1)=(mR (8*s.length)).take j ++ [c]:=by
      intro c hc
      have hi:=(bA.1 hc).1
      rw [eR hi,(bA.1 hc).2]
     have hm8:IntKind.wrap .i64 (8*(7 - (j:Int)))=((8*(7 - j):Nat):Int):=by rw [aP aa aa]; omega
     have od:=O1 (n:=s.length) (k:=8*(7 - j)) hn aa
     have uj:IntKind.wrap .u8 ((8*s.length / 2 ^ (8*(7 - j)):Nat):Int)=((UInt8.ofNat (8*s.length / 2 ^ (8*(7 - j)))).toNat:Int):=by
      rw [kY,dF]
     obtain ⟨σ4,q1,q2,q3⟩:=j6 (c:=UInt8.ofNat (8*s.length / 2 ^ (8*(7 - j)))) k1 gH aa k2 aa
     generalize 8*s.length / 2 ^ (8*(7 - j))=y at*
     simp only [Lw,ax,seval,ae,kc,hm8,od,uj,lenOf,rowOf,AV.cells,q1,hw]
     refine ir (j+1,σ3.next) _ _ (by show 8 - (j+1) < 8 - j; omega) ⟨?_,by rw [q3]; exact aR _,by show j+1<=8; omega⟩ rfl
     show look σ4.m σ3.next=_
     rw [q2,l7,tq _ iD,bf]
   ·have aN:decide ((i:Int) < 128)=true:=decide_eq_true aa
    have hw:IntKind.wrap .i64 ((i:Int)+1)=((i+1:Nat):Int):=by rw [aP aa aa]; omega
    have gH:(af (s ++ [128] ++List.replicate (eF s.length+i) 0)).length=s.length+1+eF s.length+i:=by rw [aU]; simp only [az,List.length_cons,List.length_nil,iV]; omega
    obtain ⟨σ4,q1,q2,q3⟩:=j6 (c:=0) e1 gH aa e2 aa
    rw [show (((0:UInt8).toNat:Nat):Int)=0 from rfl] at q1
    simp only [D13Fc,ax,seval,ae,aN,lenOf,rowOf,AV.cells,q1,hw]
    refine ih3 (i+1,σ5.next) _ _ (by show 128 - (i+1) < 128 - i; omega) ⟨?_,by rw [q3]; exact aR _,by show i+1<=128; omega⟩ rfl
    show look σ4.m σ5.next=_
    rw [q2,l7,bf,←Nat.add_assoc,List.replicate_succ']
 ·have fX:((((s.length+1+k) % 128:Nat):Int) == 120)=false:=by
   rw [cc]; intro hc; exact hk (yp.1 aa)
  have gH:(af (s ++ [128] ++List.replicate k 0)).length=s.length+1+k:=by rw [aU]; simp only [az,List.length_cons,List.length_nil,iV]
  obtain ⟨σ4,q1,q2,q3⟩:=j6 (c:=0) g1 gH aa g2 aa
  rw [show (((0:UInt8).toNat:Nat):Int)=0 from rfl] at q1
  simp only [T3,ax,seval,ae,M5,Oc,fX,bne,c8,lenOf,rowOf,AV.cells,q1]
  refine ih (k+1,σ3.next) _ _ (by show eF s.length - (k+1) < eF s.length - k; omega) ⟨?_,by rw [q3]; exact aR _,by show k+1<=eF s.length; omega⟩ rfl
  show look σ4.m σ3.next=_
  rw [q2,l7,bf,List.replicate_succ']
theorem S8 (l:aG) (c:UInt8):Om (l ++ [c])=Om l <<< 8 ||| c.toUInt64:=by
 rw [Om,Om,List.foldl_append]; rfl
def UE (s:aG) (j q:Nat):AV:=U (Om ((s.drop (8*q)).take (min 8 (j - 8*q))))
def N9 (s:aG) (j:Nat):ai:=(List.range 16).map (UE s j) ++List.replicate 64 (.int .u64 0)
theorem Uy (s:aG) (j:Nat):(N9 s j).length=80:=by simp [N9]
theorem wsB_at (s:aG) {j q:Nat} (h:q < 16):(N9 s j)[q]? =some (UE s j q):=by
 rw [N9,eQ (by simpa using h),bO,List.getElem?_range h]; rfl
theorem U3 {f g:Nat->AV} {i n:Nat} {x:AV} (hi:i < n) (h: ∀q,q < n->q≠i->f q=g q) (hx:g i=x) (T:ai) :
  ((List.range n).map f ++T).take i ++ [x] ++((List.range n).map f ++T).drop (i+1)=(List.range n).map g ++T:=by
 have hl:i < ((List.range n).map f ++T).length:=by simp; omega
 have e:=List.set_eq_take_append_cons_drop (l:=(List.range n).map f ++T) (i:=i) (a:=x)
 rw [if_pos hl] at e
 rw [bf,List.singleton_append,←e]
 apply List.ext_getElem?
 intro q
 rw [List.getElem?_set]
 by_cases hq:i=q
 ·subst hq
  rw [if_pos rfl,if_pos hl,eQ (by simpa using hi),bO,List.getElem?_range hi,Option.map_some,hx]
 ·rw [if_neg hq]
  by_cases hn:q < n
  ·rw [eQ (by simpa using hn),eQ (by simpa using hn),bO,bO,List.getElem?_range hn,Option.map_some,Option.map_some,h q hn (Ne.symm hq)]
  ·rw [fK (by simp; omega),fK (by simp; omega)]; simp
theorem Ux (s:aG) {j:Nat} {c:UInt8} (hj:j < 128) (hc:s[j]? =some c) :
  (N9 s j).take (j / 8) ++ [U (Om ((s.drop (8*(j / 8))).take (j % 8)) <<< 8 ||| c.toUInt64)] ++(N9 s j).drop (j / 8+1)=N9 s (j+1):=by
 refine U3 aa (fun q hq fX=> ?_) ?_ _
 ·unfold UE
  rw [show min 8 (j - 8*q)=min 8 (j+1 - 8*q) by omega]
 ·unfold UE
  have hd:(s.drop (8*(j / 8)))[j % 8]? =some c:=by
   rw [List.getElem?_drop,show 8*(j / 8)+j % 8=j by omega,hc]
  have hi:=(bA.1 hd).1
  rw [show min 8 (j+1 - 8*(j / 8))=j % 8+1 by omega,eR hi,(bA.1 hd).2,S8]
theorem UD (s:aG) (j:Nat):UE s j (j / 8)=U (Om ((s.drop (8*(j / 8))).take (j % 8))):=by
 unfold UE; rw [show min 8 (j - 8*(j / 8))=j % 8 by omega]
theorem OB (s:aG):N9 s 0=List.replicate 80 (.int .u64 0):=by
 have:(List.range 16).map (UE s 0)=List.replicate 16 (.int .u64 0):=by
  apply List.eq_replicate_iff.2
  refine ⟨by simp,fun b hb=> ?_⟩
  rw [List.mem_map] at hb
  obtain ⟨q,_,rfl⟩:=hb
  unfold UE
  rw [show min 8 (0 - 8*q)=0 by omega,List.take_zero]; rfl
 rw [N9,this]; rfl
theorem Uz (s:aG):N9 s 128=vI s 16:=by
 rw [N9,vI,jY,if_pos (by decide),Cb,List.map_map]
 refine congrArg (· ++_) ?_
 apply List.map_congr_left
 intro q hq
 have:=List.mem_range.1 hq
 unfold UE
 rw [show min 8 (128 - 8*q)=8 by omega]; rfl
theorem Wt (l:List UInt64):xW l=l.getD (l.length - 16) 0+l.getD (l.length - 7) 0+OX (l.getD (l.length - 15) 0)+OW (l.getD (l.length - 2) 0):=by
 have e: ∀a b c:UInt64,a+b+c=a+c+b:=fun a b c=>by rw [UInt64.add_assoc,UInt64.add_comm b,←UInt64.add_assoc]
 rw [xW,e (l.getD (l.length - 16) 0)]
theorem Pl:cR 333 []=some (.agg (KK.map U)):=cQ 100 (by kernel_rfl)
theorem Pp:cR 334 []=some (.agg HH.cells):=cQ 100 (by kernel_rfl)
theorem US (u:V8) (y w:UInt64):zJ u (w+y)=
  ⟨u.h+(rotl u.e 50 ^^^ rotl u.e 46 ^^^ rotl u.e 23)+((u.e &&& u.f) ^^^ (~~~u.e &&& u.g))+y+w+((rotl u.a 36 ^^^ rotl u.a 30 ^^^ rotl u.a 25)+((u.a &&& u.b) ^^^ (u.a &&& u.c) ^^^ (u.b &&& u.c))),u.a,u.b,u.c,
  u.d+(u.h+(rotl u.e 50 ^^^ rotl u.e 46 ^^^ rotl u.e 23)+((u.e &&& u.f) ^^^ (~~~u.e &&& u.g))+y+w),u.e,u.f,u.g⟩:=by
 have e: ∀z:UInt64,z+(w+y)=z+y+w:=fun z=>by rw [UInt64.add_comm w y,UInt64.add_assoc]
 simp only [zJ,e]
end Go.Ab
