/- What functions of the program, and of the library, answer. Conditions: none. -/
import Derived.Test.YtgfeimceppggcaaGreatDoorLaw10
import Derived.Test.YtgfeimceppggcaaGreatDoorLaw9
import Derived.Test.YtgfeimceppggcaaGreatDoorLaw8
import Derived.Test.YtgfeimceppggcaaGreatDoorLaw2
set_option linter.unusedVariables false
set_option linter.unusedSimpArgs false
set_option linter.defProp false
set_option linter.unnecessarySimpa false
namespace Go.Ab
set_option maxRecDepth 100000
set_option maxHeartbeats 1000000
def vD:=J @Ci.eq_1 (J @wK.eq_1 (J @wJ.eq_1 (@TQ.eq_1)))
theorem SU {σ0:ag} {b n u0:Nat} {c:aD} {l:Bs} (hl:l.length=24) (h:look σ0.m b=some (.own (af l))) (hu0:u0 < 18446744073709551616) (h0:0 < u0) (hn:n=(dQ u0).length) :
  ∃σ',cf cF gU (.fn 395 [] []) [.sl b 0 n 1 c, .int .u64 (u0:Int)] σ0=some (.tup [],σ')/\look σ'.m b=some (.own (af (dQ u0 ++l.drop n)))/\σ'.next=σ0.next/\∀j,j≠b->look σ'.m j=look σ0.m j:=by
 have hn20:n<=20:=by rw [hn]; exact kp 19 u0 (bU hu0 (by decide))
 have ix (j:Nat) (hj:j < n):idxOf 1 none (.sl b 0 n 1 c) (.int .i64 (j:Int))=some (.ptr b j):=by simp [idxOf,hj]
 have two (z:Nat) (hz:z < 10000):Int.tmod ((z:Nat):Int) 100=((z % 100:Nat):Int)/\Int.tdiv ((z:Nat):Int) 100=((z / 100:Nat):Int)/\IntKind.wrap .u32 ((z % 100:Nat):Int)=((z % 100:Nat):Int)/\IntKind.wrap .u32 ((z / 100:Nat):Int)=((z / 100:Nat):Int):=
  ⟨rfl,rfl,wrap_u32 aa aa,wrap_u32 aa aa⟩
 have Dn (z:Nat) (hz:z < 100):IntKind.wrap .u32 ((z:Int)*2)=((z*2:Nat):Int)/\IntKind.wrap .u32 (((z*2:Nat):Int)+1)=((z*2+1:Nat):Int)/\
   cC (.str Gf) (.int .u32 ((z*2:Nat):Int))=some (.int .u8 ((UInt8.ofNat (48+z / 10)).toNat:Int))/\cC (.str Gf) (.int .u32 ((z*2+1:Nat):Int))=some (.int .u8 ((UInt8.ofNat (48+z % 10)).toNat:Int)):=
  ⟨by rw [wrap_u32 aa aa]; omega,by rw [wrap_u32 aa aa]; omega,oH (ZA hz),oH (Zz hz)⟩
 refine uC (F:=TQ) rfl ?_
 simp only [Ci,wK,TQ,ax,seval,ae,ay]
 have M9:=Xx h0
 rw [←hn] at M9
 refine aL (S:=Nat×Nat×Bs) (fun q=> [(0, .sl b 0 n 1 c),(1, .int .u64 (q.2.1:Int)),(4, .int .i64 (q.1:Int))]) (fun q=>q.1)
  (fun q σ=>q.1<=n/\Fits q.1 q.2.1/\q.2.1 < 18446744073709551616/\look σ.m b=some (.own (af (l.take q.1) ++af q.2.2))/\iR q.2.1 ++q.2.2=dQ u0 ++l.drop n/\σ.next=σ0.next/\∀j,j≠b->look σ.m j=look σ0.m j) ?_ (n,u0,l.drop n) _
  ⟨aE _,M9,hu0,by rw [←kB,ep]; exact h,by show iR u0 ++_=_; unfold iR; rw [if_neg aa],rfl,fun _ _=>rfl⟩
 rintro B ⟨i,u,s⟩ σ ⟨h1,h2,h3,h4,h5,h6,h7⟩ ih
 simp only at h1 h2 h3 h4 h5 h6 h7 ih
 by_cases hi8:8<=i
 ·obtain ⟨m,rfl⟩ : ∃m,i=m+8:=⟨i - 8,by omega⟩
  obtain ⟨c0,c1,c2,c3,c4,c5,c6,c7,Hl⟩ : ∃c0 c1 c2 c3 c4 c5 c6 c7,af (l.take (m+8))=af (l.take m) ++ [c0,c1,c2,c3,c4,c5,c6,c7]:=by
   have e:l.take (m+8)=l.take m ++(l.drop m).take 8:=by rw [←List.take_add]
   have hc:(af ((l.drop m).take 8)).length=8:=by rw [aU,bE,gA]; omega
   rw [e,kB]
   match af ((l.drop m).take 8),hc with
   | [c0,c1,c2,c3,c4,c5,c6,c7],_=>exact ⟨c0,c1,c2,c3,c4,c5,c6,c7,rfl⟩
  rw [Hl,bf] at h4
  simp only [List.cons_append,List.nil_append] at h4
  have kc:=Fits.ge (k:=7) h2 aa
  refine XY hn20 h1 (by rw [aU,bE]; omega) h3 h4 (fun fr' σ' e1 e2 e3 e4=> ?_)
  refine ih (m,u / 100000000, [dg (u / 10000000),dg (u / 1000000),dg (u / 100000),dg (u / 10000),dg (u / 1000),dg (u / 100),dg (u / 10),dg u] ++s) fr' σ' (by show m < m+8; omega) ⟨by omega,?_,by show u / 100000000 < _; omega,?_,?_,by rw [e2]; exact h6,fun j hj=>by rw [e3 j hj]; exact h7 j hj⟩ e1
  ·have:=Fits.div (k:=8) h2 aa
   rwa [Nat.add_sub_cancel] at this
  ·rw [kB]; exact e4
  ·rw [←h5,decP_8 (u:=u) (by simpa using kc)]
 ·have hii:i=0∨i=1∨i=2∨i=3∨i=4∨i=5∨i=6∨i=7:=by omega
  have hSl:(af s).length=s.length:=aU s
  rcases hii with rfl | rfl | rfl | rfl | rfl | rfl | rfl | rfl
  ·
   have hu0':u=0:=by rcases h2 with h2 | h2; exact h2.2; omega
   subst hu0'
   have hP:af (l.take 0)= []:=rfl
   rw [hP] at h4
   have w0:IntKind.wrap .u32 ((0:Nat):Int)=0:=rfl
   have b8:decide (((0:Nat):Int)≥8)=false:=rfl
   have rn:iR 0 ++s= [] ++s:=by
    rfl
   rw [←h5,rn]
   simp only [List.cons_append,List.nil_append] at h4
   skip
   simp only [vD,ax,seval,ae,hSl,Nat.zero_le,Nat.le_add_left,h4,b8,w0]
   exact ⟨h6,fun j hj=>h7 j hj⟩
  ·
   have WZ:1<=u:=Fits.ge (k:=0) h2 (by decide)
   have Hk:u < 10:=by rcases h2 with h2 | h2; omega; exact h2.2.2
   obtain ⟨c0,hP⟩ : ∃c0,af (l.take 1)= [c0]:=by
    have hc:(af (l.take 1)).length=1:=by rw [aU,bE]; omega
    match af (l.take 1),hc with
    | [c0],_=>exact ⟨c0,rfl⟩
   rw [hP] at h4
   have w0:IntKind.wrap .u32 (u:Int)=(u:Int):=wrap_u32 aa aa
   have s1:IntKind.wrap .u32 (48+((u:Nat):Int))=((48+(u):Nat):Int):=by rw [wrap_u32 aa aa]; omega
   have s2:IntKind.wrap .u8 ((48+(u):Nat):Int)=((UInt8.ofNat (48+(u))).toNat:Int):=by rw [kY,dF]
   have i0:idxOf 1 none (.sl b 0 n 1 c) (.int .i64 0)=some (.ptr b 0):=ix 0 aa
   have v0:IntKind.wrap .i64 0=0:=rfl
   have b8:decide (((1:Nat):Int)≥8)=false:=rfl
   have rn:iR u ++s= [UInt8.ofNat (48+(u))] ++s:=by
    rw [BV (u:=u) aa aa]
    simp only [dg,List.cons_append,List.nil_append]
    congr 1 <;> first | (congr 1; omega) | skip
   rw [←h5,rn]
   simp only [List.cons_append,List.nil_append] at h4
   skip
   simp only [vD,ax,seval,ae,hSl,Nat.zero_le,Nat.le_add_left,h4,b8,w0,s1,s2,i0,v0]
   refine ⟨?_,?_,fun j hj=> ?_⟩
   ·simp [look,af,h4]
   ·exact h6
   ·have: ¬b=j:=fun e=>hj e.symm
    simp [look,this,h7 j hj]
  ·
   have WZ:10<=u:=Fits.ge (k:=1) h2 (by decide)
   have Hk:u < 100:=by rcases h2 with h2 | h2; omega; exact h2.2.2
   obtain ⟨c0,c1,hP⟩ : ∃c0 c1,af (l.take 2)= [c0,c1]:=by
    have hc:(af (l.take 2)).length=2:=by rw [aU,bE]; omega
    match af (l.take 2),hc with
    | [c0,c1],_=>exact ⟨c0,c1,rfl⟩
   rw [hP] at h4
   have w0:IntKind.wrap .u32 (u:Int)=(u:Int):=wrap_u32 aa aa
   have r1:Int.tmod ((u:Nat):Int) 100=((u % 100:Nat):Int):=rfl
   have r2:Int.tdiv ((u:Nat):Int) 100=((u / 100:Nat):Int):=rfl
   have r3:IntKind.wrap .u32 ((u % 100:Nat):Int)=((u % 100:Nat):Int):=wrap_u32 aa aa
   have r4:IntKind.wrap .u32 ((u / 100:Nat):Int)=((u / 100:Nat):Int):=wrap_u32 aa aa
   obtain ⟨k1,k2,k3,k4⟩:=Dn (u % 100) aa
   have i0:idxOf 1 none (.sl b 0 n 1 c) (.int .i64 0)=some (.ptr b 0):=ix 0 aa
   have i1:idxOf 1 none (.sl b 0 n 1 c) (.int .i64 1)=some (.ptr b 1):=ix 1 aa
   have v0:IntKind.wrap .i64 0=0:=rfl
   have v1:IntKind.wrap .i64 1=1:=rfl
   have b8:decide (((2:Nat):Int)≥8)=false:=rfl
   have rn:iR u ++s= [UInt8.ofNat (48+u % 100 / 10),UInt8.ofNat (48+u % 100 % 10)] ++s:=by
    rw [BU (u:=u) aa,show iR (u / 100)= [] from by unfold iR; rw [if_pos aa]]
    simp only [dg,List.cons_append,List.nil_append]
    congr 1 <;> first | (congr 1; omega) | skip
    all_goals try (congr 1 <;> first | (congr 1; omega) | skip)
   rw [←h5,rn]
   simp only [List.cons_append,List.nil_append] at h4
   unfold Gf at*
   simp only [vD,ax,seval,ae,hSl,Nat.zero_le,Nat.le_add_left,h4,b8,w0,r1,r2,r3,r4,k1,k2,k3,k4,i0,i1,v0,v1]
   refine ⟨?_,?_,fun j hj=> ?_⟩
   ·simp [look,af,h4]
   ·exact h6
   ·have: ¬b=j:=fun e=>hj e.symm
    simp [look,this,h7 j hj]
  ·
   have WZ:100<=u:=Fits.ge (k:=2) h2 (by decide)
   have Hk:u < 1000:=by rcases h2 with h2 | h2; omega; exact h2.2.2
   obtain ⟨c0,c1,c2,hP⟩ : ∃c0 c1 c2,af (l.take 3)= [c0,c1,c2]:=by
    have hc:(af (l.take 3)).length=3:=by rw [aU,bE]; omega
    match af (l.take 3),hc with
    | [c0,c1,c2],_=>exact ⟨c0,c1,c2,rfl⟩
   rw [hP] at h4
   have w0:IntKind.wrap .u32 (u:Int)=(u:Int):=wrap_u32 aa aa
   have r1:Int.tmod ((u:Nat):Int) 100=((u % 100:Nat):Int):=rfl
   have r2:Int.tdiv ((u:Nat):Int) 100=((u / 100:Nat):Int):=rfl
   have r3:IntKind.wrap .u32 ((u % 100:Nat):Int)=((u % 100:Nat):Int):=wrap_u32 aa aa
   have r4:IntKind.wrap .u32 ((u / 100:Nat):Int)=((u / 100:Nat):Int):=wrap_u32 aa aa
   obtain ⟨k1,k2,k3,k4⟩:=Dn (u % 100) aa
   have s1:IntKind.wrap .u32 (48+((u / 100:Nat):Int))=((48+(u / 100):Nat):Int):=by rw [wrap_u32 aa aa]; omega
   have s2:IntKind.wrap .u8 ((48+(u / 100):Nat):Int)=((UInt8.ofNat (48+(u / 100))).toNat:Int):=by rw [kY,dF]
   have i0:idxOf 1 none (.sl b 0 n 1 c) (.int .i64 0)=some (.ptr b 0):=ix 0 aa
   have i1:idxOf 1 none (.sl b 0 n 1 c) (.int .i64 1)=some (.ptr b 1):=ix 1 aa
   have i2:idxOf 1 none (.sl b 0 n 1 c) (.int .i64 2)=some (.ptr b 2):=ix 2 aa
   have v0:IntKind.wrap .i64 0=0:=rfl
   have v1:IntKind.wrap .i64 1=1:=rfl
   have v2:IntKind.wrap .i64 2=2:=rfl
   have b8:decide (((3:Nat):Int)≥8)=false:=rfl
   have rn:iR u ++s= [UInt8.ofNat (48+(u / 100)),UInt8.ofNat (48+u % 100 / 10),UInt8.ofNat (48+u % 100 % 10)] ++s:=by
    rw [BU (u:=u) aa,BV (u:=u / 100) aa aa]
    simp only [dg,List.cons_append,List.nil_append]
    congr 1 <;> first | (congr 1; omega) | skip
    all_goals try (congr 1 <;> first | (congr 1; omega) | skip)
    all_goals try (congr 1 <;> first | (congr 1; omega) | skip)
   rw [←h5,rn]
   simp only [List.cons_append,List.nil_append] at h4
   unfold Gf at*
   simp only [vD,ax,seval,ae,hSl,Nat.zero_le,Nat.le_add_left,h4,b8,w0,r1,r2,r3,r4,k1,k2,k3,k4,s1,s2,i0,i1,i2,v0,v1,v2]
   refine ⟨?_,?_,fun j hj=> ?_⟩
   ·simp [look,af,h4]
   ·exact h6
   ·have: ¬b=j:=fun e=>hj e.symm
    simp [look,this,h7 j hj]
  ·
   have WZ:1000<=u:=Fits.ge (k:=3) h2 (by decide)
   have Hk:u < 10000:=by rcases h2 with h2 | h2; omega; exact h2.2.2
   obtain ⟨c0,c1,c2,c3,hP⟩ : ∃c0 c1 c2 c3,af (l.take 4)= [c0,c1,c2,c3]:=by
    have hc:(af (l.take 4)).length=4:=by rw [aU,bE]; omega
    match af (l.take 4),hc with
    | [c0,c1,c2,c3],_=>exact ⟨c0,c1,c2,c3,rfl⟩
   rw [hP] at h4
   have w0:IntKind.wrap .u32 (u:Int)=(u:Int):=wrap_u32 aa aa
   have t1:Int.tmod (u:Int) 10000=((u % 10000:Nat):Int):=rfl
   have t2:Int.tdiv (u:Int) 10000=((u / 10000:Nat):Int):=rfl
   have t3:IntKind.wrap .u32 ((u % 10000:Nat):Int)=((u % 10000:Nat):Int):=wrap_u32 aa aa
   have t4:IntKind.wrap .u32 ((u / 10000:Nat):Int)=((u / 10000:Nat):Int):=wrap_u32 aa aa
   obtain ⟨a1,a2,a3,a4⟩:=two (u % 10000) aa
   obtain ⟨f1,f2,f3,f4⟩:=Dn (u % 10000 % 100) aa
   obtain ⟨g1,g2,g3,g4⟩:=Dn (u % 10000 / 100) aa
   have i0:idxOf 1 none (.sl b 0 n 1 c) (.int .i64 0)=some (.ptr b 0):=ix 0 aa
   have i1:idxOf 1 none (.sl b 0 n 1 c) (.int .i64 1)=some (.ptr b 1):=ix 1 aa
   have i2:idxOf 1 none (.sl b 0 n 1 c) (.int .i64 2)=some (.ptr b 2):=ix 2 aa
   have i3:idxOf 1 none (.sl b 0 n 1 c) (.int .i64 3)=some (.ptr b 3):=ix 3 aa
   have v0:IntKind.wrap .i64 0=0:=rfl
   have v1:IntKind.wrap .i64 1=1:=rfl
   have v2:IntKind.wrap .i64 2=2:=rfl
   have v3:IntKind.wrap .i64 3=3:=rfl
   have b8:decide (((4:Nat):Int)≥8)=false:=rfl
   have rn:iR u ++s= [UInt8.ofNat (48+u % 10000 / 100 / 10),UInt8.ofNat (48+u % 10000 / 100 % 10),UInt8.ofNat (48+u % 10000 % 100 / 10),UInt8.ofNat (48+u % 10000 % 100 % 10)] ++s:=by
    rw [BT (u:=u) aa,show iR (u / 10000)= [] from by unfold iR; rw [if_pos aa]]
    simp only [dg,List.cons_append,List.nil_append]
    congr 1 <;> first | (congr 1; omega) | skip
    all_goals try (congr 1 <;> first | (congr 1; omega) | skip)
    all_goals try (congr 1 <;> first | (congr 1; omega) | skip)
    all_goals try (congr 1 <;> first | (congr 1; omega) | skip)
   rw [←h5,rn]
   simp only [List.cons_append,List.nil_append] at h4
   unfold Gf at*
   simp only [vD,ax,seval,ae,hSl,Nat.zero_le,Nat.le_add_left,h4,b8,w0,t1,t2,t3,t4,a1,a2,a3,a4,f1,f2,f3,f4,g1,g2,g3,g4,i0,i1,i2,i3,v0,v1,v2,v3]
   refine ⟨?_,?_,fun j hj=> ?_⟩
   ·simp [look,af,h4]
   ·exact h6
   ·have: ¬b=j:=fun e=>hj e.symm
    simp [look,this,h7 j hj]
  ·
   have WZ:10000<=u:=Fits.ge (k:=4) h2 (by decide)
   have Hk:u < 100000:=by rcases h2 with h2 | h2; omega; exact h2.2.2
   obtain ⟨c0,c1,c2,c3,c4,hP⟩ : ∃c0 c1 c2 c3 c4,af (l.take 5)= [c0,c1,c2,c3,c4]:=by
    have hc:(af (l.take 5)).length=5:=by rw [aU,bE]; omega
    match af (l.take 5),hc with
    | [c0,c1,c2,c3,c4],_=>exact ⟨c0,c1,c2,c3,c4,rfl⟩
   rw [hP] at h4
   have w0:IntKind.wrap .u32 (u:Int)=(u:Int):=wrap_u32 aa aa
   have t1:Int.tmod (u:Int) 10000=((u % 10000:Nat):Int):=rfl
   have t2:Int.tdiv (u:Int) 10000=((u / 10000:Nat):Int):=rfl
   have t3:IntKind.wrap .u32 ((u % 10000:Nat):Int)=((u % 10000:Nat):Int):=wrap_u32 aa aa
   have t4:IntKind.wrap .u32 ((u / 10000:Nat):Int)=((u / 10000:Nat):Int):=wrap_u32 aa aa
   obtain ⟨a1,a2,a3,a4⟩:=two (u % 10000) aa
   obtain ⟨f1,f2,f3,f4⟩:=Dn (u % 10000 % 100) aa
   obtain ⟨g1,g2,g3,g4⟩:=Dn (u % 10000 / 100) aa
   have s1:IntKind.wrap .u32 (48+((u / 10000:Nat):Int))=((48+(u / 10000):Nat):Int):=by rw [wrap_u32 aa aa]; omega
   have s2:IntKind.wrap .u8 ((48+(u / 10000):Nat):Int)=((UInt8.ofNat (48+(u / 10000))).toNat:Int):=by rw [kY,dF]
   have i0:idxOf 1 none (.sl b 0 n 1 c) (.int .i64 0)=some (.ptr b 0):=ix 0 aa
   have i1:idxOf 1 none (.sl b 0 n 1 c) (.int .i64 1)=some (.ptr b 1):=ix 1 aa
   have i2:idxOf 1 none (.sl b 0 n 1 c) (.int .i64 2)=some (.ptr b 2):=ix 2 aa
   have i3:idxOf 1 none (.sl b 0 n 1 c) (.int .i64 3)=some (.ptr b 3):=ix 3 aa
   have i4:idxOf 1 none (.sl b 0 n 1 c) (.int .i64 4)=some (.ptr b 4):=ix 4 aa
   have v0:IntKind.wrap .i64 0=0:=rfl
   have v1:IntKind.wrap .i64 1=1:=rfl
   have v2:IntKind.wrap .i64 2=2:=rfl
   have v3:IntKind.wrap .i64 3=3:=rfl
   have v4:IntKind.wrap .i64 4=4:=rfl
   have b8:decide (((5:Nat):Int)≥8)=false:=rfl
   have rn:iR u ++s= [UInt8.ofNat (48+(u / 10000)),UInt8.ofNat (48+u % 10000 / 100 / 10),UInt8.ofNat (48+u % 10000 / 100 % 10),UInt8.ofNat (48+u % 10000 % 100 / 10),UInt8.ofNat (48+u % 10000 % 100 % 10)] ++s:=by
    rw [BT (u:=u) aa,BV (u:=u / 10000) aa aa]
    simp only [dg,List.cons_append,List.nil_append]
    congr 1 <;> first | (congr 1; omega) | skip
    all_goals try (congr 1 <;> first | (congr 1; omega) | skip)
    all_goals try (congr 1 <;> first | (congr 1; omega) | skip)
    all_goals try (congr 1 <;> first | (congr 1; omega) | skip)
    all_goals try (congr 1 <;> first | (congr 1; omega) | skip)
   rw [←h5,rn]
   simp only [List.cons_append,List.nil_append] at h4
   unfold Gf at*
   simp only [vD,ax,seval,ae,hSl,Nat.zero_le,Nat.le_add_left,h4,b8,w0,t1,t2,t3,t4,a1,a2,a3,a4,f1,f2,f3,f4,g1,g2,g3,g4,s1,s2,i0,i1,i2,i3,i4,v0,v1,v2,v3,v4]
   refine ⟨?_,?_,fun j hj=> ?_⟩
   ·simp [look,af,h4]
   ·exact h6
   ·have: ¬b=j:=fun e=>hj e.symm
    simp [look,this,h7 j hj]
  ·
   have WZ:100000<=u:=Fits.ge (k:=5) h2 (by decide)
   have Hk:u < 1000000:=by rcases h2 with h2 | h2; omega; exact h2.2.2
   obtain ⟨c0,c1,c2,c3,c4,c5,hP⟩ : ∃c0 c1 c2 c3 c4 c5,af (l.take 6)= [c0,c1,c2,c3,c4,c5]:=by
    have hc:(af (l.take 6)).length=6:=by rw [aU,bE]; omega
    match af (l.take 6),hc with
    | [c0,c1,c2,c3,c4,c5],_=>exact ⟨c0,c1,c2,c3,c4,c5,rfl⟩
   rw [hP] at h4
   have w0:IntKind.wrap .u32 (u:Int)=(u:Int):=wrap_u32 aa aa
   have t1:Int.tmod (u:Int) 10000=((u % 10000:Nat):Int):=rfl
   have t2:Int.tdiv (u:Int) 10000=((u / 10000:Nat):Int):=rfl
   have t3:IntKind.wrap .u32 ((u % 10000:Nat):Int)=((u % 10000:Nat):Int):=wrap_u32 aa aa
   have t4:IntKind.wrap .u32 ((u / 10000:Nat):Int)=((u / 10000:Nat):Int):=wrap_u32 aa aa
   obtain ⟨a1,a2,a3,a4⟩:=two (u % 10000) aa
   obtain ⟨f1,f2,f3,f4⟩:=Dn (u % 10000 % 100) aa
   obtain ⟨g1,g2,g3,g4⟩:=Dn (u % 10000 / 100) aa
   have r1:Int.tmod ((u / 10000:Nat):Int) 100=((u / 10000 % 100:Nat):Int):=rfl
   have r2:Int.tdiv ((u / 10000:Nat):Int) 100=((u / 10000 / 100:Nat):Int):=rfl
   have r3:IntKind.wrap .u32 ((u / 10000 % 100:Nat):Int)=((u / 10000 % 100:Nat):Int):=wrap_u32 aa aa
   have r4:IntKind.wrap .u32 ((u / 10000 / 100:Nat):Int)=((u / 10000 / 100:Nat):Int):=wrap_u32 aa aa
   obtain ⟨k1,k2,k3,k4⟩:=Dn (u / 10000 % 100) aa
   have i0:idxOf 1 none (.sl b 0 n 1 c) (.int .i64 0)=some (.ptr b 0):=ix 0 aa
   have i1:idxOf 1 none (.sl b 0 n 1 c) (.int .i64 1)=some (.ptr b 1):=ix 1 aa
   have i2:idxOf 1 none (.sl b 0 n 1 c) (.int .i64 2)=some (.ptr b 2):=ix 2 aa
   have i3:idxOf 1 none (.sl b 0 n 1 c) (.int .i64 3)=some (.ptr b 3):=ix 3 aa
   have i4:idxOf 1 none (.sl b 0 n 1 c) (.int .i64 4)=some (.ptr b 4):=ix 4 aa
   have i5:idxOf 1 none (.sl b 0 n 1 c) (.int .i64 5)=some (.ptr b 5):=ix 5 aa
   have v0:IntKind.wrap .i64 0=0:=rfl
   have v1:IntKind.wrap .i64 1=1:=rfl
   have v2:IntKind.wrap .i64 2=2:=rfl
   have v3:IntKind.wrap .i64 3=3:=rfl
   have v4:IntKind.wrap .i64 4=4:=rfl
   have v5:IntKind.wrap .i64 5=5:=rfl
   have b8:decide (((6:Nat):Int)≥8)=false:=rfl
   have rn:iR u ++s= [UInt8.ofNat (48+u / 10000 % 100 / 10),UInt8.ofNat (48+u / 10000 % 100 % 10),UInt8.ofNat (48+u % 10000 / 100 / 10),UInt8.ofNat (48+u % 10000 / 100 % 10),UInt8.ofNat (48+u % 10000 % 100 / 10),UInt8.ofNat (48+u % 10000 % 100 % 10)] ++s:=by
    rw [BT (u:=u) aa,BU (u:=u / 10000) aa,show iR (u / 10000 / 100)= [] from by unfold iR; rw [if_pos aa]]
    simp only [dg,List.cons_append,List.nil_append]
    congr 1 <;> first | (congr 1; omega) | skip
    all_goals try (congr 1 <;> first | (congr 1; omega) | skip)
    all_goals try (congr 1 <;> first | (congr 1; omega) | skip)
    all_goals try (congr 1 <;> first | (congr 1; omega) | skip)
    all_goals try (congr 1 <;> first | (congr 1; omega) | skip)
    all_goals try (congr 1 <;> first | (congr 1; omega) | skip)
   rw [←h5,rn]
   simp only [List.cons_append,List.nil_append] at h4
   unfold Gf at*
   simp only [vD,ax,seval,ae,hSl,Nat.zero_le,Nat.le_add_left,h4,b8,w0,t1,t2,t3,t4,a1,a2,a3,a4,f1,f2,f3,f4,g1,g2,g3,g4,r1,r2,r3,r4,k1,k2,k3,k4,i0,i1,i2,i3,i4,i5,v0,v1,v2,v3,v4,v5]
   refine ⟨?_,?_,fun j hj=> ?_⟩
   ·simp [look,af,h4]
   ·exact h6
   ·have: ¬b=j:=fun e=>hj e.symm
    simp [look,this,h7 j hj]
  ·
   have WZ:1000000<=u:=Fits.ge (k:=6) h2 (by decide)
   have Hk:u < 10000000:=by rcases h2 with h2 | h2; omega; exact h2.2.2
   obtain ⟨c0,c1,c2,c3,c4,c5,c6,hP⟩ : ∃c0 c1 c2 c3 c4 c5 c6,af (l.take 7)= [c0,c1,c2,c3,c4,c5,c6]:=by
    have hc:(af (l.take 7)).length=7:=by rw [aU,bE]; omega
    match af (l.take 7),hc with
    | [c0,c1,c2,c3,c4,c5,c6],_=>exact ⟨c0,c1,c2,c3,c4,c5,c6,rfl⟩
   rw [hP] at h4
   have w0:IntKind.wrap .u32 (u:Int)=(u:Int):=wrap_u32 aa aa
   have t1:Int.tmod (u:Int) 10000=((u % 10000:Nat):Int):=rfl
   have t2:Int.tdiv (u:Int) 10000=((u / 10000:Nat):Int):=rfl
   have t3:IntKind.wrap .u32 ((u % 10000:Nat):Int)=((u % 10000:Nat):Int):=wrap_u32 aa aa
   have t4:IntKind.wrap .u32 ((u / 10000:Nat):Int)=((u / 10000:Nat):Int):=wrap_u32 aa aa
   obtain ⟨a1,a2,a3,a4⟩:=two (u % 10000) aa
   obtain ⟨f1,f2,f3,f4⟩:=Dn (u % 10000 % 100) aa
   obtain ⟨g1,g2,g3,g4⟩:=Dn (u % 10000 / 100) aa
   have r1:Int.tmod ((u / 10000:Nat):Int) 100=((u / 10000 % 100:Nat):Int):=rfl
   have r2:Int.tdiv ((u / 10000:Nat):Int) 100=((u / 10000 / 100:Nat):Int):=rfl
   have r3:IntKind.wrap .u32 ((u / 10000 % 100:Nat):Int)=((u / 10000 % 100:Nat):Int):=wrap_u32 aa aa
   have r4:IntKind.wrap .u32 ((u / 10000 / 100:Nat):Int)=((u / 10000 / 100:Nat):Int):=wrap_u32 aa aa
   obtain ⟨k1,k2,k3,k4⟩:=Dn (u / 10000 % 100) aa
   have s1:IntKind.wrap .u32 (48+((u / 10000 / 100:Nat):Int))=((48+(u / 10000 / 100):Nat):Int):=by rw [wrap_u32 aa aa]; omega
   have s2:IntKind.wrap .u8 ((48+(u / 10000 / 100):Nat):Int)=((UInt8.ofNat (48+(u / 10000 / 100))).toNat:Int):=by rw [kY,dF]
   have i0:idxOf 1 none (.sl b 0 n 1 c) (.int .i64 0)=some (.ptr b 0):=ix 0 aa
   have i1:idxOf 1 none (.sl b 0 n 1 c) (.int .i64 1)=some (.ptr b 1):=ix 1 aa
   have i2:idxOf 1 none (.sl b 0 n 1 c) (.int .i64 2)=some (.ptr b 2):=ix 2 aa
   have i3:idxOf 1 none (.sl b 0 n 1 c) (.int .i64 3)=some (.ptr b 3):=ix 3 aa
   have i4:idxOf 1 none (.sl b 0 n 1 c) (.int .i64 4)=some (.ptr b 4):=ix 4 aa
   have i5:idxOf 1 none (.sl b 0 n 1 c) (.int .i64 5)=some (.ptr b 5):=ix 5 aa
   have i6:idxOf 1 none (.sl b 0 n 1 c) (.int .i64 6)=some (.ptr b 6):=ix 6 aa
   have v0:IntKind.wrap .i64 0=0:=rfl
   have v1:IntKind.wrap .i64 1=1:=rfl
   have v2:IntKind.wrap .i64 2=2:=rfl
   have v3:IntKind.wrap .i64 3=3:=rfl
   have v4:IntKind.wrap .i64 4=4:=rfl
   have v5:IntKind.wrap .i64 5=5:=rfl
   have v6:IntKind.wrap .i64 6=6:=rfl
   have b8:decide (((7:Nat):Int)≥8)=false:=rfl
   have rn:iR u ++s= [UInt8.ofNat (48+(u / 10000 / 100)),UInt8.ofNat (48+u / 10000 % 100 / 10),UInt8.ofNat (48+u / 10000 % 100 % 10),UInt8.ofNat (48+u % 10000 / 100 / 10),UInt8.ofNat (48+u % 10000 / 100 % 10),UInt8.ofNat (48+u % 10000 % 100 / 10),UInt8.ofNat (48+u % 10000 % 100 % 10)] ++s:=by
    rw [BT (u:=u) aa,BU (u:=u / 10000) aa,BV (u:=u / 10000 / 100) aa aa]
    simp only [dg,List.cons_append,List.nil_append]
    congr 1 <;> first | (congr 1; omega) | skip
    all_goals try (congr 1 <;> first | (congr 1; omega) | skip)
    all_goals try (congr 1 <;> first | (congr 1; omega) | skip)
    all_goals try (congr 1 <;> first | (congr 1; omega) | skip)
    all_goals try (congr 1 <;> first | (congr 1; omega) | skip)
    all_goals try (congr 1 <;> first | (congr 1; omega) | skip)
    all_goals try (congr 1 <;> first | (congr 1; omega) | skip)
   rw [←h5,rn]
   simp only [List.cons_append,List.nil_append] at h4
   unfold Gf at*
   simp only [vD,ax,seval,ae,hSl,Nat.zero_le,Nat.le_add_left,h4,b8,w0,t1,t2,t3,t4,a1,a2,a3,a4,f1,f2,f3,f4,g1,g2,g3,g4,r1,r2,r3,r4,k1,k2,k3,k4,s1,s2,i0,i1,i2,i3,i4,i5,i6,v0,v1,v2,v3,v4,v5,v6]
   refine ⟨?_,?_,fun j hj=> ?_⟩
   ·simp [look,af,h4]
   ·exact h6
   ·have: ¬b=j:=fun e=>hj e.symm
    simp [look,this,h7 j hj]
theorem iT.keep {σ σ':ag} {x:AV} {s:Bs} (h:iT σ x s) (h1:σ.next<=σ'.next) (h2: ∀j,j < σ.next->look σ'.m j=look σ.m j):iT σ' x s:=by
 rcases h with h | ⟨b,p1,p2,p3,p4⟩
 ·exact .inl h
 ·exact .inr ⟨b,p1,by rw [h2 b p3]; exact p2,by omega,p4⟩
theorem Yw (hD: ∀ {u:Nat},0 < u->u < 18446744073709551616->cR 394 [.int .u64 (u:Int)]=some (.int .i64 ((dQ u).length:Nat)))
  {σ:ag} {x:AV} {s:Bs} (h:iT σ x s) {n:Nat} (hn:n < 18446744073709551616) (hl:s.length+24 < 1099511627776) :
  ∃y σ',cf cF gU (.fn 386 [] []) [x, .int .u64 (n:Int), .int .i64 10] σ=some (y,σ')/\mA σ x y σ' (s ++dQ n):=by
 by_cases hs:n < 100
 ·exact HY h hs hl
 have h0:0 < n:=by omega
 have hd:=hD h0 hn
 have hd20:(dQ n).length<=20:=kp 19 n (bU hn (by decide))
 have Ho:=yM n
 have hb:look ((⟨σ.next+1,(σ.next, .own [.int .u8 0, .int .u8 0, .int .u8 0, .int .u8 0, .int .u8 0, .int .u8 0, .int .u8 0, .int .u8 0, .int .u8 0, .int .u8 0, .int .u8 0, .int .u8 0, .int .u8 0, .int .u8 0, .int .u8 0, .int .u8 0, .int .u8 0, .int .u8 0, .int .u8 0, .int .u8 0, .int .u8 0, .int .u8 0, .int .u8 0, .int .u8 0]) ::σ.m⟩ :ag)).m σ.next=some (.own (af (List.replicate 24 (0:UInt8)))):=by
  show look ((σ.next,_) ::σ.m) _=_
  simp only [look,if_true]; rfl
 obtain ⟨σ1,c1,c2,c3,c4⟩:=SU (c:=some 24) (l:=List.replicate 24 0) rfl hb hn h0 rfl
 have Xb:iT σ1 x s:=h.keep (by rw [c3]; show σ.next<=σ.next+1; omega) (fun j hj=>by rw [c4 j aa]; show look ((σ.next,_) ::σ.m) j=_; simp [look,show ¬σ.next=j by omega])
 obtain ⟨y,σ2,p1,p2,p3,p4,p5⟩:=wrote Xb (dQ n) Ho aa
 have aN:decide ((n:Int) < 100)=false:=decide_eq_false aa
 have wk (τ:ag) {cs:ai} (k:look τ.m σ.next=some (.own cs)) (kl:cs.length=24):gR τ 24 1 (.ptr σ.next 0) none (some ((dQ n).length:Int))=some (.sl σ.next 0 (dQ n).length 1 (some 24)):=by
  have hc:τ.cells σ.next=some cs:=by unfold ag.cells ag.get; rw [k]
  have hd24:((dQ n).length:Int)<=24:=by omega
  simp [gR,bounds,hc,kl,hd24]
 have s1:=wk _ hb rfl
 have s2:=wk σ1 c2 (by rw [aU]; simp; omega)
 have j9:rowOf σ1 1 (.sl σ.next 0 (dQ n).length 1 (some 24))=some (af (dQ n)):=by
  have hc:σ1.cells σ.next=some (af (dQ n ++(List.replicate 24 0).drop (dQ n).length)):=by unfold ag.cells ag.get; rw [c2]
  simp only [rowOf,if_true,hc,Nat.mul_one,Nat.zero_add,List.drop_zero]
  rw [if_pos (by rw [aU,az]; omega),kB,List.take_append_of_le_length (by rw [aU]; exact aE _),aQ (by rw [aU]; exact aE _)]
 refine gk (F:=TR) rfl ?_
 simp only [Cj,TR,ax,seval,ae,aN,hd,A6,lenOf,s1,c1,s2,j9,p1]
 refine ⟨_,rfl,p2,?_,?_,?_⟩
 ·have:σ1.next=σ.next+1:=c3
  omega
 ·intro c n e; have:=p4 c n e; have:σ1.next=σ.next+1:=c3; omega
 ·intro j hj hx
  have e3:σ1.next=σ.next+1:=c3
  rw [p5 j aa hx,c4 j aa]
  show look ((σ.next,_) ::σ.m) j=_
  simp [look,show ¬σ.next=j by omega]
theorem Xt {k:Nat} (hk:k < 20):Nj[k]? =some (.int .u64 ((10 ^ k:Nat):Int)):=by simp [Nj,hk]
theorem XW {u:Nat} (hu:u < 18446744073709551616):gn u<=64:=by
 unfold gn
 split
 ·exact Nat.zero_le _
 ·rename_i h; have:=(Nat.log2_lt h (k:=64)).2 (by simpa using hu); omega
theorem D0 {u:Nat} (h0:0 < u) (hu:u < 18446744073709551616):cR 394 [.int .u64 (u:Int)]=some (.int .i64 ((dQ u).length:Nat)):=by
 obtain ⟨ht,hd⟩:=Ny h0 hu
 have r399:=VJ hu
 have r400:=Vx (L:=gn u) (XW hu)
 generalize gn u*78913 / 262144=t at*
 generalize (dQ u).length=d at*
 generalize gn u=L at*
 have hi:idxOf 1 (some 20) (.vptr (gU 5) 0) (.int .i64 (t:Int))=some (.vptr Nj t):=by
  simp only [idxOf]
  rw [if_pos aa,Int.toNat_natCast,Nat.zero_add,Nat.mul_one]; rfl
 have b0:decide ((u:Int)≥((10 ^ t:Nat):Int))=decide (10 ^ t<=u):=by
  by_cases h:10 ^ t<=u
  ·rw [decide_eq_true h,decide_eq_true (Int.ofNat_le.2 h)]
  ·rw [decide_eq_false h,decide_eq_false (fun k=>h (Int.ofNat_le.1 k))]
 have w:IntKind.wrap .i64 ((t:Int)+(if decide (10 ^ t<=u)=true then 1 else 0))=(d:Int):=by
  subst hd
  simp only [cD]
  split <;> rw [aP aa aa] <;> omega
 have hg:=Xt ht
 refine aC (F:=F394) rfl ?_
 simp only [F394,ax,seval,ae,r399,r400,VB,hi,hg,b0,w]
theorem Td {n:Int} (h1: -9223372036854775808 < n) (h2:n < 9223372036854775808):F0 n:=fun σ x s hx hl=>
 Yx h1 h2 (fun _ _ _ hx hl=>Yw (fun h0 hu=>D0 h0 hu) hx aa hl) σ x s hx hl
def vR (σ:ag) (b:Nat) (t:Bs):Prop:=∃x,look σ.m b=some (.own [x])/\b < σ.next/\iT σ x t/\∀c n,x= .sl c 0 n 1 none->c≠b
theorem iT.cells {σ:ag} {x:AV} {t:Bs} (h:iT σ x t):x.cells= [x]/\AV.one x=true:=by
 rcases h with ⟨_,rfl⟩ | ⟨c,rfl,_⟩ <;> exact ⟨rfl,rfl⟩
theorem iT.set {σ:ag} {b:Nat} {x:AV} {t:Bs} {e:jS} (h:iT σ x t) (hn: ∀c n,x= .sl c 0 n 1 none->c≠b):iT { σ with m:=(b,e) ::σ.m } x t:=by
 rcases h with ⟨rfl,rfl⟩ | ⟨c,rfl,h1,h2,h3⟩
 ·exact .inl ⟨rfl,rfl⟩
 ·have hc:=hn c _ rfl
  refine .inr ⟨c,rfl,?_,h2,h3⟩
  have: ¬b=c:=fun e=>hc e.symm
  simp [look,this,h1]
theorem vR.alloc2 {σ:ag} {b:Nat} {t:Bs} {e1 e2:jS} (h:vR σ b t):vR { next:=σ.next+1,m:=(σ.next,e1) ::(σ.next,e2) ::σ.m } b t:=by
 obtain ⟨x,h1,h2,h3,h4⟩:=h
 have hb: ¬σ.next=b:=by omega
 refine ⟨x,by simp [look,hb,h1],by show b < σ.next+1; omega,?_,h4⟩
 rcases h3 with ⟨rfl,rfl⟩ | ⟨c,rfl,k1,k2,k3⟩
 ·exact .inl ⟨rfl,rfl⟩
 ·have hc: ¬σ.next=c:=by omega
  exact .inr ⟨c,rfl,by simp [look,hc,k1],by show c < σ.next+1; omega,k3⟩
def Far (σ:ag) (b j:Nat):Prop:=j < σ.next/\j≠b/\∀x c n,look σ.m b=some (.own [x])->x= .sl c 0 n 1 none->j≠c
theorem xP {σ σ':ag} {b:Nat} {x y:AV} {t t':Bs} (h1:look σ.m b=some (.own [x])) (h2:b < σ.next) (h4: ∀c n,x= .sl c 0 n 1 none->c≠b) (hw:mA σ x y σ' t') :
  look σ'.m b=some (.own [x])/\vR { σ' with m:=(b, .own [y]) ::σ'.m } b t'/\y.cells= [y]/\AV.one y=true/\∀j cs,Far σ b j->look σ.m j=some cs->look ((b,jS.own [y]) ::σ'.m) j=some cs/\Far { σ' with m:=(b, .own [y]) ::σ'.m } b j:=by
 obtain ⟨g1,g2,g3,g4⟩:=hw
 have hc:=g1.cells
 have hyb: ∀c n,y= .sl c 0 n 1 none->c≠b:=fun c n e=>by have:=g3 c n e; omega
 refine ⟨by rw [g4 b h2 (fun c n e=>(h4 c n e).symm),h1],⟨y,by simp [look],by show b < σ'.next; omega,g1.set hyb,hyb⟩,hc.1,hc.2,fun j cs hj hl=> ?_⟩
 obtain ⟨j1,j2,j3⟩:=hj
 have hbj: ¬b=j:=fun e=>j2 e.symm
 refine ⟨?_,by show j < σ'.next; omega,j2,fun z c n e1 e2=> ?_⟩
 ·simp only [look,hbj,if_false]
  rw [g4 j j1 (fun c n e=>j3 x c n h1 e),hl]
 ·simp only [look,if_true,ah,jS.own.injEq,List.cons.injEq,and_true] at e1
  subst e1
  have:=g3 c n e2; omega
theorem mK {σ:ag} {b:Nat} {t:Bs} (h:vR σ b t) (u:Bs) (hu:0 < u.length) (hl:t.length+u.length < 1099511627776) :
  ∃x y σ',look σ.m b=some (.own [x])/\aJ σ 1 1 x (af u) u.length=some (y,σ')/\look σ'.m b=some (.own [x])/\vR { σ' with m:=(b, .own [y]) ::σ'.m } b (t ++u)/\y.cells= [y]/\AV.one y=true/\
   ∀j cs,Far σ b j->look σ.m j=some cs->look ((b,jS.own [y]) ::σ'.m) j=some cs/\Far { σ' with m:=(b, .own [y]) ::σ'.m } b j:=by
 obtain ⟨x,h1,h2,h3,h4⟩:=h
 obtain ⟨y,σ',q1,q2⟩:=wrote h3 u hu hl
 obtain ⟨k1,k2,k3,k4,k5⟩:=xP (t:=t) h1 h2 h4 q2
 exact ⟨x,y,σ',h1,q1,k1,k2,k3,k4,k5⟩
theorem XO {σ:ag} {b:Nat} {t:Bs} (h:vR σ b t) (v:V) (hl:t.length+4 < 1099511627776): ∃r σ',cf cF gU (.fn 269 [] []) [.ptr b 0,v.enc] σ=some (r,σ')/\vR σ' b (t ++ [110,117,108,108]):=by
 obtain ⟨x,y,σ1,e0,e1,e2,e3,e4,e5,_⟩:=mK h [110,117,108,108] (by decide) hl
 have e1':aJ σ 1 1 x (af [110,117,108,108]) 4=some (y,σ1):=e1
 refine gk (F:=F269) rfl ?_
 simp only [F269,ax,seval,VX,ae,cy,e0,e1',e2,e4,e5]
 exact ⟨_,rfl,e3⟩
theorem SN {σ:ag} {b:Nat} {t:Bs} (h:vR σ b t) (v:V) (hl:t.length+5 < 1099511627776): ∃r σ',cf cF gU (.fn 270 [] []) [.ptr b 0,v.enc] σ=some (r,σ')/\vR σ' b (t ++if v.n=1 then [116,114,117,101] else [102,97,108,115,101]):=by
 obtain ⟨x,h1,h2,h3,h4⟩:=h
 obtain ⟨y,σ1,q1,q2⟩:=NQ h3 (v.n == 1) hl
 obtain ⟨e2,e3,e4,e5,_⟩:=xP (t:=t) h1 h2 h4 q2
 refine gk (F:=F270) rfl ?_
 simp only [F270,ax,seval,VX,ae,cy,h1,q1,e2,e4,e5]
 exact ⟨_,rfl,by simpa using e3⟩
theorem NL {σ:ag} {b:Nat} {t:Bs} (h:vR σ b t) (v:V) (hn:F0 v.n) (hl:t.length+25 < 1099511627776): ∃r σ',cf cF gU (.fn 271 [] []) [.ptr b 0,v.enc] σ=some (r,σ')/\vR σ' b (t ++lH v.n):=by
 obtain ⟨x,h1,h2,h3,h4⟩:=h
 obtain ⟨y,σ1,q1,q2⟩:=hn σ x t h3 hl
 obtain ⟨e2,e3,e4,e5,_⟩:=xP (t:=t) h1 h2 h4 q2
 refine gk (F:=F271) rfl ?_
 simp only [F271,ax,seval,VX,ae,cy,h1,q1,e2,e4,e5]
 exact ⟨_,rfl,e3⟩
theorem B7 {σ:ag} {b:Nat} {t:Bs} (h:vR σ b t) {a0 a1 a3 a4:AV} {s:Bs} (hv:vu s=true) (hn:s.length < 100000000000) (hl:t.length+(dw s).length < 1099511627776) :
  ∃r σ',cf cF gU (.fn 272 [] []) [.ptr b 0, .agg [a0,a1, .str s,a3,a4]] σ=some (r,σ')/\vR σ' b (t ++dw s)/\∀j cs,Far σ b j->look σ.m j=some cs->look σ'.m j=some cs/\Far σ' b j:=by
 have hq:=Vv hv hn
 obtain ⟨x,y,σ1,e0,e1,e2,e3,e4,e5,e6⟩:=mK h (dw s) (by simp [dw]) hl
 refine gk (F:=F272) rfl ?_
 simp only [F272,ax,seval,ae,cy,hq,e0,e1,e2,e4,e5]
 exact ⟨_,rfl,e3,e6⟩
def Tu:=J @IN.eq_1 (J @CP.eq_1 (J @Ld.eq_1 (@Y2.eq_1)))
def Tt:=J @IM.eq_1 (J @CO.eq_1 (J @Lc.eq_1 (@Y1.eq_1)))
theorem vR.far_new {σ:ag} {b:Nat} {t:Bs} {e1 e2:jS} (h:vR σ b t):Far { next:=σ.next+1,m:=(σ.next,e1) ::(σ.next,e2) ::σ.m } b σ.next:=by
 obtain ⟨x,h1,h2,h3,h4⟩:=h
 have hb: ¬σ.next=b:=by omega
 refine ⟨aR _,hb,fun z c n k1 k2=> ?_⟩
 simp only [look,hb,if_false,h1,ah,jS.own.injEq,List.cons.injEq,and_true] at k1
 subst k1
 rcases h3 with ⟨_,rfl⟩ | ⟨c',rfl,_,k4,_⟩
 ·cases k2
 ·cases k2; omega
def H7 (v:V):Prop:=∀(σ:ag) (b:Nat) (t:Bs),vR σ b t->t.length+v.wr.length+64 < 1099511627776->∃r σ',cf cF gU (.fn 218 [] []) [.ptr b 0,v.enc] σ=some (r,σ')/\vR σ' b (t ++v.wr)
theorem XP {v:V} (hw: ∀w∈v.l,H7 w) (eA:v.sz < 4294967296) {σ:ag} {b:Nat} {t:Bs} (h:vR σ b t) (hl:t.length+(uV v.l).tail.length+65 < 1099511627776) :
  ∃r σ',cf cF gU (.fn 273 [] []) [.ptr b 0,v.enc] σ=some (r,σ')/\vR σ' b (t ++(91 ::((uV v.l).tail ++ [93]))):=by
 have hs:=v.sz_eq
 have hll:=l9 v.l
 have r44 {σ:ag} {c:aD}:rowOf σ 1 (.vsl [.int .u8 44] c)=some [.int .u8 44]:=rfl
 have r91 {σ:ag} {c:aD}:rowOf σ 1 (.vsl [.int .u8 91] c)=some [.int .u8 91]:=rfl
 have r93 {σ:ag} {c:aD}:rowOf σ 1 (.vsl [.int .u8 93] c)=some [.int .u8 93]:=rfl
 obtain ⟨x,y,σ1,e0,e1,e2,e3,e4,e5,_⟩:=mK h [91] (by decide) (by simp only [List.length_cons,List.length_nil]; omega)
 rw [show af [91]= [.int .u8 91] from rfl,show ([91] :Bs).length=1 from rfl] at e1
 refine gk (F:=Y2) rfl ?_
 simp only [IN,CP,Y2,ax,seval,VX,ae,ay,cy,lenOf,aH,r91,e0,e1,e2,e4,e5]
 refine aL (S:=Nat) (fun j=> [(0, .ptr b 0),(16, .vsl (v.l.map V.enc) none),(17, .int .i64 v.l.length),(18, .int .i64 (j:Int))]) (fun j=>v.l.length - j)
  (fun j σ=>vR σ b (t ++ [91] ++(uV (v.l.take j)).tail)/\j<=v.l.length) ?_ 0 _ ⟨by rw [List.take_zero,uV,List.tail_nil,bm]; exact e3,Nat.zero_le _⟩
 rintro B j τ ⟨g1,g2⟩ ih
 by_cases hj:j=v.l.length
 ·subst hj
  rw [List.take_length] at g1
  have d1:=lT (aE v.l.length)
  obtain ⟨x',y',σ2,f0,f1,f2,f3,f4,f5,_⟩:=mK g1 [93] (by decide) (by simp only [az,List.length_cons,List.length_nil]; omega)
  rw [show af [93]= [.int .u8 93] from rfl,show ([93] :Bs).length=1 from rfl] at f1
  simp only [Tu,ax,seval,VX,ae,cy,lenOf,d1,r93,f0,f1,f2,f4,f5]
  exact ⟨_,rfl,by simpa [bf] using f3⟩
 ·have aN:j < v.l.length:=by omega
  obtain ⟨w,Z1⟩:=bM aN
  have d1:=lS aN
  have bQ:=bV (f:=V.enc) (sz:=5) (c:=none) Z1 (by simp [V.enc_cells])
  have Kh:=cd aN aa
  have hT:=Dq Z1
  have uo:=congrArg List.length hT
  simp only [az] at uo
  have hP:=Ja v.l (j+1)
  have E2: ¬τ.next=b:=by obtain ⟨_,_,h2,_⟩:=g1; omega
  have E1: ¬b=τ.next:=fun e=>E2 e.symm
  have ga:=g1.alloc2 (e1:= .own [.int .i64 w.kind, .int .i64 w.n, .str w.s, .vsl (w.l.map V.enc) none, .vsl (w.m.map bx) none]) (e2:= .own [.int .i64 0, .int .i64 0, .str [], .nils, .nils])
  by_cases QP:j=0
  ·have c0:oV j= []:=by rw [QP]; rfl
   rw [c0] at hT uo
   have dg:decide ((j:Int) > 0)=false:=decide_eq_false aa
   obtain ⟨r2,σ2,k1,k2⟩:=hw w (bH Z1) _ b _ ga (by simp only [az,List.length_cons,List.length_nil] at uo ⊢; omega)
   simp only [Tu,ax,seval,VX,ae,cy,d1,bQ,dg,k1,Kh]
   exact ih (j+1) _ _ (by show v.l.length - (j+1) < v.l.length - j; omega) ⟨by rw [hT]; simpa [bf] using k2,aN⟩ rfl
  ·have c0:oV j= [44]:=by unfold oV; rw [if_neg QP]
   rw [c0] at hT uo
   simp only [List.length_cons,List.length_nil] at uo
   have dg:decide ((j:Int) > 0)=true:=decide_eq_true aa
   obtain ⟨x',y',σ2,f0,f1,f2,f3,f4,f5,f6⟩:=mK ga [44] (by decide) (by simp only [az,List.length_cons,List.length_nil]; omega)
   have hfar:=(f6 τ.next (.own [.int .i64 w.kind, .int .i64 w.n, .str w.s, .vsl (w.l.map V.enc) none, .vsl (w.m.map bx) none]) g1.far_new (by simp [look])).1
   rw [show af [44]= [.int .u8 44] from rfl,show ([44] :Bs).length=1 from rfl] at f1
   obtain ⟨r2,σ3,k1,k2⟩:=hw w (bH Z1) _ b _ f3 (by simp only [az,List.length_cons,List.length_nil]; omega)
   simp only [look,E2,E1,if_false] at f0 hfar
   simp only [Tu,ax,seval,VX,ae,cy,d1,bQ,dg,E2,E1,lenOf,r44,f0,f1,f2,f4,f5,hfar,k1,Kh]
   exact ih (j+1) _ _ (by show v.l.length - (j+1) < v.l.length - j; omega) ⟨by rw [hT]; simpa [bf] using k2,aN⟩ rfl
theorem SO {v:V} (hw: ∀w∈v.m,H7 w.2) (hk: ∀w∈v.m,vu w.1=true) (eA:v.sz < 4294967296) {σ:ag} {b:Nat} {t:Bs} (h:vR σ b t) (hl:t.length+(uU v.m).tail.length+65 < 1099511627776) :
  ∃r σ',cf cF gU (.fn 274 [] []) [.ptr b 0,v.enc] σ=some (r,σ')/\vR σ' b (t ++(123 ::((uU v.m).tail ++ [125]))):=by
 have hs:=v.sz_eq
 have Hq:=nS v.m
 have r44 {σ:ag} {c:aD}:rowOf σ 1 (.vsl [.int .u8 44] c)=some [.int .u8 44]:=rfl
 have r58 {σ:ag} {c:aD}:rowOf σ 1 (.vsl [.int .u8 58] c)=some [.int .u8 58]:=rfl
 have r123 {σ:ag} {c:aD}:rowOf σ 1 (.vsl [.int .u8 123] c)=some [.int .u8 123]:=rfl
 have r125 {σ:ag} {c:aD}:rowOf σ 1 (.vsl [.int .u8 125] c)=some [.int .u8 125]:=rfl
 obtain ⟨x,y,σ1,e0,e1,e2,e3,e4,e5,_⟩:=mK h [123] (by decide) (by simp only [List.length_cons,List.length_nil]; omega)
 rw [show af [123]= [.int .u8 123] from rfl,show ([123] :Bs).length=1 from rfl] at e1
 refine gk (F:=Y1) rfl ?_
 simp only [IM,CO,Y1,ax,seval,VX,ae,ay,cy,lenOf,aH,r123,e0,e1,e2,e4,e5]
 refine aL (S:=Nat) (fun j=> [(0, .ptr b 0),(16, .vsl (v.m.map bx) none),(17, .int .i64 v.m.length),(18, .int .i64 (j:Int))]) (fun j=>v.m.length - j)
  (fun j σ=>vR σ b (t ++ [123] ++(uU (v.m.take j)).tail)/\j<=v.m.length) ?_ 0 _ ⟨by rw [List.take_zero,uU,List.tail_nil,bm]; exact e3,Nat.zero_le _⟩
 rintro B j τ ⟨g1,g2⟩ ih
 by_cases hj:j=v.m.length
 ·subst hj
  rw [List.take_length] at g1
  have d1:=lT (aE v.m.length)
  obtain ⟨x',y',σ2,f0,f1,f2,f3,f4,f5,_⟩:=mK g1 [125] (by decide) (by simp only [az,List.length_cons,List.length_nil]; omega)
  rw [show af [125]= [.int .u8 125] from rfl,show ([125] :Bs).length=1 from rfl] at f1
  simp only [Tt,ax,seval,VX,ae,cy,lenOf,d1,r125,f0,f1,f2,f4,f5]
  exact ⟨_,rfl,by simpa [bf] using f3⟩
 ·have aN:j < v.m.length:=by omega
  obtain ⟨w,Z1⟩:=bM aN
  have d1:=lS aN
  have wj:=bH Z1
  have hwz:=eT wj
  have bQ:=bV (f:=bx) (sz:=6) (c:=none) Z1 (by simp [bJ])
  have Kh:=cd aN aa
  have hT:=Dp Z1
  have uo:=congrArg List.length hT
  simp only [az,List.length_cons,List.length_nil] at uo
  have hP:=I8 v.m (j+1)
  have E2: ¬τ.next=b:=by obtain ⟨_,_,h2,_⟩:=g1; omega
  have E1: ¬b=τ.next:=fun e=>E2 e.symm
  have ga:=g1.alloc2 (e1:= .own [.str w.1, .int .i64 w.2.kind, .int .i64 w.2.n, .str w.2.s, .vsl (w.2.l.map V.enc) none, .vsl (w.2.m.map bx) none]) (e2:= .own [.str [], .int .i64 0, .int .i64 0, .str [], .nils, .nils])
  have ff:=g1.far_new (e1:= .own [.str w.1, .int .i64 w.2.kind, .int .i64 w.2.n, .str w.2.s, .vsl (w.2.l.map V.enc) none, .vsl (w.2.m.map bx) none]) (e2:= .own [.str [], .int .i64 0, .int .i64 0, .str [], .nils, .nils])
  have lk:look (ag.m { next:=τ.next+1,m:=(τ.next, .own [.str w.1, .int .i64 w.2.kind, .int .i64 w.2.n, .str w.2.s, .vsl (w.2.l.map V.enc) none, .vsl (w.2.m.map bx) none]) ::(τ.next, .own [.str [], .int .i64 0, .int .i64 0, .str [], .nils, .nils]) ::τ.m }) τ.next=some (.own [.str w.1, .int .i64 w.2.kind, .int .i64 w.2.n, .str w.2.s, .vsl (w.2.l.map V.enc) none, .vsl (w.2.m.map bx) none]):=by simp [look]
  by_cases QP:j=0
  ·have c0:oV j= []:=by rw [QP]; rfl
   rw [c0] at hT uo
   have dg:decide ((j:Int) > 0)=false:=decide_eq_false aa
   obtain ⟨r1,σ1',t1,t2,t3⟩:=B7 ga (a0:= .int .i64 0) (a1:= .int .i64 0) (a3:= .nils) (a4:= .nils) (hk w wj) aa (by simp only [az,List.length_cons,List.length_nil] at uo ⊢; omega)
   obtain ⟨lk1,ff1⟩:=t3 _ _ ff lk
   obtain ⟨x',y',σ2,f0,f1,f2,f3,f4,f5,f6⟩:=mK t2 [58] (by decide) (by simp only [az,List.length_cons,List.length_nil] at uo ⊢; omega)
   rw [show af [58]= [.int .u8 58] from rfl,show ([58] :Bs).length=1 from rfl] at f1
   have lk2:=(f6 _ _ ff1 lk1).1
   simp only [look,E1,if_false] at lk2
   obtain ⟨r2,σ3,k1,k2⟩:=hw w wj _ b _ f3 (by simp only [az,List.length_cons,List.length_nil] at uo ⊢; omega)
   simp only [Tt,ax,seval,VX,ae,cy,d1,bQ,dg,E2,E1,t1,lenOf,r58,f0,f1,f2,f4,f5,lk2,k1,Kh]
   exact ih (j+1) _ _ (by show v.m.length - (j+1) < v.m.length - j; omega) ⟨by rw [hT]; simpa [bf] using k2,aN⟩ rfl
  ·have c0:oV j= [44]:=by unfold oV; rw [if_neg QP]
   rw [c0] at hT uo
   simp only [List.length_cons,List.length_nil] at uo
   have dg:decide ((j:Int) > 0)=true:=decide_eq_true aa
   obtain ⟨x0,y0,σ0,a0,a1,a2,a3,a4,a5,a6⟩:=mK ga [44] (by decide) (by simp only [az,List.length_cons,List.length_nil]; omega)
   rw [show af [44]= [.int .u8 44] from rfl,show ([44] :Bs).length=1 from rfl] at a1
   obtain ⟨lk0,ff0⟩:=a6 _ _ ff lk
   obtain ⟨r1,σ1',t1,t2,t3⟩:=B7 a3 (a0:= .int .i64 0) (a1:= .int .i64 0) (a3:= .nils) (a4:= .nils) (hk w wj) aa (by simp only [az,List.length_cons,List.length_nil] at uo ⊢; omega)
   obtain ⟨lk1,ff1⟩:=t3 _ _ ff0 lk0
   obtain ⟨x',y',σ2,f0,f1,f2,f3,f4,f5,f6⟩:=mK t2 [58] (by decide) (by simp only [az,List.length_cons,List.length_nil] at uo ⊢; omega)
   rw [show af [58]= [.int .u8 58] from rfl,show ([58] :Bs).length=1 from rfl] at f1
   have lk2:=(f6 _ _ ff1 lk1).1
   simp only [look,E1,if_false] at lk2
   simp only [look,E2,E1,if_false] at a0 lk0
   obtain ⟨r2,σ3,k1,k2⟩:=hw w wj _ b _ f3 (by simp only [az,List.length_cons,List.length_nil] at uo ⊢; omega)
   simp only [Tt,ax,seval,VX,ae,cy,d1,bQ,dg,E2,E1,r44,a0,a1,a2,a4,a5,lk0,t1,lenOf,r58,f0,f1,f2,f4,f5,lk2,k1,Kh]
   exact ih (j+1) _ _ (by show v.m.length - (j+1) < v.m.length - j; omega) ⟨by rw [hT]; simpa [bf] using k2,aN⟩ rfl
def Q11Fa:= @F190.eq_1
def AS:= @F218.eq_1
mutual
def V.nums (P:Int->Prop):V->Prop
 | .mk k n _ l m=>(k=2->P n)/\Ac P l/\z8 P m
def Ac (P:Int->Prop):List V->Prop
 | []=>True
 | v ::r=>v.nums P/\Ac P r
def z8 (P:Int->Prop):List (Bs×V)->Prop
 | []=>True
 | (_,v) ::r=>v.nums P/\z8 P r
end
theorem V.nums_eq (P:Int->Prop) (v:V):v.nums P=((v.kind=2->P v.n)/\Ac P v.l/\z8 P v.m):=by cases v; rw [V.nums]; rfl
theorem Aa {P:Int->Prop}: ∀ {l:List V} {x:V},Ac P l->x∈l->x.nums P
 | v ::r,x,h,hx=>by
  rw [Ac] at h
  rcases List.mem_cons.1 hx with rfl | hx
  ·exact h.1
  ·exact Aa h.2 hx
theorem pZ {P:Int->Prop}: ∀ {l:List Mem} {x:Mem},z8 P l->x∈l->x.2.nums P
 | (k,v) ::r,x,h,hx=>by
  rw [z8] at h
  rcases List.mem_cons.1 hx with rfl | hx
  ·exact h.1
  ·exact pZ h.2 hx
theorem SM: ∀(N:Nat) (v:V),v.sz < N->v.fine=true->v.sz < 4294967296->v.nums F0->H7 v:=by
 intro N
 induction N with
 | zero=>intro v h; omega
 | succ N ih=>
  intro v h hf hb hn σ b t hx hl
  have eA:=v.sz_eq
  rw [V.nums_eq] at hn
  obtain ⟨sJ,hnL,hnM⟩:=hn
  have E2: ¬σ.next=b:=by obtain ⟨_,_,h2,_⟩:=hx; omega
  have ga:=hx.alloc2 (e1:= .own [.fn 269 [] [], .fn 270 [] [], .fn 271 [] [], .fn 272 [] [], .fn 273 [] [], .fn 274 [] []]) (e2:= .own [.lit .nilFunc, .lit .nilFunc, .lit .nilFunc, .lit .nilFunc, .lit .nilFunc, .lit .nilFunc])
  refine gk (F:=F218) rfl ?_
  rw [V.fine_eq] at hf
  by_cases h0:v.kind=0
  ·have hw:v.wr= [110,117,108,108]:=by rw [V.wr_eq,if_pos h0]
   rw [hw] at hl ⊢
   obtain ⟨r,σ',k1,k2⟩:=XO ga v (by simp only [List.length_cons,List.length_nil] at hl; omega)
   rw [V.enc_eq] at k1
   rw [h0] at k1
   simp only [AS,ax,seval,V.enc_cells,V.enc_eq,ae,@bk,h0,k1]
   exact ⟨_,rfl,k2⟩
  rw [if_neg h0] at hf
  by_cases h1:v.kind=1
  ·have hw:v.wr=if v.n=1 then [116,114,117,101] else [102,97,108,115,101]:=by rw [V.wr_eq,if_neg h0,if_pos h1]
   rw [hw] at hl ⊢
   obtain ⟨r,σ',k1,k2⟩:=SN ga v aa
   rw [V.enc_eq] at k1
   rw [h1] at k1
   simp only [AS,ax,seval,V.enc_cells,V.enc_eq,ae,@bk,h1,k1]
   exact ⟨_,rfl,k2⟩
  rw [if_neg h1] at hf
  by_cases h2:v.kind=2
  ·have hw:v.wr=lH v.n:=by rw [V.wr_eq,if_neg h0,if_neg h1,if_pos h2]
   rw [hw] at hl ⊢
   obtain ⟨r,σ',k1,k2⟩:=NL ga v (sJ h2) aa
   rw [V.enc_eq] at k1
   rw [h2] at k1
   simp only [AS,ax,seval,V.enc_cells,V.enc_eq,ae,@bk,h2,k1]
   exact ⟨_,rfl,k2⟩
  rw [if_neg h2] at hf
  by_cases h3:v.kind=3
  ·have hw:v.wr=dw v.s:=by rw [V.wr_eq,if_neg h0,if_neg h1,if_neg h2,if_pos h3]
   rw [if_pos h3,ak] at hf
   rw [hw] at hl ⊢
   obtain ⟨r,σ',k1,k2,_⟩:=B7 ga (a0:= .int .i64 3) (a1:= .int .i64 v.n) (a3:= .vsl (v.l.map V.enc) none) (a4:= .vsl (v.m.map bx) none) hf.2 aa aa
   simp only [AS,ax,seval,V.enc_cells,V.enc_eq,ae,@bk,h3,k1]
   exact ⟨_,rfl,k2⟩
  rw [if_neg h3] at hf
  by_cases h4:v.kind=4
  ·have hw:v.wr=91 ::((uV v.l).tail ++ [93]):=by rw [V.wr_eq,if_neg h0,if_neg h1,if_neg h2,if_neg h3,if_pos h4]
   rw [if_pos h4,ak] at hf
   rw [hw] at hl ⊢
   obtain ⟨r,σ',k1,k2⟩:=XP (v:=v) (fun w wj=>ih w (by have:=gL wj; omega) (iP hf.2 wj) (by have:=gL wj; omega) (Aa hnL wj)) hb ga (by simp only [List.length_cons,az,List.length_nil] at hl; omega)
   rw [V.enc_eq] at k1
   rw [h4] at k1
   simp only [AS,ax,seval,V.enc_cells,V.enc_eq,ae,@bk,h4,k1]
   exact ⟨_,rfl,k2⟩
  rw [if_neg h4] at hf
  by_cases h5:v.kind=5
  ·have hw:v.wr=123 ::((uU v.m).tail ++ [125]):=by rw [V.wr_eq,if_neg h0,if_neg h1,if_neg h2,if_neg h3,if_neg h4]
   rw [if_pos h5,ak] at hf
   rw [hw] at hl ⊢
   obtain ⟨r,σ',k1,k2⟩:=SO (v:=v) (fun w wj=>ih w.2 (by have:=eT wj; omega) (jL hf.2 wj).2 (by have:=eT wj; omega) (pZ hnM wj)) (fun w wj=>(jL hf.2 wj).1) hb ga (by simp only [List.length_cons,az,List.length_nil] at hl; omega)
   rw [V.enc_eq] at k1
   rw [h5] at k1
   simp only [AS,ax,seval,V.enc_cells,V.enc_eq,ae,@bk,h5,k1]
   exact ⟨_,rfl,k2⟩
  ·rw [if_neg h5] at hf; cases hf
theorem VG {v:V} (hb:v.sz < 4294967296) (hn:v.nums F0):cR 190 [v.enc]=some (.tup (if v.good=true then [.str v.wr, .int .i64 0] else [.str [], .int .i64 1])):=by
 have hg:=Bd v (by unfold cJ; omega)
 refine aC (F:=F190) rfl ?_
 cases hv:v.good
 ·rw [hv] at hg
  simp only [Q11Fa,ax,seval,VX,ae,hg,hv,aX,if_false]
 ·rw [hv] at hg
  have hf:v.fine=true:=by unfold V.good at hv; rw [ak] at hv; exact hv.1
  have hl:=V.wr_len v hf
  have b0:vR (ag.alloc ⟨0, []⟩ [.nils]) 0 []:=⟨.nils,rfl,aR _, .inl ⟨rfl,rfl⟩,fun c n e=>by cases e⟩
  obtain ⟨y,σ',c1,c2⟩:=SM (v.sz+1) v (aR _) hf hb hn _ 0 [] b0 (by simp only [List.length_nil]; omega)
  rw [List.nil_append] at c2
  obtain ⟨x,h1,h2,h3,h4⟩:=c2
  have hs:gu (rowOf σ' 1 x)=some (.str v.wr):=by
   rcases h3 with ⟨e,rfl⟩ | ⟨b,rfl,k1,k2,k3⟩
   ·rw [e]; rfl
   ·rw [vV (v:=v.wr) (by unfold zt; rw [k1]) k3 rfl]; simp only [gu,lJ,Option.map_some]
  simp only [ag.alloc,Nat.zero_add] at c1
  simp only [Q11Fa,ax,seval,VX,ae,cy,hg,hv,if_true,c1,h1,hs]
def S8Fa:=J @Ix.eq_1 (J @Iw.eq_1 (J @TK.eq_1 (@F70.eq_1)))
def S8Fb:=J @Ix.eq_1 (J @Iw.eq_1 (@F70.eq_1))
def cm (v:V) (k:Bs):V×Bool:=if v.kind=5 then (match gX v.m k with | some x=>(x,true) | none=>(V.zero,false)) else (V.zero,false)
theorem V.zero_enc:V.zero.enc= .agg [.int .i64 0, .int .i64 0, .str [], .vsl [] none, .vsl [] none]:=by rw [V.enc_eq]; rfl
theorem m7 (v:V) (k:Bs) (hb:v.sz < cJ):cR 70 [v.enc, .str k]=some (.tup [(cm v k).1.enc, .bool (cm v k).2]):=by
 have hmz:=gW v
 unfold cJ at hb
 refine aC (F:=F70) rfl ?_
 obtain ⟨r,hr⟩ : ∃r,r=AV.tup [(cm v k).1.enc, .bool (cm v k).2]:=⟨_,rfl⟩
 rw [←hr]
 unfold cm at hr
 cases h5:v.kind != 5 with
 | true=>
  have hk:v.kind≠5:=by simpa using h5
  rw [if_neg hk] at hr
  simp only [S8Fb,ax,seval,VX,ae,h5,hr,V.zero_enc]
 | false=>
  have hk:v.kind=5:=by simpa using h5
  rw [if_pos hk] at hr
  simp only [S8Fb,ay,ax,seval,VX,ae,h5]
  refine dC (S:=Nat) (fun j=> [(1, .str k),(2, .vptr [.int .i64 v.kind, .int .i64 v.n, .str v.s, .vsl (v.l.map V.enc) none, .vsl (v.m.map bx) none] 0),(4, .ptr 0 0),(6, .int .i64 (j:Int))]) (fun _=>⟨1, [(0, .own [.int .i64 0, .int .i64 0, .str [], .nils, .nils])]⟩) (fun j=>v.m.length - j) (fun j=>gX (v.m.drop j) k=gX v.m k) ?_ 0 rfl
  intro b j hj ir
  by_cases aN:j < v.m.length
  ·obtain ⟨⟨key,x⟩,hx⟩:=bM aN
   have bQ:=bV (f:=bx) (sz:=6) (c:=none) hx (by simp [bJ])
   have aA:=lS aN
   have hw:=cd aN aa
   rw [drop_cons hx,gX] at hj
   cases hkk:key == k with
   | true=>
    have:key=k:=by simpa using hkk
    rw [if_pos this] at hj
    rw [←hj] at hr
    simp only [S8Fa,ax,seval,VX,ae,aA,bQ,hkk,hr]
   | false=>
    have:key≠k:=by simpa using hkk
    rw [if_neg this] at hj
    simp only [S8Fa,ax,seval,VX,ae,aA,bQ,hkk,hw]
    exact ir (j+1) _ _ aa hj rfl rfl
  ·have aA:=lT (Nat.not_lt.1 aN)
   rw [bn aa,gX] at hj
   rw [←hj] at hr
   simp only [S8Fa,ax,seval,VX,ae,aA,hr,V.zero_enc]
theorem Ni {v:V} (k:Bs) (h:v.good=true):cm v k=gO v k:=by
 unfold cm
 by_cases h5:v.kind=5
 ·have hf:v.fine=true:=by unfold V.good at h; simp at h; exact h.1
  rw [if_pos h5,rq k h5 (rz h5 hf)]
  try (cases gX v.m k <;> rfl)
 ·rw [if_neg h5,jJ k h5]
def S9Fa:= @F58.eq_1
def iE (v:V) (k:Bs):Bs×Bool:=if (cm v k).2 && (cm v k).1.kind == 3 then ((cm v k).1.s,true) else ([],false)
theorem iY (v:V) (k:Bs) (hb:v.sz < cJ):cR 58 [v.enc, .str k]=some (.tup [.str (iE v k).1, .bool (iE v k).2]):=by
 have h:=m7 v k hb
 unfold iE
 generalize cm v k=g at h ⊢
 obtain ⟨x,b⟩:=g
 simp only at h ⊢
 obtain ⟨r,hr⟩ : ∃r,r=AV.tup [.str (if (b && x.kind == 3)=true then (x.s,true) else (([] :Bs),false)).1, .bool (if (b && x.kind == 3)=true then (x.s,true) else (([] :Bs),false)).2]:=⟨_,rfl⟩
 rw [←hr]
 refine aC (F:=F58) rfl ?_
 cases b with
 | false=>
  simp only [Bool.false_and,aX,if_false] at hr
  simp only [S9Fa,ax,seval,VX,ae,h,hr]
 | true=>
  have Nh:(x.kind != 3)= !(x.kind == 3):=rfl
  cases h3:x.kind == 3 with
  | false=>
   rw [h3] at Nh
   simp only [h3,aW,aX,if_false] at hr
   simp only [S9Fa,ax,seval,VX,ae,h,Nh,Bool.not_false,hr]
  | true=>
   rw [h3] at Nh
   simp only [h3,aV,if_true] at hr
   simp only [S9Fa,ax,seval,VX,ae,h,Nh,Bool.not_true,hr]
theorem Gc {v:V} (k:Bs) (h:v.good=true):iE v k=bu v k:=by
 unfold iE bu
 rw [Ni k h]
def S10Fb:= @F56.eq_1
theorem tK {v:V} (k:Bs) (h:v.kind≠5):bu v k=([],false):=by
 unfold bu
 rw [jJ k h]; rfl
theorem LG (c:V) (k:Bs):(if c.good=true then iE c k else ([],false))=bu (said c) k:=by
 unfold said
 by_cases hg:c.good=true
 ·rw [if_pos hg,Gc k hg]
  by_cases h5:c.kind=5
  ·rw [if_pos (by simp [hg,h5])]
  ·rw [if_neg (by simp [h5]),tK k h5,tK k (by simp [V.zero,V.kind])]
 ·rw [if_neg hg,if_neg (by simp [hg]),tK k (by simp [V.zero,V.kind])]
theorem pT (c:V) (k:Bs) (hb:c.sz < cJ):cR 56 [c.enc, .str k]=some (.tup [.str (bu (said c) k).1, .bool (bu (said c) k).2]):=by
 have h1:=m6 c hb
 have h2:=iY c k hb
 rw [←LG]
 refine aC (F:=F56) rfl ?_
 cases hg:c.good with
 | false=>
  rw [hg] at h1
  simp only [S10Fb,ax,seval,VX,ae,h1,aX,if_false]
 | true=>
  rw [hg] at h1
  simp only [S10Fb,ax,seval,VX,ae,h1,h2,if_true]
theorem vJ (c:V) (hb:c.sz < cJ):cR 31 [c.enc]=some (.str (jb c)):=by
 have h:=pT c pj hb
 refine aC (F:=F31) rfl ?_
 simp only [F31,ax,seval,VX,ae,h,jb]
def MP (c:UInt8):Bool:=(decide ((c.toNat:Int)≥97) && decide ((c.toNat:Int)<=122)) || (decide ((c.toNat:Int)≥65) && decide ((c.toNat:Int)<=90))
def sT (c:UInt8):Bool:=decide ((c.toNat:Int)≥48) && decide ((c.toNat:Int)<=57)
theorem Pv (c:UInt8):cR 104 [.int .u8 c.toNat]=some (.bool (MP c)):=by
 refine aC (F:=F104) rfl ?_
 obtain ⟨r,hr⟩ : ∃r,r=AV.bool (MP c):=⟨_,rfl⟩
 rw [←hr]
 unfold MP at hr
 cases h1:decide ((c.toNat:Int)≥97) <;> cases h2:decide ((c.toNat:Int)<=122) <;> cases h3:decide ((c.toNat:Int)≥65) <;> cases h4:decide ((c.toNat:Int)<=90) <;>
 simp only [h1,h2,h3,h4,aV,Bool.true_and,Bool.false_and,aW,Bool.and_true,Bool.or_self,Bool.true_or,Bool.or_true,Bool.or_false,Bool.false_or] at hr <;>
 simp only [F104,ax,seval,h1,h2,h3,h4,hr]
theorem JO (c:UInt8):cR 105 [.int .u8 c.toNat]=some (.bool (sT c)):=by
 refine aC (F:=F105) rfl ?_
 obtain ⟨r,hr⟩ : ∃r,r=AV.bool (sT c):=⟨_,rfl⟩
 rw [←hr]
 unfold sT at hr
 cases h1:decide ((c.toNat:Int)≥48) <;> cases h2:decide ((c.toNat:Int)<=57) <;>
 simp only [h1,h2,aV,Bool.true_and,Bool.false_and,aW,Bool.and_true] at hr <;>
 simp only [F105,ax,seval,h1,h2,hr]
def mM (c:UInt8):Bool:=MP c || (sT c || (c == 46 || c == 45))
theorem UU (c:UInt8):mM c=oR jn c:=jg (P:=fun c=>mM c=oR jn c) (by decide+kernel) c
theorem XJ (c:UInt8):sT c=oR kO c:=jg (P:=fun c=>sT c=oR kO c) (by decide+kernel) c
def pO:=J @Tx.eq_1 (J @Tw.eq_1 (J @KU.eq_1 (J @Ii.eq_1 (J @Ih.eq_1 (J @Ty.eq_1 (@F97.eq_1))))))
def FI:=J @Tx.eq_1 (J @Tw.eq_1 (J @Ii.eq_1 (J @Ih.eq_1 (@F97.eq_1))))
def ve (s:Bs) (j:Nat):Nat:=j+((s.drop j).takeWhile mM).length
theorem wc {s:Bs} {j:Nat} {c:UInt8} (h:s[j]? =some c) (hc:mM c=true):ve s j=ve s (j+1):=by
 unfold ve
 rw [drop_cons h,List.takeWhile_cons,hc]
 simp; omega
theorem Qe {s:Bs} {j:Nat} {c:UInt8} (h:s[j]? =some c) (hc:mM c=false):ve s j=j:=by
 unfold ve
 rw [drop_cons h,List.takeWhile_cons,hc]
 simp
theorem Wr {s:Bs} {j:Nat} (h:s.length<=j):ve s j=j:=by
 unfold ve
 rw [bn h]; rfl
theorem nsr_le (s:Bs):ve s 0<=s.length:=by
 unfold ve
 rw [List.drop_zero,Nat.zero_add]
 exact (List.takeWhile_sublist _).length_le
theorem eq8 (a b:UInt8):((a.toNat:Int) == (b.toNat:Int))=(a == b):=by
 by_cases h:a=b
 ·subst h; simp
 ·have:(a.toNat:Int)≠(b.toNat:Int):=fun h'=>h (UInt8.toNat_inj.1 aa)
  rw [cc.2 this,cc.2 h]
theorem eq46 (c:UInt8):((c.toNat:Int) == 46)=(c == 46):=eq8 c 46
theorem eq45 (c:UInt8):((c.toNat:Int) == 45)=(c == 45):=eq8 c 45
theorem BR (c:UInt8):((c.toNat:Int) == 58)=(c == 58):=eq8 c 58
def OT (s:Bs) (i:Nat):Bool:=(s.drop (i+1)).all sT && ((match s[i]? with | some c=>c == 58 | none=>false) && (decide (1<=(s.drop (i+1)).length) && decide ((s.drop (i+1)).length<=5)))
def nV (s:Bs):Bool:=if ve s 0=0∨255 < s.length then false else if ve s 0=s.length then true else OT s (ve s 0)
theorem UT {s:Bs} {σ:ag} {K:List Item} {Q:Fr->ag->Prop} (hb:s.length < cJ) (hk: ∀l:Fr,Ex cF gU K ((0, .str s) ::(3, .int .i64 (ve s 0:Nat)) ::l) σ Q) :
  Ex cF gU (.code KU :: .inLoop [0,3] KU :: .inBlock 0 ::K) [(0, .str s),(3, .int .i64 0)] σ Q:=by
 unfold cJ at hb
 refine dC (S:=Nat) (fun j=> [(0, .str s),(3, .int .i64 (j:Int))]) (fun _=>σ) (fun j=>s.length - j) (fun j=>ve s j=ve s 0) ?_ 0 rfl
 intro b j hj ih
 by_cases aN:j < s.length
 ·obtain ⟨c,hc⟩:=bM aN
  have aA:=lS aN
  have fa:=lK hc
  have hw:=cd aN aa
  have q1:=Pv c
  have q2:=JO c
  have hs:mM c=(MP c || (sT c || (c == 46 || c == 45))):=rfl
  cases h1:MP c with
  | true=>
   rw [h1,Bool.true_or] at hs
   have Xd:=ih (j+1)
   have Dl:ve s (j+1)=ve s 0:=by rw [←wc hc hs]; exact hj
   simp only [pO,ax,seval,aA,fa,q1,q2,h1,hw]
   exact ih (j+1) _ _ aa Dl rfl rfl
  | false=>
   rw [h1,Bool.false_or] at hs
   cases h2:sT c with
   | true=>
    rw [h2,Bool.true_or] at hs
    have Dl:ve s (j+1)=ve s 0:=by rw [←wc hc hs]; exact hj
    simp only [pO,ax,seval,aA,fa,q1,q2,h1,h2,hw]
    exact ih (j+1) _ _ aa Dl rfl rfl
   | false=>
    rw [h2,Bool.false_or] at hs
    cases h3:c == 46 with
    | true=>
     rw [h3,Bool.true_or] at hs
     have Dl:ve s (j+1)=ve s 0:=by rw [←wc hc hs]; exact hj
     simp only [pO,ax,seval,aA,fa,q1,q2,h1,h2,eq46,h3,hw]
     exact ih (j+1) _ _ aa Dl rfl rfl
    | false=>
     rw [h3,Bool.false_or] at hs
     cases h4:c == 45 with
     | true=>
      rw [h4] at hs
      have Dl:ve s (j+1)=ve s 0:=by rw [←wc hc hs]; exact hj
      simp only [pO,ax,seval,aA,fa,q1,q2,h1,h2,eq46,eq45,h3,h4,hw]
      exact ih (j+1) _ _ aa Dl rfl rfl
     | false=>
      rw [h4] at hs
      rw [Qe hc hs] at hj
      rw [←hj] at hk
      simp only [pO,ax,seval,aA,fa,q1,q2,h1,h2,eq46,eq45,h3,h4]
      exact hk _
 ·have aA:=lT (Nat.not_lt.1 aN)
  rw [Wr aa] at hj
  rw [←hj] at hk
  simp only [pO,ax,seval,aA]
  exact hk _
theorem DS (s:Bs) (hb:s.length < cJ):cR 97 [.str s]=some (.bool (nV s)):=by
 refine aC (F:=F97) rfl ?_
 simp only [FI,ay,ax,seval]
 refine UT hb fun l=> ?_
 unfold cJ at hb
 have hle:=nsr_le s
 obtain ⟨r,hr⟩ : ∃r,r=AV.bool (nV s):=⟨_,rfl⟩
 rw [←hr]
 unfold nV at hr
 have zG:decide ((s.length:Int) > 255)=decide (255 < s.length):=by rw [decide_eq_decide]; omega
 generalize hn:ve s 0=n at hr hle ⊢
 by_cases h0:n=0
 ·subst h0
  have e0:((0:Nat):Int) == 0:=rfl
  rw [if_pos (Or.inl rfl)] at hr
  simp only [FI,ax,seval,hr,Int.ofNat_zero,Int.cast_ofNat_Int]
 ·have e0:((n:Nat):Int) == 0↔False:=by simp; omega
  have e0':(((n:Nat):Int) == 0)=false:=by simp; omega
  by_cases hl:255 < s.length
  ·rw [if_pos (Or.inr hl)] at hr
   have zC:decide (255 < s.length)=true:=by simp [hl]
   simp only [FI,ax,seval,e0',zG,zC,hr]
  ·rw [if_neg aa] at hr
   have zC:decide (255 < s.length)=false:=by simp [hl]
   by_cases hN:n=s.length
   ·rw [if_pos hN] at hr
    have e1:((n:Int) == (s.length:Int))=true:=by simp [hN]
    simp only [FI,ax,seval,e0',zG,zC,e1,hr]
   ·rw [if_neg hN] at hr
    have e1:((n:Int) == (s.length:Int))=false:=by simp; omega
    have aN:n < s.length:=by omega
    have hw:=cd aN aa
    have wk:ck (.str s) (some (some ((n+1:Nat):Int))) (some none)=some (.str (s.drop (n+1))):=dq (s:=s) (i:=((n+1:Nat):Int)) aa aa
    simp only [FI,ay,ax,seval,e0',zG,zC,e1,hw,wk]
    obtain ⟨c,hc⟩:=bM aN
    have fa:=lK hc
    generalize hp:s.drop (n+1)=p at hr ⊢
    have Oe:p.length<=s.length:=by rw [←hp,gA]; omega
    refine dC (S:=Nat) (fun j=> [(0, .str s),(3, .int .i64 (n:Int)),(4, .str p),(5, .int .i64 (j:Int))]) (fun _=> .empty) (fun j=>p.length - j) (fun j=>(p.drop j).all sT=p.all sT) ?_ 0 rfl
    intro b j hj ih
    by_cases sK:j < p.length
    ·obtain ⟨d,hd⟩:=bM sK
     have aA:=lS sK
     have QZ:=lK hd
     have vM:=cd sK aa
     have q2:=JO d
     rw [drop_cons hd,List.all_cons] at hj
     cases h2:sT d with
     | true=>
      rw [h2,Bool.true_and] at hj
      simp only [pO,ax,seval,aA,QZ,q2,h2,vM]
      exact ih (j+1) _ _ aa hj rfl rfl
     | false=>
      rw [h2,Bool.false_and] at hj
      rw [OT,hp,←hj,Bool.false_and] at hr
      simp only [pO,ax,seval,aA,QZ,q2,h2,hr]
    ·have aA:=lT (Nat.not_lt.1 sK)
     rw [bn aa] at hj
     rw [OT,hp,←hj,hc] at hr
     have g1:decide ((p.length:Int)≥1)=decide (1<=p.length):=by rw [decide_eq_decide]; omega
     have g5:decide ((p.length:Int)<=5)=decide (p.length<=5):=by rw [decide_eq_decide]; omega
     simp only [List.all_nil,Bool.true_and] at hr
     cases Dm:c == 58 with
     | false=>
      simp only [Dm,Bool.false_and] at hr
      simp only [pO,ax,seval,aA,fa,BR,Dm,hr]
     | true=>
      simp only [Dm,Bool.true_and] at hr
      cases h1:decide (1<=p.length) with
      | false=>
       simp only [h1,Bool.false_and] at hr
       simp only [pO,ax,seval,aA,fa,BR,Dm,g1,h1,hr]
      | true=>
       simp only [h1,Bool.true_and] at hr
       simp only [pO,ax,seval,aA,fa,BR,Dm,g1,h1,g5,hr]
def qR:=J @Ip.eq_1 (J @Io.eq_1 (J @TE.eq_1 (@F81.eq_1)))
theorem Ft (x:UInt8):gj [] x=([], [],false):=rfl
theorem uA (c x:UInt8) (r:Bs):gj (c ::r) x=if c=x then ([],r,true) else (c ::(gj r x).1,(gj r x).2.1,(gj r x).2.2):=by
 unfold gj
 rw [List.findIdx?_cons]
 by_cases h:c=x
 ·subst h; simp
 ·have hf:(c == x)=false:=by simp [h]
  rw [hf,if_neg h]
  cases hq:r.findIdx? (fun b=>b == x) <;> simp
theorem Fs (x:UInt8): ∀(t d:Bs),(∀b∈t,b≠x)->gj (t ++d) x=(t ++(gj d x).1,(gj d x).2.1,(gj d x).2.2)
 | [],d,_=>rfl
 | a ::t,d,h=>by
  rw [List.cons_append,uA,if_neg (h a (by simp)),Fs x t d (fun b hb=>h b (by simp [hb]))]
  rfl
theorem srv_58:mM 58=false:=by decide+kernel
theorem YA (n:Nat) (s:Bs):oJ (oR jn) n s=(s.all mM && (decide (0 < s.length) && decide (s.length<=n))):=by
 unfold oJ
 have:oR jn=mM:=by funext c; exact (UU c).symm
 rw [this]
theorem YB (n:Nat) (s:Bs):oJ (oR kO) n s=(s.all sT && (decide (0 < s.length) && decide (s.length<=n))):=by
 unfold oJ
 have:oR kO=sT:=by funext c; exact (XJ c).symm
 rw [this]
theorem Gn (s:Bs):nV s=jh s:=by
 unfold nV jh
 have hn:ve s 0=(s.takeWhile mM).length:=by unfold ve; rw [List.drop_zero,Nat.zero_add]
 rw [hn,YA,YB]
 have hs:s=s.takeWhile mM ++s.dropWhile mM:=(List.takeWhile_append_dropWhile).symm
 have ht: ∀b∈s.takeWhile mM,mM b=true:=fun b hb=>bj.1 List.all_takeWhile b hb
 have hd: ∀c p,s.dropWhile mM=c ::p->mM c=false:=by
  intro c p hcp
  have:=List.head?_dropWhile_not mM s
  rw [hcp] at this
  simpa using this
 generalize s.takeWhile mM=t at hs ht ⊢
 generalize s.dropWhile mM=d at hs hd
 have hall:t.all mM=true:=bj.2 ht
 have htc: ∀b∈t,b≠58:=fun b hb h=>by have:=ht b hb; rw [h,srv_58] at this; cases this
 have hcut:=Fs 58 t d htc
 cases d with
 | nil=>
  rw [bm] at hs
  rw [hs,←bm t,hcut,Ft]
  simp only [bm,Bool.false_and,Bool.not_false,Bool.true_and,hall]
  by_cases h0:t.length=0
  ·simp [h0]
  ·by_cases zG:255 < t.length
   ·rw [if_pos (Or.inr zG)]
    have: ¬t.length<=255:=by omega
    simp [this]
   ·rw [if_neg aa]
    have h1:t.length<=255:=by omega
    have h2:0 < t.length:=by omega
    simp [h1,h2]
 | cons c p=>
  have hc:=hd c p rfl
  have hlen:s.length=t.length+(p.length+1):=by rw [hs]; simp
  have EZ:s.drop (t.length+1)=p:=by rw [hs,List.drop_append]; simp
  have dy:s[t.length]? =some c:=by rw [hs]; simp
  rw [hs,hcut,uA,←hs]
  by_cases Dm:c=58
  ·subst Dm
   rw [if_pos rfl]
   simp only [bm,hall,Bool.true_and]
   by_cases h0:t.length=0
   ·simp [h0]
   ·by_cases zG:255 < s.length
    ·rw [if_pos (Or.inr zG)]
     have: ¬s.length<=255:=by omega
     simp [this]
    ·rw [if_neg aa,if_neg aa]
     unfold OT
     rw [EZ,dy]
     have h1:s.length<=255:=by omega
     have h2:0 < t.length:=by omega
     have h3:t.length<=255:=by omega
     simp [h1,h2,h3,Nat.succ_le_iff]
  ·rw [if_neg Dm]
   have hA:(t ++c ::(gj p 58).1).all mM=false:=by rw [List.all_append,List.all_cons,hc]; simp
   simp only [hA,Bool.false_and,aW]
   by_cases h0:t.length=0∨255 < s.length
   ·rw [if_pos h0]
   ·rw [if_neg h0,if_neg aa]
    unfold OT
    rw [dy]
    have:(c == 58)=false:=by simp [Dm]
    simp [this]
def pR (pre:Bs):Bs->Bs×Bs×Bool
 | []=>([], [],false)
 | c ::r=>if c=58 then (if pre= []∨nV r=false then ([], [],false) else (pre,r,true)) else if c < 33∨126 < c then ([], [],false) else pR (pre ++ [c]) r
theorem ZQ: ∀(r pre:Bs),pR pre r=if (gj r 58).2.2=true/\(gj r 58).1.all gE=true/\pre ++(gj r 58).1≠ []/\jh (gj r 58).2.1=true then (pre ++(gj r 58).1,(gj r 58).2.1,true) else ([], [],false)
 | [],pre=>by rw [Ft]; simp [pR]
 | c ::r,pre=>by
  rw [pR,uA]
  by_cases h:c=58
  ·rw [if_pos h,if_pos h,Gn]
   simp only [List.all_nil,bm,true_and]
   by_cases hp:pre= []
   ·simp [hp]
   ·cases hs:jh r <;> simp [hp]
  ·rw [if_neg h,if_neg h]
   simp only [List.all_cons]
   by_cases hc:c < 33∨126 < c
   ·have:gE c=false:=by
     unfold gE
     rcases hc with hc | hc
     ·have: ¬(33<=c):=UInt8.not_le.2 hc
      simp [this]
     ·have: ¬(c<=126):=UInt8.not_le.2 hc
      simp [this]
    rw [if_pos hc]
    simp [this]
   ·have:gE c=true:=by
     unfold gE
     have h1:33<=c:=UInt8.not_lt.1 fun h=>hc (Or.inl h)
     have h2:c<=126:=UInt8.not_lt.1 fun h=>hc (Or.inr h)
     simp [h1,h2,h]
    rw [if_neg hc,ZQ r (pre ++ [c])]
    simp [this]
theorem Mt (a:UInt8) (r:Bs) (sign:UInt8) (h1:a=sign) (h2: ¬255 < (a ::r).length):cg (a ::r) sign=pR [] r:=by
 rw [ZQ]
 have hl:=(yP r 58).1
 simp only [List.length_cons] at h2
 simp only [cg,List.nil_append,List.length_cons]
 generalize gj r 58=x at hl ⊢
 obtain ⟨n,p,b⟩:=x
 simp only at hl ⊢
 have h3:n.length<=255:=by omega
 have h4:r.length+1<=255:=by omega
 have h5:(0 < n.length)=(n≠ []):=by rw [List.length_pos_iff]
 have e:oJ gE 255 n=true↔n.all gE=true/\n≠ []:=by
  unfold oJ
  rw [ak,ak,cD,cD,h5]
  simp only [h3,and_true]
 have e2:(a=sign/\r.length+1<=255/\b=true/\oJ gE 255 n=true/\jh p=true)↔(b=true/\n.all gE=true/\n≠ []/\jh p=true):=by
  rw [e]
  simp only [h1,h4,true_and,and_assoc]
 by_cases hb:(b=true/\n.all gE=true/\n≠ []/\jh p=true)
 ·rw [if_pos (e2.2 hb),if_pos hb]
 ·rw [if_neg (fun h=>hb (e2.1 h)),if_neg hb]
theorem Gk {s:Bs} {a b:Nat} (h:a<=b) (h2:b<=s.length):ck (.str s) (some (some (a:Int))) (some (some (b:Int)))=some (.str ((s.take b).drop a)):=by
 have:bounds s.length (some (a:Int)) (some (b:Int))=some (a,b):=by
  simp [bounds]; omega
 simp [ck,this]
theorem l33 (c:UInt8):decide ((c.toNat:Int) < 33)=decide (c < 33):=by rw [decide_eq_decide,UInt8.lt_iff_toNat_lt]; simp; omega
theorem g126 (c:UInt8):decide ((c.toNat:Int) > 126)=decide (126 < c):=by rw [decide_eq_decide,UInt8.lt_iff_toNat_lt]; simp; omega
theorem u6 (s:Bs) (sign:UInt8) (hb:s.length < cJ):cR 81 [.str s, .int .u8 sign.toNat]=some (.tup [.str (cg s sign).1, .str (cg s sign).2.1, .bool (cg s sign).2.2]):=by
 refine aC (F:=F81) rfl ?_
 obtain ⟨r,hr⟩ : ∃r,r=AV.tup [.str (cg s sign).1, .str (cg s sign).2.1, .bool (cg s sign).2.2]:=⟨_,rfl⟩
 rw [←hr]
 cases hs:s with
 | nil=>
  subst hs
  simp only [cg] at hr
  have e0:(((0:Nat):Int) == 0)=true:=rfl
  simp only [qR,ax,seval,e0,hr]
 | cons a t=>
  rw [←hs]
  have e0:((s.length:Int) == 0)=false:=by rw [hs,List.length_cons]; simp; omega
  have ha:cC (.str s) (.int .i64 0)=some (.int .u8 a.toNat):=by rw [hs]; rfl
  have zG:decide ((s.length:Int) > 255)=decide (255 < s.length):=by rw [decide_eq_decide]; omega
  by_cases h1:a=sign
  ·have q1:(a != sign)=false:=by simp [h1]
   by_cases h2:255 < s.length
   ·have:cg s sign=([], [],false):=by
     rw [hs] at h2 ⊢
     simp only [cg]
     rw [if_neg aa]
    rw [this] at hr
    have Xq:decide (255 < s.length)=true:=by simp [h2]
    simp only [qR,ax,seval,e0,ha,Wu,q1,zG,Xq,hr]
   ·have Xq:decide (255 < s.length)=false:=by simp [h2]
    have hp:cg s sign=pR [] (s.drop 1):=by
     rw [hs] at h2 ⊢
     exact Mt a t sign h1 h2
    rw [hp] at hr
    have Ho:1<=s.length:=by rw [hs]; simp
    clear hp
    unfold cJ at hb
    simp only [Ip,Io,F81,ay,ax,seval,e0,ha,Wu,q1,zG,Xq]
    refine dC (S:=Nat) (fun j=> [(0, .str s),(7, .int .i64 (j:Int))]) (fun _=> .empty) (fun j=>s.length - j) (fun j=>1<=j/\pR ((s.take j).drop 1) (s.drop j)=pR [] (s.drop 1)) ?_ 1 ⟨aE _,by rw [bn (by simp; omega)]⟩
    rintro b j ⟨hj1,hj⟩ ih
    by_cases aN:j < s.length
    ·obtain ⟨c,hc⟩:=bM aN
     have aA:=lS aN
     have fa:=lK hc
     have hw:=cd aN aa
     have wk:ck (.str s) (some (some ((j+1:Nat):Int))) (some none)=some (.str (s.drop (j+1))):=dq (s:=s) (i:=((j+1:Nat):Int)) aa aa
     have hsl2:ck (.str s) (some (some 1)) (some (some (j:Int)))=some (.str ((s.take j).drop 1)):=Gk (a:=1) hj1 aa
     have W1:=DS (s.drop (j+1)) (by rw [gA]; unfold cJ; omega)
     have hpre:((s.take j).drop 1= [])↔j=1:=by
      rw [List.drop_eq_nil_iff,bE]; omega
     rw [drop_cons hc,pR] at hj
     cases Dm:c == 58 with
     | true=>
      have h58':c=58:=by simpa using Dm
      rw [if_pos h58'] at hj
      by_cases hj1':j=1
      ·have ej:((j:Int) == 1)=true:=by simp [hj1']
       rw [if_pos (Or.inl (hpre.2 hj1'))] at hj
       rw [←hj] at hr
       simp only [qR,ax,seval,aA,fa,BR,Dm,ej,hr]
      ·have ej:((j:Int) == 1)=false:=by simp; omega
       cases hsv:nV (s.drop (j+1)) with
       | false=>
        rw [if_pos (Or.inr hsv)] at hj
        rw [←hj] at hr
        rw [hsv] at W1
        simp only [qR,ax,seval,aA,fa,BR,Dm,ej,hw,wk,W1,hr]
       | true=>
        rw [if_neg (by rw [hsv,hpre]; simp [hj1'])] at hj
        rw [←hj] at hr
        rw [hsv] at W1
        simp only [qR,ax,seval,aA,fa,BR,Dm,ej,hw,wk,hsl2,W1,hr]
     | false=>
      have h58':c≠58:=by simpa using Dm
      rw [if_neg h58'] at hj
      cases hl:decide (c < 33) with
      | true=>
       rw [if_pos (Or.inl (by simpa using hl))] at hj
       rw [←hj] at hr
       simp only [qR,ax,seval,aA,fa,BR,Dm,l33,hl,hr]
      | false=>
       cases hg:decide (126 < c) with
       | true=>
        rw [if_pos (Or.inr (by simpa using hg))] at hj
        rw [←hj] at hr
        simp only [qR,ax,seval,aA,fa,BR,Dm,l33,hl,g126,hg,hr]
       | false=>
        rw [if_neg (by simp at hl hg ⊢; exact ⟨hl,hg⟩)] at hj
        simp only [qR,ax,seval,aA,fa,BR,Dm,l33,hl,g126,hg,hw]
        refine ih (j+1) _ _ aa ⟨by omega,?_⟩ rfl rfl
        rw [←hj,List.take_add_one,hc,List.drop_append,bE]
        have:1 - min j s.length=0:=by omega
        rw [this]; rfl
    ·have aA:=lT (Nat.not_lt.1 aN)
     have hd:s.drop j= []:=bn aa
     rw [hd,pR] at hj
     rw [←hj] at hr
     simp only [qR,ax,seval,aA,hr]
  ·have q1:(a != sign)=true:=by simp [h1]
   have:cg s sign=([], [],false):=by
    rw [hs]
    simp only [cg]
    rw [if_neg (by simp [h1])]
   rw [this] at hr
   simp only [qR,ax,seval,e0,ha,Wu,q1,hr]
theorem LX (s:Bs) (hb:s.length < cJ):cR 71 [.str s]=some (.tup [.str (cg s 64).1, .str (cg s 64).2.1, .bool (cg s 64).2.2]):=by
 have h:cR 81 [.str s, .int .u8 64]=_:=u6 s 64 hb
 refine aC (F:=F71) rfl ?_
 simp only [F71,ax,seval,h]
theorem DT (s:Bs) (hb:s.length < cJ):cR 59 [.str s]=some (.bool (cg s 64).2.2):=by
 have h:=LX s hb
 refine aC (F:=F59) rfl ?_
 simp only [F59,ax,seval,h]
def Tp:= @F33.eq_1
def To:= @F57.eq_1
theorem kV {v:V} (k:Bs) (hf:v.fine=true):cm v k=gO v k:=by
 unfold cm
 by_cases h5:v.kind=5
 ·rw [if_pos h5,rq k h5 (rz h5 hf)]
  try (cases gX v.m k <;> rfl)
 ·rw [if_neg h5,jJ k h5]
theorem p9 {k:Bs} {x:V}: ∀ {m:List Mem},gX m k=some x->∃e∈m,e.2=x
 | [],h=>by simp [gX] at h
 | (a,y) ::m,h=>by
  rw [gX] at h
  split at h
  ·exact ⟨(a,y),by simp,br h⟩
  ·obtain ⟨e,he,hx⟩:=p9 h
   exact ⟨e,by simp [he],hx⟩
theorem V.zero_fine:V.zero.fine=true:=by rw [V.fine_eq]; decide
theorem Hz {v:V} (h5:v.kind=5) (h:v.fine=true):jx none v.m=true:=by
 rw [V.fine_eq,h5] at h
 simp only [Int.reduceEq,if_false,if_true] at h
 simp only [ak] at h
 exact h.2
theorem gZ {v:V} (k:Bs) (hf:v.fine=true):(cm v k).1.fine=true:=by
 unfold cm
 by_cases h5:v.kind=5
 ·rw [if_pos h5]
  cases hl:gX v.m k with
  | none=>exact V.zero_fine
  | some x=>
   obtain ⟨e,he,hx⟩:=p9 hl
   rw [←hx]
   exact (Ay (Hz h5 hf) e he).1
 ·rw [if_neg h5]; exact V.zero_fine
theorem kM (v:V) (k:Bs):(cm v k).1.sz<=v.sz:=by
 unfold cm
 have hz:=V.zero_sz
 have hp:=v.sz_pos
 split
 ·cases hl:gX v.m k with
  | none=>simp only; omega
  | some x=>
   obtain ⟨e,he,hx⟩:=p9 hl
   have:=eT he
   have:=v.sz_eq
   rw [hx] at*
   simp only; omega
 ·simp only; omega
theorem lf {v:V} (k:Bs) (h:v.fine=true):iE v k=bu v k:=by
 unfold iE bu
 rw [kV k h]
def bW (c:V):V×Bool:=if c.good=true then ((cm (cm c cA).1 bX).1,(cm (cm c cA).1 bX).2 && (cm (cm c cA).1 bX).1.kind == 5) else (V.zero,false)
theorem uZ (c:V) (hb:c.sz < cJ):cR 57 [c.enc]=some (.tup [(bW c).1.enc, .bool (bW c).2]):=by
 have h1:=m6 c hb
 have h2:=m7 c cA hb
 have z2:=kM c cA
 unfold bW
 generalize cm c cA=t at h2 z2 ⊢
 have h3:=m7 t.1 bX aa
 generalize cm t.1 bX=s at h3 ⊢
 obtain ⟨x,ok⟩:=s
 simp only at h3 ⊢
 simp only [cA,bX] at h2 h3
 refine aC (F:=F57) rfl ?_
 cases hg:c.good with
 | false=>
  rw [hg] at h1
  simp only [To,ax,seval,EXF,VX,ae,h1,aX,if_false,V.zero_enc]
 | true=>
  rw [hg] at h1
  cases ok with
  | false=>simp only [To,ax,seval,EXF,VX,ae,h1,h2,h3,if_true,Bool.false_and]
  | true=>simp only [To,ax,seval,EXF,VX,ae,h1,h2,h3,if_true,Bool.true_and]
def iz (c:V):Bs×Bs×Bool:=if (bW c).2=true/\(iE (bW c).1 jH).2=true/\(iE (bW c).1 nq).2=true then ((iE (bW c).1 jH).1,(iE (bW c).1 nq).1,true) else ([], [],false)
theorem qX (c:V):(bW c).1.sz<=c.sz:=by
 unfold bW
 have h1:=kM c cA
 have h2:=kM (cm c cA).1 bX
 have hz:=V.zero_sz
 have hp:=c.sz_pos
 split <;> simp only <;> omega
theorem xM (c:V) (hb:c.sz < cJ):cR 32 [c.enc]=some (.tup [.str (iz c).1, .str (iz c).2.1, .bool (iz c).2.2]):=by
 have h1:=uZ c hb
 have z1:=qX c
 unfold iz
 generalize bW c=t at h1 z1 ⊢
 obtain ⟨x,ok⟩:=t
 simp only at h1 z1 ⊢
 have h2:=iY x jH aa
 have h3:=iY x nq aa
 generalize iE x jH=a at h2 ⊢
 generalize iE x nq=b at h3 ⊢
 obtain ⟨a1,a2⟩:=a
 obtain ⟨b1,b2⟩:=b
 simp only at h2 h3 ⊢
 simp only [jH,nq] at h2 h3
 refine aC (F:=F32) rfl ?_
 cases ok <;> cases a2 <;> cases b2 <;> simp only [F32,ax,seval,VX,ae,h1,h2,h3,aX,and_true,and_false,false_and,if_true,if_false]
theorem gD (k:Bs):gO V.zero k=(V.zero,false):=jJ k (by simp [V.zero,V.kind])
theorem LC (c:V):iz c=jA c:=by
 have h0:jA V.zero=([], [],false):=by
  have hs:said V.zero=V.zero:=by unfold said; simp
  unfold jA bT cH
  rw [hs,gD]
  simp [gD]
 have hsd: ∀v:V,said v=V.zero->jA v=([], [],false):=by
  intro v hv
  have hs:said V.zero=V.zero:=by unfold said; simp
  rw [←h0]
  unfold jA bT
  rw [hs,hv]
 by_cases hg:c.good=true
 ·have hf:c.fine=true:=by unfold V.good at hg; simp at hg; exact hg.1
  have f1:=gZ cA hf
  have f2:=gZ bX f1
  have e1:=kV cA hf
  have e2:=kV bX f1
  unfold iz bW
  rw [if_pos hg]
  simp only [lf _ f2]
  by_cases h5:c.kind=5
  ·have hs:said c=c:=by unfold said; exact if_pos (by simp [hg,h5])
   unfold jA bT
   rw [hs]
   rw [e1] at e2 f2 f1 ⊢
   rw [e2] at f2 ⊢
   unfold cH
   generalize hq:gO c cA=t at*
   obtain ⟨x,a⟩:=t
   simp only at*
   by_cases hx5:x.kind=5
   ·have hb:(x.kind == 5)=true:=by simp [hx5]
    cases a with
    | false=>
     exfalso
     unfold cm at e1
     rw [if_pos h5] at e1
     cases hl:gX c.m cA with
     | none=>rw [hl] at e1; simp only [aI] at e1; rw [←e1.1] at hx5; simp [V.zero,V.kind] at hx5
     | some y=>rw [hl] at e1; simp at e1
    | true=>
     simp only [hb,aV,if_true]
     generalize gO x bX=s
     obtain ⟨y,b⟩:=s
     simp only
     cases b with
     | false=>simp [gD]
     | true=>
      cases hy:y.kind == 5 with
      | false=>simp
      | true=>simp [and_assoc]
   ·have hb:(x.kind == 5)=false:=by simp [hx5]
    simp only [hb,aW,aX,if_false,gD,jJ bX hx5]
    simp
  ·have hs:said c=V.zero:=by unfold said; exact if_neg (by simp [h5])
   rw [hsd c hs,e2,e1,jJ cA h5]
   simp [gD]
 ·have hs:said c=V.zero:=by unfold said; exact if_neg (by simp [hg])
  rw [hsd c hs]
  unfold iz bW
  rw [if_neg hg]
  simp
theorem L6 (c:V) (hb:c.sz < cJ):cR 33 [c.enc]=some (.tup [.str (sZ c).1, .bool (sZ c).2]):=by
 have h1:=pT c kH hb
 have z1:=jU c
 have z2:=jB (said c) kH
 have hno:(bu (said c) kH).2=false->(bu (said c) kH).1= []:=by
  intro h
  unfold bu at h ⊢
  split at h
  ·simp at h
  ·rename_i hh; rw [if_neg hh]
 unfold sZ
 generalize bu (said c) kH=t at h1 z2 hno ⊢
 obtain ⟨s,ok⟩:=t
 simp only at h1 z2 hno ⊢
 have h2:=DT s aa
 simp only [kH] at h1
 refine aC (F:=F33) rfl ?_
 cases ok with
 | false=>
  have:(cg s 64).2.2=false:=by rw [hno rfl]; rfl
  simp only [Tp,ax,seval,VX,ae,h1,this,aX,if_false]
 | true=>
  cases hp:(cg s 64).2.2 with
  | false=>
   rw [hp] at h2
   simp only [Tp,ax,seval,VX,ae,h1,h2,aX,if_false]
  | true=>
   rw [hp] at h2
   simp only [Tp,ax,seval,VX,ae,h1,h2,if_true]
def U1Fa:=J @IX.eq_1 (J @C7.eq_1 (J @Lp.eq_1 (@Zc.eq_1)))
theorem Fx {id:Nat} {F:aq} (hF:cF id=some F) {first args caps:ai} {σ:ag} {Q:AV->ag->Prop}
  (h:Ex cF gU [.code F.body] (eW (first ++args ++caps)) σ fun fr' σ1=>∃r,iB fr' σ1 F.res=some r/\Q r σ1): ∃r σ',cf cF gU (.fn id first caps) args σ=some (r,σ')/\Q r σ':=by
 obtain ⟨n,fr',σ1,h1,r,h2,h3⟩:=h
 exact ⟨r,σ1,gy hF (first:=first) (args:=args) (caps:=caps) ⟨n,fr',σ1,h1,h2,rfl⟩,h3⟩
theorem Kf {l:List Mem} {j:Nat} {e:Mem} {c:aD} (h:l[j]? =some e):idxOf 6 none (.vsl (l.map bx) c) (.int .i64 (j:Int))=some (.vptr (bx e).cells 0):=bV (f:=bx) h (by simp [bJ])
theorem D7 (l:List Mem) (f:AV) (p:Mem->Bool) (hf:f.closed=true) (mU:f.er=f) (hlen:l.length < cJ) (hp: ∀e∈l,dO cF gU f [bx e]=some (.bool (p e))) :
  cR 161 [.vsl (l.map bx) none,f]=some (.int .i64 (bI p l 0)):=by
 unfold cJ at hlen
 refine aC (F:=Zc) rfl ?_
 simp only [IX,C7,Zc,ay,ax,seval,VX]
 refine dC (S:=Nat) (fun j=> [(0, .vsl (l.map bx) none),(1,f),(7, .int .i64 l.length),(8, .int .i64 (j:Int))]) (fun _=> .empty) (fun j=>l.length - j) (fun j=>bI p l j=bI p l 0) ?_ 0 rfl
 intro b j hj ih
 by_cases aN:j < l.length
 ·obtain ⟨v,hv⟩:=bM aN
  have bQ:=Kf (c:=none) hv
  have bD:=hp v (bH hv)
  have aA:=lS aN
  simp only [U1Fa,ax,seval,VX,ae,aA,bQ,hf,mU,bD]
  split
  ·rename_i Ak
   rw [←hj,iH hv Ak]
  ·rename_i Ak
   refine ih (j+1) _ _ aa ?_ ?_ rfl
   ·rw [←g8 hv (by simpa using Ak)]; exact hj
   ·rw [cd aN aa]
    simp only [ax,seval]
 ·have aA:=lT (Nat.not_lt.1 aN)
  simp only [U1Fa,ax,seval,VX,aA]
  rw [←hj,iI aa]
theorem rb_slp {σ:ag} {d b n sz:Nat} {cells rest:ai} (h:σ.cells b=some (cells ++rest)) (h2:cells.length=n*sz) (hs:0 < sz) (hc:aB cells=true) (ha:cells.all AV.notAgg=true) :
  rb σ (d+1) (.sl b 0 n sz none)=some (.vsl (chunks sz n cells) none):=by
 have ht:List.take (n*sz) (List.drop 0 (cells ++rest))=cells:=by rw [List.drop_zero,←h2,List.take_left]
 have e:rb σ (d+1) (.sl b 0 n sz none)=(match σ.cells b with
   | some cs=>
    if 0+n*sz<=cs.length/\0 < sz then
     match dt (rb σ d) ((cs.drop 0).take (n*sz)) with
     | some cs'=>if cs'.all AV.notAgg then some (.vsl (chunks sz n cs') none) else none
     | none=>none
    else none
   | none=>none):=rfl
 rw [e,h]
 simp only
 rw [if_pos ⟨by rw [az]; omega,hs⟩,ht,cP hc]
 simp only
 rw [if_pos ha]
def Rp {α:Type} (L:fW α) (σ:ag) (v:AV) (l:List α):Prop:=(l= []/\(v= .nils∨v= .vsl [] (some 0)))∨∃b rest,v= .sl b 0 l.length L.sz none/\σ.get b=some (.own (L.cells l ++rest))
theorem Rp.rbD {α:Type} {L:fW α} {σ:ag} {v:AV} {l:List α} (h:Rp L σ v l) (d:Nat): ∃v',Go.Ab.rb σ (d+1) v=some v'/\v'.er= .vsl (l.map L.f) none:=by
 rcases h with ⟨rfl,rfl | rfl⟩ | ⟨b,rest,rfl,h⟩
 ·exact ⟨_,rfl,by simp only [AV.er]; rfl⟩
 ·exact ⟨_,cj rfl,by simp only [AV.er,dT]; rfl⟩
 ·refine ⟨_,rb_slp (cells:=L.cells l) (rest:=rest) (by simp [ag.cells,h]) (L.cells_len l) L.pos (L.cells_closed l) (lx (L.cells_one l)),?_⟩
  rw [L.chunks]; simp only [AV.er,L.erMap]
theorem oX.rp {α:Type} {L:fW α} {σ:ag} {d:Nat} {v:AV} {l:List α} {cs cs':ai} (hv:Rp L σ v l) (h:oX σ (d+1) cs cs'):oX σ (d+1) (v ::cs) (.vsl (l.map L.f) none ::cs'):=by
 obtain ⟨m,h1,h2⟩:=h
 obtain ⟨v',h3,h4⟩:=hv.rbD d
 exact ⟨v' ::m,by simp only [dt,h3,h1],by simp only [dT,h2,h4]⟩
theorem NK {α:Type} {L:fW α} {σ:ag} {b:Nat} {l:List α} {st:Bool} {f:Nat} {x r:AV} (h:σ.cells b=some (L.cells l)) (hx:x.closed=true) (Z0:x.er=x) (hc:cR f [.vsl (l.map L.f) none,x]=some r) (hr:r.flat=true) :
  fZ cF gU st (.fn f [] []) [.sl b 0 l.length L.sz none,x] σ=some (r,σ):=by
 obtain ⟨v',h1,h2⟩ : ∃v',rb σ (23+1) (.sl b 0 l.length L.sz none)=some v'/\v'.er= .vsl (l.map L.f) none:=by
  refine ⟨_,JB (d:=23) h (L.cells_len l) L.pos (L.cells_closed l) (lx (L.cells_one l)),?_⟩
  rw [L.chunks]; simp only [AV.er,L.erMap]
 refine gl (args':= [v',x]) rfl ?_ ?_ hr
 ·have E9:rb σ bK (.sl b 0 l.length L.sz none)=some v':=h1
  simp only [dt,E9,cj hx]
 ·simp only [dT,h2,Z0]; exact hc
theorem xE {α:Type} (L:fW α) (pre post:List α) (x y:α) (rest:ai):splice (L.cells (pre ++x ::post) ++rest) (pre.length*L.sz) (L.f y).cells=L.cells (pre ++y ::post) ++rest:=by
 unfold splice
 have h1:=L.cells_len pre
 have hx:=L.len x
 have hy:=L.len y
 rw [L.cells_append,L.cells_cons,L.cells_append,L.cells_cons,←h1,hy]
 simp only [bf]
 rw [List.take_left,List.drop_append,List.drop_of_length_le aa,Nat.add_sub_cancel_left,List.nil_append,←hx,List.drop_left]
theorem O9 {α:Type} (L:fW α) (hs:L.sz≠1) (pre post:List α) (x:α) (rest:ai):dG (L.cells (pre ++x ::post) ++rest) (pre.length*L.sz) (some L.sz)=some (L.f x):=by
 have hag:=L.agg x
 rw [if_neg hs] at hag
 obtain ⟨cs,lC⟩:=hag
 have h1:=L.cells_len pre
 have hx:=L.len x
 rw [ae,L.cells_append,L.cells_cons,←h1]
 simp only [bf]
 rw [if_pos (by simp; omega),List.drop_left,←hx,List.take_left,lC]
 rfl
def sh6 (x:Int):Int:=IntKind.wrap .u64 (x*2 ^ (min (6:Int).toNat (IntKind.bits .u64)))
theorem shl_6 (x:Int):aY .shl .u64 x 6=some (.int .u64 (sh6 x)):=rfl
def U0 (x:Int) (n:Nat):Int:=x.fdiv (2 ^ (min (n:Int).toNat (IntKind.bits .u64)))
theorem shr_N (x:Int) (n:Nat):aY .shr .u64 x (n:Int)=some (.int .u64 (U0 x n)):=by
 unfold aY
 rw [if_neg aa]; rfl
theorem Cd {left:Int} (h:0<=left) (r:Nat) (hr:r<=6):IntKind.wrap .u64 ((BitVec.ofInt (IntKind.bits .u64) left &&& BitVec.ofInt (IntKind.bits .u64) (2 ^ r - 1)).toNat:Int)=left % 2 ^ r:=by
 obtain ⟨m,rfl⟩:=Int.eq_ofNat_of_zero_le h
 have hp:2 ^ r<=64:=by
  have:=Nat.pow_le_pow_right (n:=2) (by decide) hr
  simpa using this
 have hp0:0 < 2 ^ r:=Nat.two_pow_pos r
 have e0:((2:Int) ^ r - 1)=((2 ^ r - 1:Nat):Int):=by
  rw [Int.ofNat_sub aa]; simp
 have e1:(BitVec.ofInt (IntKind.bits .u64) (m:Int) &&& BitVec.ofInt (IntKind.bits .u64) (2 ^ r - 1)).toNat=m % 2 ^ r:=by
  rw [e0]
  show (BitVec.ofInt 64 (m:Int) &&& BitVec.ofInt 64 ((2 ^ r - 1:Nat):Int)).toNat=_
  rw [BitVec.toNat_and,BitVec.ofInt_natCast,BitVec.ofInt_natCast,BitVec.toNat_ofNat,BitVec.toNat_ofNat,aO (show 2 ^ r - 1 < 2 ^ 64 by omega),Nat.and_two_pow_sub_one_eq_mod]
  exact Nat.mod_mod_of_dvd m (Nat.pow_dvd_pow 2 aa)
 rw [e1]
 have:m % 2 ^ r < 64:=Nat.lt_of_lt_of_le (bb _ hp0) hp
 have e2:((m:Int) % 2 ^ r)=((m % 2 ^ r:Nat):Int):=by simp
 rw [e2]
 generalize m % 2 ^ r=x at this
 simp only [IntKind.wrap,IntKind.bits,IntKind.signed,aX,if_false,Bool.false_and]
 omega
structure GSt where
 j:Nat
 ob:aD
 out:List Int
 left:Int
 n:Nat
theorem oX.tup {σ:ag} {cs cs':ai} (h:oX σ 23 cs cs'):rbE σ (.tup cs)=some (.tup cs'):=by
 obtain ⟨m,h1,h2⟩:=h
 unfold rbE
 by_cases hc:(AV.tup cs).closed=true
 ·have:m=cs:=by
   have hm:=cP (σ:=σ) (d:=23) (show aB cs=true by simpa [AV.closed] using hc)
   rw [h1] at hm
   exact br hm
  subst this
  rw [cj hc,Option.map_some,AV.er,h2]
 ·have e:rb σ bK (.tup cs)=some (.tup m):=by
   show rb σ (23+1) (.tup cs)=_
   rw [rb,if_neg hc,h1]
  rw [e,Option.map_some,AV.er,h2]
theorem oW.gr {α:Type} {L:fW α} {σ:ag} {ob:aD} {l:List α} (h:oW L σ ob l):Gr L σ (iA L.sz ob l.length) l:=by
 cases ob with
 | none=>exact .inl ⟨rfl,dW h.1⟩
 | some b=>exact Gr.own h
def mr (v i:Nat):Nat:=v / 2 ^ (5 - i) % 2
theorem UZ {v i:Nat} (hv:v < 64) (hi:i < 6):aY .shr .i64 (v:Int) ((5 - i:Nat):Int)=some (.int .i64 ((v / 2 ^ (5 - i):Nat):Int)):=by
 unfold aY
 rw [if_neg aa]
 have:min ((5 - i:Nat):Int).toNat (IntKind.bits .i64)=5 - i:=by simp [IntKind.bits]; omega
 simp only [this]
 congr 2
 have e:((2:Int) ^ (5 - i))=((2 ^ (5 - i):Nat):Int):=by simp
 rw [e,Int.fdiv_eq_ediv_of_nonneg _ (Int.natCast_nonneg _)]
 rfl
def sh8 (n:Nat):Int:=IntKind.wrap .u8 (1*2 ^ (min (n:Int).toNat (IntKind.bits .u8)))
theorem shl_8 (n:Nat):aY .shl .u8 1 (n:Int)=some (.int .u8 (sh8 n)):=by
 unfold aY
 rw [if_neg aa]; rfl
theorem Yy (x:Nat) (hx:x < 64):IntKind.wrap .i64 ((BitVec.ofInt (IntKind.bits .i64) (x:Int) &&& BitVec.ofInt (IntKind.bits .i64) 1).toNat:Int)=((x % 2:Nat):Int):=by
 have e1:(BitVec.ofInt (IntKind.bits .i64) (x:Int) &&& BitVec.ofInt (IntKind.bits .i64) 1).toNat=x % 2:=by
  show (BitVec.ofInt 64 (x:Int) &&& BitVec.ofInt 64 ((2 ^ 1 - 1:Nat):Int)).toNat=_
  rw [BitVec.toNat_and,BitVec.ofInt_natCast,BitVec.ofInt_natCast,BitVec.toNat_ofNat,BitVec.toNat_ofNat,aO (show 2 ^ 1 - 1 < 2 ^ 64 by decide),Nat.and_two_pow_sub_one_eq_mod]
  omega
 rw [e1]
 have:x % 2 < 2:=bb _ (by decide)
 generalize x % 2=y at this
 simp [IntKind.wrap,IntKind.bits,IntKind.signed]
 omega
theorem Zp {x:Nat} (h:x < 9223372036854775808):IntKind.wrap .i64 (x:Int)=x:=by
 simp [IntKind.wrap,IntKind.bits,IntKind.signed]; omega
end Go.Ab
