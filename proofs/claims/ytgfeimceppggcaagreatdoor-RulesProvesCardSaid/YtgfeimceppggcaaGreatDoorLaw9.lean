/- What functions of the program, and of the library, answer. Conditions: none. -/
import Derived.Test.YtgfeimceppggcaaGreatDoorLaw8
import Derived.Test.YtgfeimceppggcaaGreatDoorEx
set_option linter.unusedVariables false
set_option linter.unusedSimpArgs false
set_option linter.defProp false
set_option linter.unnecessarySimpa false
namespace Go.Ab
set_option maxRecDepth 100000
set_option maxHeartbeats 1000000
def rK (n:UInt8):UInt8:=if n < 10 then 48+n else 87+n
def gD (b:UInt8):Bs:=
 if b=34 then [92,34] else if b=92 then [92,92] else if b=8 then [92,98] else if b=9 then [92,116] else if b=10 then [92,110] else if b=12 then [92,102] else if b=13 then [92,114]
 else if b < 32 then [92,117,48,48,rK (b >>> 4),rK (b &&& 15)] else [b]
def eo (s:Bs):Bs:=34 ::(s.flatMap gD ++ [34])
def jM (n:Nat):Bs:=if h:n < 10 then [UInt8.ofNat (48+n)] else jM (n / 10) ++ [UInt8.ofNat (48+n % 10)]
termination_by n
decreasing_by omega
def ml (n:Int):Bs:=if n < 0 then 45 ::jM n.natAbs else jM n.natAbs
mutual
def V.wr:V->Bs
 | .mk k n s l m=>if k=0 then [110,117,108,108] else if k=1 then (if n=1 then [116,114,117,101] else [102,97,108,115,101]) else if k=2 then ml n
  else if k=3 then eo s else if k=4 then 91 ::((vV l).tail ++ [93]) else 123 ::((vU m).tail ++ [125])
def vV:List V->Bs
 | []=> []
 | v ::r=>44 ::(v.wr ++vV r)
def vU:List (Bs×V)->Bs
 | []=> []
 | (k,v) ::r=>44 ::(eo k ++58 ::(v.wr ++vU r))
end
theorem V.wr_eq (v:V):v.wr=if v.kind=0 then [110,117,108,108] else if v.kind=1 then (if v.n=1 then [116,114,117,101] else [102,97,108,115,101]) else if v.kind=2 then ml v.n
  else if v.kind=3 then eo v.s else if v.kind=4 then 91 ::((vV v.l).tail ++ [93]) else 123 ::((vU v.m).tail ++ [125]):=by cases v; rw [V.wr]; rfl
theorem Ct: ∀l r:List V,vV (l ++r)=vV l ++vV r
 | [],r=>by simp [vV]
 | v ::l,r=>by simp only [List.cons_append,vV,Ct l r,bb]
theorem Cs: ∀l r:List Mem,vU (l ++r)=vU l ++vU r
 | [],r=>by simp [vU]
 | (k,v) ::l,r=>by simp only [List.cons_append,vU,Cs l r,bb]
def pG (j:Nat):Bs:=if j=0 then [] else [44]
theorem EW {l:List V} {j:Nat} {x:V} (h:l[j]? =some x):(vV (l.take (j+1))).tail=(vV (l.take j)).tail ++pG j ++x.wr:=by
 have hi:=(bI.1 h).1
 rw [fM hi,(bI.1 h).2,Ct]
 cases j with
 | zero=>simp [vV,pG]
 | succ j=>
  obtain ⟨v,r,rfl⟩ : ∃v r,l=v ::r:=by cases l with
   | nil=>cases h
   | cons v r=>exact ⟨v,r,rfl⟩
  simp [vV,pG]
theorem EV {l:List Mem} {j:Nat} {x:Mem} (h:l[j]? =some x):(vU (l.take (j+1))).tail=(vU (l.take j)).tail ++pG j ++eo x.1 ++ [58] ++x.2.wr:=by
 have hi:=(bI.1 h).1
 obtain ⟨k,w⟩:=x
 rw [fM hi,(bI.1 h).2,Cs]
 cases j with
 | zero=>simp [vU,pG]
 | succ j=>
  obtain ⟨v,r,rfl⟩ : ∃v r,l=v ::r:=by cases l with
   | nil=>cases h
   | cons v r=>exact ⟨v,r,rfl⟩
  obtain ⟨k',v⟩:=v
  simp [vU,pG]
theorem Ls {l m:Bs} (h:l <+:m):l.tail.length<=m.tail.length:=by
 rw [List.length_tail,List.length_tail]; have:=h.length_le; omega
theorem K7 (l:List V) (j:Nat):(vV (l.take j)).tail.length<=(vV l).tail.length:=by
 refine Ls ⟨vV (l.drop j),?_⟩
 rw [←Ct,ed]
theorem K5 (l:List Mem) (j:Nat):(vU (l.take j)).tail.length<=(vU l).tail.length:=by
 refine Ls ⟨vU (l.drop j),?_⟩
 rw [←Cs,ed]
theorem Dk (b:UInt8):0 < (gD b).length/\(gD b).length<=6:=by
 unfold gD; repeat' split
 all_goals simp
def kO (σ:ag) (x:AV) (s:Bs):Prop:=(s= []/\x= .nils)∨∃b,x= .sl b 0 s.length 1 none/\look σ.m b=some (.own (af s))/\b < σ.next/\0 < s.length
theorem CT {σ:ag} {x:AV} {s:Bs} (h:kO σ x s) (t:Bs) (ht:0 < t.length) (hl:s.length+t.length < 1099511627776) :
  ∃σ',aF σ 1 1 x (af t) t.length=some (.sl σ.next 0 (s.length+t.length) 1 none,σ')/\look σ'.m σ.next=some (.own (af (s ++t)))/\σ'.next=σ.next+1/\∀j,j < σ.next->(∀b n,x= .sl b 0 n 1 none->j≠b)->look σ'.m j=look σ.m j:=by
 rcases h with ⟨rfl,rfl⟩ | ⟨b,rfl,h1,h2,h3⟩
 ·refine ⟨σ.alloc (af t),?_,?_,rfl,?_⟩
  ·unfold aF
   simp only [lenOf,List.length_nil,Nat.zero_add]
   rw [if_pos ⟨by decide,by decide,by unfold aY; omega,by rw [aM]; omega,cp t⟩,if_neg aa]
  ·simp [ag.alloc,look]
  ·intro j hj _
   have: ¬σ.next=j:=by omega
   simp [ag.alloc,look,this]
 ·obtain ⟨σ',q1,q2,q3,q4⟩:=fY (σ:=σ) (sz:=1) (bytes:=1) (n:=s.length) (k:=t.length) (ob:=some b) (cells:=af s) (new:=af t) ⟨h1,by rw [aM]; omega,h2,h3⟩ (by decide) (by decide) (by unfold aY; omega) (by rw [aM]; omega) (cp t) ht
  refine ⟨σ',q1,?_,q3,fun j hj hb=> ?_⟩
  ·rw [lP]; exact q2.1
  ·exact q4 j hj (fun e=>hb b s.length rfl (bT e).symm)
theorem kO.of {σ:ag} {b n:Nat} {s:Bs} (h:look σ.m b=some (.own (af s))) (hn:n=s.length) (hb:b < σ.next) (h0:0 < s.length):kO σ (.sl b 0 n 1 none) s:= .inr ⟨b,by rw [hn],h,hb,h0⟩
theorem eR {σ:ag} {x:AV} {s:Bs} (h:kO σ x s) (t:Bs) (ht:0 < t.length) (hl:s.length+t.length < 1099511627776) :
  ∃y σ',aF σ 1 1 x (af t) t.length=some (y,σ')/\kO σ' y (s ++t):=by
 obtain ⟨σ',q1,q2,q3,_⟩:=CT h t ht hl
 exact ⟨_,σ',q1,kO.of q2 (by rw [aq]) (by rw [q3]; exact aV _) (by rw [aq]; omega)⟩
theorem gY {ip:Nat->Option au} {G:Nat->ai} {id:Nat} {F:au} (hF:ip id=some F) {first args caps:ai} {σ:ag} {P:AV->ag->Prop}
  (h:Ex ip G [.code F.body] (fK (first ++args ++caps)) σ fun fr' σ1=>∃r,iO fr' σ1 F.res=some r/\P r σ1): ∃r σ',cj ip G (.fn id first caps) args σ=some (r,σ')/\P r σ':=by
 obtain ⟨n,fr',σ1,h1,r,h2,h3⟩:=h
 exact ⟨r,σ1,cU hF ⟨n,fr',σ1,h1,h2,rfl⟩,h3⟩
def Q2Fa:=J @Ea.eq_1 (J @D9.eq_1 (J @Nl.eq_1 (@F293.eq_1)))
def Gl:Bs:= [48,49,50,51,52,53,54,55,56,57,97,98,99,100,101,102]
theorem DC {s:Bs} {k:IntKind} {n:Nat} {b:UInt8} (h:s[n]? =some b):et (.str s) (.int k (n:Int))=some (.int .u8 (b.toNat:Int)):=by simp [et,h]
theorem Tx (b:UInt8):et (.str Gl) (.int .u8 ((b.toNat / 16:Nat):Int))=some (.int .u8 ((rK (b >>> 4)).toNat:Int)):=by
 have h:Gl[b.toNat / 16]? =some (rK (b >>> 4)):=eq_of_beq (gE (p:=fun b=>Gl[b.toNat / 16]? == some (rK (b >>> 4))) (by decide+kernel) b)
 exact DC h
theorem Tw (b:UInt8):et (.str Gl) (.int .u8 ((b.toNat % 16:Nat):Int))=some (.int .u8 ((rK (b &&& 15)).toNat:Int)):=by
 have h:Gl[b.toNat % 16]? =some (rK (b &&& 15)):=eq_of_beq (gE (p:=fun b=>Gl[b.toNat % 16]? == some (rK (b &&& 15))) (by decide+kernel) b)
 exact DC h
theorem Vi (b:UInt8):IntKind.wrap .u8 ((BitVec.ofInt (IntKind.bits .u8) (b.toNat:Int) &&& BitVec.ofInt (IntKind.bits .u8) 15).toNat:Int)=((b.toNat % 16:Nat):Int):=
 eq_of_beq (gE (p:=fun b=>IntKind.wrap .u8 ((BitVec.ofInt (IntKind.bits .u8) (b.toNat:Int) &&& BitVec.ofInt (IntKind.bits .u8) 15).toNat:Int) == ((b.toNat % 16:Nat):Int)) (by kernel_rfl) b)
theorem PH (b:UInt8) :
  ((b.toNat:Int)=34/\af (gD b)= [.int .u8 92, .int .u8 34]/\(gD b).length=2)∨
  ((b.toNat:Int)=92/\af (gD b)= [.int .u8 92, .int .u8 92]/\(gD b).length=2)∨
  ((b.toNat:Int)=8/\af (gD b)= [.int .u8 92, .int .u8 98]/\(gD b).length=2)∨
  ((b.toNat:Int)=9/\af (gD b)= [.int .u8 92, .int .u8 116]/\(gD b).length=2)∨
  ((b.toNat:Int)=10/\af (gD b)= [.int .u8 92, .int .u8 110]/\(gD b).length=2)∨
  ((b.toNat:Int)=12/\af (gD b)= [.int .u8 92, .int .u8 102]/\(gD b).length=2)∨
  ((b.toNat:Int)=13/\af (gD b)= [.int .u8 92, .int .u8 114]/\(gD b).length=2)∨
  (((((b.toNat:Int) == 34)=false/\((b.toNat:Int) == 92)=false/\((b.toNat:Int) == 8)=false/\((b.toNat:Int) == 9)=false/\((b.toNat:Int) == 10)=false/\((b.toNat:Int) == 12)=false/\((b.toNat:Int) == 13)=false)/\decide ((b.toNat:Int) < 32)=true)/\
   af (gD b)= [.int .u8 92, .int .u8 117, .int .u8 48, .int .u8 48, .int .u8 ((rK (b >>> 4)).toNat:Int), .int .u8 ((rK (b &&& 15)).toNat:Int)]/\(gD b).length=6)∨
  (((((b.toNat:Int) == 34)=false/\((b.toNat:Int) == 92)=false/\((b.toNat:Int) == 8)=false/\((b.toNat:Int) == 9)=false/\((b.toNat:Int) == 10)=false/\((b.toNat:Int) == 12)=false/\((b.toNat:Int) == 13)=false)/\decide ((b.toNat:Int) < 32)=false)/\
   af (gD b)= [.int .u8 (b.toNat:Int)]/\(gD b).length=1):=by
 have lit (k:UInt8) (h:b.toNat=k.toNat):b=k:=UInt8.toNat.inj h
 by_cases h1:b.toNat=34
 ·have:=lit 34 h1; subst this; exact .inl ⟨rfl,rfl,rfl⟩
 by_cases h2:b.toNat=92
 ·have:=lit 92 h2; subst this; exact .inr (.inl ⟨rfl,rfl,rfl⟩)
 by_cases h3:b.toNat=8
 ·have:=lit 8 h3; subst this; exact .inr (.inr (.inl ⟨rfl,rfl,rfl⟩))
 by_cases h4:b.toNat=9
 ·have:=lit 9 h4; subst this; exact .inr (.inr (.inr (.inl ⟨rfl,rfl,rfl⟩)))
 by_cases h5:b.toNat=10
 ·have:=lit 10 h5; subst this; exact .inr (.inr (.inr (.inr (.inl ⟨rfl,rfl,rfl⟩))))
 by_cases h6:b.toNat=12
 ·have:=lit 12 h6; subst this; exact .inr (.inr (.inr (.inr (.inr (.inl ⟨rfl,rfl,rfl⟩)))))
 by_cases h7:b.toNat=13
 ·have:=lit 13 h7; subst this; exact .inr (.inr (.inr (.inr (.inr (.inr (.inl ⟨rfl,rfl,rfl⟩))))))
 have ne (k:Nat) (h: ¬b.toNat=k):((b.toNat:Int) == (k:Int))=false:=by rw [cE]; omega
 have nb (k:UInt8) (h: ¬b.toNat=k.toNat): ¬b=k:=fun e=>h (by rw [e])
 have q:((b.toNat:Int) == 34)=false/\((b.toNat:Int) == 92)=false/\((b.toNat:Int) == 8)=false/\((b.toNat:Int) == 9)=false/\((b.toNat:Int) == 10)=false/\((b.toNat:Int) == 12)=false/\((b.toNat:Int) == 13)=false:=
  ⟨ne 34 h1,ne 92 h2,ne 8 h3,ne 9 h4,ne 10 h5,ne 12 h6,ne 13 h7⟩
 have e0:gD b=if b < 32 then [92,117,48,48,rK (b >>> 4),rK (b &&& 15)] else [b]:=by
  unfold gD
  rw [if_neg (nb 34 h1),if_neg (nb 92 h2),if_neg (nb 8 h3),if_neg (nb 9 h4),if_neg (nb 10 h5),if_neg (nb 12 h6),if_neg (nb 13 h7)]
 by_cases h8:b < 32
 ·have h9:b.toNat < 32:=UInt8.lt_iff_toNat_lt.1 h8
  rw [if_pos h8] at e0
  exact .inr (.inr (.inr (.inr (.inr (.inr (.inr (.inl ⟨⟨q,decide_eq_true aa⟩,by rw [e0]; rfl,by rw [e0]; rfl⟩)))))))
 ·have h9: ¬b.toNat < 32:=fun h=>h8 (UInt8.lt_iff_toNat_lt.2 h)
  rw [if_neg h8] at e0
  exact .inr (.inr (.inr (.inr (.inr (.inr (.inr (.inr ⟨⟨q,decide_eq_false aa⟩,by rw [e0]; rfl,by rw [e0]; rfl⟩)))))))
theorem Hq {s:Bs} {j:Nat} {b:UInt8} (h:s[j]? =some b):(s.take (j+1)).flatMap gD=(s.take j).flatMap gD ++gD b:=by
 have hi:=(bI.1 h).1
 rw [fM hi,(bI.1 h).2]; simp
theorem Dl (s:Bs):(s.flatMap gD).length<=6*s.length:=by
 induction s with
 | nil=>simp
 | cons b s ih=>have:=(Dk b).2; simp only [List.flatMap_cons,aq,List.length_cons]; omega
theorem Fu {s:Bs} (hv:vu s=true) (hn:s.length < 100000000000):cR 293 [.str s]=some (.tup [.str (eo s), .int .i64 0]):=by
 have hg:=CH s aa
 rw [hv] at hg
 obtain ⟨x0,σ0,p1,p2⟩:=eR (σ:=⟨0, []⟩) (x:= .nils) (s:= []) (.inl ⟨rfl,rfl⟩) [34] (by decide) (by decide)
 rw [show af [34]= [.int .u8 34] from rfl,show ([34] :Bs).length=1 from rfl] at p1
 have hh:Gl= [48,49,50,51,52,53,54,55,56,57,97,98,99,100,101,102]:=rfl
 have r1 {σ:ag} {a:AV} {c:aA} (h:a.cells= [a]):rowOf σ 1 (.vsl [a] c)=some [a]:=by simp [rowOf,h]
 refine aG (F:=F293) rfl ?_
 simp only [Ea,D9,F293,az,seval,ae,ax,hg,lenOf,rowOf,AV.cells,p1]
 refine aP (S:=Nat×AV) (fun q=> [(0, .str s),(4,q.2),(5, .int .i64 (q.1:Int))]) (fun q=>s.length - q.1)
  (fun q σ=>kO σ q.2 (34 ::(s.take q.1).flatMap gD)/\q.1<=s.length) ?_ (0,x0) _ ⟨p2,Nat.zero_le _⟩
 rintro B ⟨j,x⟩ σ ⟨g1,g2⟩ ih
 simp only at g1 g2 ih
 have hle:=Dl (s.take j)
 rw [bU,Nat.min_eq_left g2] at hle
 by_cases hj:j=s.length
 ·subst hj
  rw [List.take_length] at g1 hle
  have d1:=pE (aD s.length)
  obtain ⟨σ',q1,q2,q3,_⟩:=CT g1 [34] (by decide) (by rw [List.length_cons]; simp only [List.length_cons,List.length_nil]; omega)
  rw [show af [34]= [.int .u8 34] from rfl,show ([34] :Bs).length=1 from rfl] at q1
  have hq:34 ::s.flatMap gD ++ [34]=eo s:=rfl
  rw [hq] at q2
  have hr {c:aA}:=xg (σ:=σ') (b:=σ.next) (n:=(eo s).length) (c:=c) (v:=eo s) (by unfold AQ; rw [q2]) (by simp [eo]) rfl
  have hl:(34 ::s.flatMap gD).length+1=(eo s).length:=by rw [←hq,aq]; rfl
  rw [hl] at q1
  have r34 {σ:ag} {c:aA}:rowOf σ 1 (.vsl [.int .u8 34] c)=some [.int .u8 34]:=rfl
  simp only [Q2Fa,az,seval,ae,d1,lenOf,r34,q1,hr,fQ,kL]
 ·have aR:j < s.length:=by omega
  obtain ⟨b,hb⟩:=cq aR
  have d1:=pD aR
  have ET:et (.str s) (.int .i64 (j:Int))=some (.int .u8 (b.toNat:Int)):=by simp [et,hb]
  have hw:=cL aR aa
  have he:=Hq hb
  have vn:=Tx b
  have nV:=Tw b
  rw [hh] at vn nV
  have hs:bk .shr .u8 (b.toNat:Int) 4=some (.int .u8 ((b.toNat / 16:Nat):Int)):=WW b.toNat 4 (by decide)
  have h15:=Vi b
  have hbl:=(Dk b).2
  obtain ⟨y,σ',q1,q2⟩:=eR g1 (gD b) (Dk b).1 (by rw [List.length_cons]; omega)
  have q3:kO σ' y (34 ::(s.take (j+1)).flatMap gD):=by rw [he]; exact q2
  have fin: ∀fr',keep [0,4,5] fr'= [(0, .str s),(4,y),(5, .int .i64 ((j+1:Nat):Int))]->_:=fun fr' h=>ih (j+1,y) fr' σ' (by show s.length - (j+1) < s.length - j; omega) ⟨q3,aR⟩ h
  rcases PH b with ⟨h,e,el⟩ | ⟨h,e,el⟩ | ⟨h,e,el⟩ | ⟨h,e,el⟩ | ⟨h,e,el⟩ | ⟨h,e,el⟩ | ⟨h,e,el⟩ | ⟨h,e,el⟩ | ⟨h,e,el⟩
  all_goals
   rw [e,el] at q1
   simp only [Q2Fa,az,seval,ae,d1,ET,lenOf,rowOf,AV.cells,h,hs,h15,vn,nV,q1,hw]
   exact fin _ rfl
def Vs:=J @Ec.eq_1 (J @Eb.eq_1 (J @Nn.eq_1 (@F292.eq_1)))
def Q3Fb:=J @Ec.eq_1 (J @Eb.eq_1 (@F292.eq_1))
theorem oW {n:Nat} (h:n < 10):jM n= [UInt8.ofNat (48+n)]:=by rw [jM,dif_pos h]
theorem xH {n:Nat} (h:10<=n):jM n=jM (n / 10) ++ [UInt8.ofNat (48+n % 10)]:=by
 conv=>lhs; rw [jM,dif_neg aa]
def JW (n:Nat):Bs:=if n=0 then [] else jM n
theorem Cb {m:Nat} (h:0 < m) (t:Bs):JW m ++t=JW (m / 10) ++([UInt8.ofNat (48+m % 10)] ++t):=by
 unfold JW
 rw [if_neg aa]
 by_cases h1:m < 10
 ·rw [if_pos aa,oW h1,aO h1,List.nil_append]
 ·rw [if_neg aa,xH aa,bb]
theorem uh: ∀k n:Nat,n < 10 ^ (k+1)->(jM n).length<=k+1
 | 0,n,h=>by rw [oW aa]; simp
 | k+1,n,h=>by
  by_cases h1:n < 10
  ·rw [oW h1]; simp
  ·have:=uh k (n / 10) (by rw [Nat.pow_succ] at h; omega)
   rw [xH aa,aq]; simp only [List.length_cons,List.length_nil]; omega
theorem w_u64 (n:Int) (h: -9223372036854775808<=n) (h2:n < 9223372036854775808):IntKind.wrap .u64 n=if n < 0 then 18446744073709551616+n else n:=by
 simp only [IntKind.wrap,IntKind.bits,IntKind.signed,Bool.false_and,bh,if_false]
 show n % 18446744073709551616=_
 split <;> omega
theorem r_Dec {n:Int} (h1: -9223372036854775808<=n) (h2:n < 9223372036854775808):cR 292 [.int .i64 n]=some (.str (ml n)):=by
 refine aG (F:=F292) rfl ?_
 by_cases h0:n=0
 ·subst h0
  have e:ml 0= [48]:=by unfold ml; rw [if_neg (by decide)]; exact oW (by decide)
  rw [e]
  simp only [Vs,az,seval,ae]
 have e0:(n == 0)=false:=by rw [cE]; exact h0
 have hN:0 < n.natAbs:=by omega
 have hNb:n.natAbs < 18446744073709551616:=by omega
 have hNl:(jM n.natAbs).length<=20:=uh 19 n.natAbs aa
 have hu:=w_u64 n h1 h2
 have stepw: ∀m:Nat,m < 18446744073709551616->IntKind.wrap .u64 ((m % 10:Nat):Int)=((m % 10:Nat):Int)/\IntKind.wrap .u8 ((m % 10:Nat):Int)=((m % 10:Nat):Int)/\IntKind.wrap .u8 (48+((m % 10:Nat):Int))=((UInt8.ofNat (48+m % 10)).toNat:Int)/\IntKind.wrap .u64 ((m / 10:Nat):Int)=((m / 10:Nat):Int):=fun m hm=>by
  refine ⟨fI aa aa,?_,?_,fI aa aa⟩
  ·rw [mI]; omega
  ·rw [show (48+((m % 10:Nat):Int))=((48+m % 10:Nat):Int) by omega,mI,eW]
 have r1 {σ:ag} {c:UInt8} {e:aA}:fQ (rowOf σ 1 (.vsl [.int .u8 (c.toNat:Int)] e))=some (.str [c]):=Q0 σ [c] e
 by_cases pB:n < 0
 ·have d0:decide (n < 0)=true:=decide_eq_true pB
  rw [if_pos pB] at hu
  have hm:IntKind.wrap .u64 (0 - (18446744073709551616+n))=((n.natAbs:Nat):Int):=by
   simp only [IntKind.wrap,IntKind.bits,IntKind.signed,Bool.false_and,bh,if_false]
   show (0 - (18446744073709551616+n)) % 18446744073709551616=_
   omega
  have hd:ml n=45 ::jM n.natAbs:=by unfold ml; rw [if_pos pB]
  rw [hd]
  generalize hX:n.natAbs=N at*
  simp only [Q3Fb,az,seval,ae,ax,e0,d0,hu,hm]
  refine aP (S:=Nat×Bs) (fun p=> [(0, .int .i64 n),(3, .int .u64 (p.1:Int)),(4, .str p.2)]) (fun p=>p.1)
   (fun p _=>JW p.1 ++p.2=jM N/\p.1 < 18446744073709551616) ?_ (N, []) _ ⟨by unfold JW; rw [if_neg aa,bC],by show N < _; omega⟩
  rintro B ⟨m,t⟩ σ ⟨g1,g2⟩ ih
  simp only at g1 g2 ih
  have hL:=congrArg List.length g1
  rw [aq] at hL
  have Y1:1+t.length<=9223372036854775807:=by omega
  have Ic:1+(jM N).length<=9223372036854775807:=by omega
  by_cases Pm:m=0
  ·subst Pm
   have hg:decide (((0:Nat):Int) > 0)=false:=rfl
   have ht:t=jM N:=by rw [←g1]; rfl
   subst ht
   simp only [Vs,az,seval,ae,hg,d0,Ic]
  ·have hg:decide ((m:Int) > 0)=true:=decide_eq_true aa
   obtain ⟨s1,s2,s3,s4⟩:=stepw m g2
   have t1:Int.tmod (m:Int) 10=((m % 10:Nat):Int):=rfl
   have t2:Int.tdiv (m:Int) 10=((m / 10:Nat):Int):=rfl
   simp only [Vs,az,seval,ae,hg,t1,t2,s1,s2,s3,s4,r1,Y1]
   exact ih (m / 10,_) _ _ (by show m / 10 < m; omega) ⟨by rw [←g1]; exact (Cb aa t).symm,by show m / 10 < _; omega⟩ rfl
 ·have d0:decide (n < 0)=false:=decide_eq_false pB
  rw [if_neg pB] at hu
  have hu':IntKind.wrap .u64 n=((n.natAbs:Nat):Int):=by rw [hu]; omega
  have hd:ml n=jM n.natAbs:=by unfold ml; rw [if_neg pB]
  rw [hd]
  clear hu
  generalize n.natAbs=N at*
  simp only [Q3Fb,az,seval,ae,ax,e0,d0,hu']
  refine aP (S:=Nat×Bs) (fun p=> [(0, .int .i64 n),(3, .int .u64 (p.1:Int)),(4, .str p.2)]) (fun p=>p.1)
   (fun p _=>JW p.1 ++p.2=jM N/\p.1 < 18446744073709551616) ?_ (N, []) _ ⟨by unfold JW; rw [if_neg aa,bC],by show N < _; omega⟩
  rintro B ⟨m,t⟩ σ ⟨g1,g2⟩ ih
  simp only at g1 g2 ih
  have hL:=congrArg List.length g1
  rw [aq] at hL
  have Y1:1+t.length<=9223372036854775807:=by omega
  have Ic:1+(jM N).length<=9223372036854775807:=by omega
  by_cases Pm:m=0
  ·subst Pm
   have hg:decide (((0:Nat):Int) > 0)=false:=rfl
   have ht:t=jM N:=by rw [←g1]; rfl
   subst ht
   simp only [Vs,az,seval,ae,hg,d0]
  ·have hg:decide ((m:Int) > 0)=true:=decide_eq_true aa
   obtain ⟨s1,s2,s3,s4⟩:=stepw m g2
   have t1:Int.tmod (m:Int) 10=((m % 10:Nat):Int):=rfl
   have t2:Int.tdiv (m:Int) 10=((m / 10:Nat):Int):=rfl
   simp only [Vs,az,seval,ae,hg,t1,t2,s1,s2,s3,s4,r1,Y1]
   exact ih (m / 10,_) _ _ (by show m / 10 < m; omega) ⟨by rw [←g1]; exact (Cb aa t).symm,by show m / 10 < _; omega⟩ rfl
def Q4Fa:=J @yg.eq_1 (J @yf.eq_1 (J @ye.eq_1 (J @yd.eq_1 (J @Nu.eq_1 (@VO.eq_1)))))
def Kh:=J @yg.eq_1 (J @yf.eq_1 (J @ye.eq_1 (J @yd.eq_1 (@VO.eq_1))))
def Q4Fc:=J @yg.eq_1 (J @yf.eq_1 (J @Nv.eq_1 (J @ye.eq_1 (J @yd.eq_1 (@VO.eq_1)))))
theorem mg: ∀ {l:List V} {x:V},gS l=true->x∈l->x.fine=true
 | v ::r,x,h,hx=>by
  simp only [gS,ak] at h
  rcases List.mem_cons.1 hx with rfl | hx
  ·exact h.1
  ·exact mg h.2 hx
theorem mf: ∀ {l:List Mem} {p:Option Bs} {x:Mem},iN p l=true->x∈l->vu x.1=true/\x.2.fine=true
 | (k,v) ::r,p,x,h,hx=>by
  rw [dX] at h
  simp only [ak] at h
  rcases List.mem_cons.1 hx with rfl | hx
  ·exact ⟨h.1,h.2.2.1⟩
  ·exact mf h.2.2.2 hx
theorem Hz {n:Int} (h:p7 n=true):0 < (ml n).length/\(ml n).length<=21:=by
 simp only [p7,ak,dZ] at h
 have h1:=uh 19 n.natAbs aa
 have h2: ∀m,0 < (jM m).length:=fun m=>by
  by_cases hm:m < 10
  ·rw [oW hm]; simp
  ·rw [xH aa]; simp
 unfold ml
 split
 ·simp only [List.length_cons]; omega
 ·exact ⟨h2 _,by omega⟩
theorem c_rPut: ∀(N:Nat) (v:V),v.sz < N->v.fine=true->v.sz < 100000000000->∀(σ:ag) (x:AV) (s:Bs),kO σ x s->s.length+v.wr.length < 1099511627776->
  ∃y σ',cj cA gU (.fn 232 [] []) [x,v.enc] σ=some (y,σ')/\kO σ' y (s ++v.wr):=by
 intro N
 induction N with
 | zero=>intro v h; omega
 | succ N ih=>
  intro v h hf hb σ x s hx hl
  have fb:=v.sz_eq
  have hll:=oD v.l
  have Jz:=oC v.m
  have r44 {σ:ag} {c:aA}:rowOf σ 1 (.vsl [.int .u8 44] c)=some [.int .u8 44]:=rfl
  have r58 {σ:ag} {c:aA}:rowOf σ 1 (.vsl [.int .u8 58] c)=some [.int .u8 58]:=rfl
  have r91 {σ:ag} {c:aA}:rowOf σ 1 (.vsl [.int .u8 91] c)=some [.int .u8 91]:=rfl
  have r93 {σ:ag} {c:aA}:rowOf σ 1 (.vsl [.int .u8 93] c)=some [.int .u8 93]:=rfl
  have r123 {σ:ag} {c:aA}:rowOf σ 1 (.vsl [.int .u8 123] c)=some [.int .u8 123]:=rfl
  have r125 {σ:ag} {c:aA}:rowOf σ 1 (.vsl [.int .u8 125] c)=some [.int .u8 125]:=rfl
  refine gY (F:=VO) rfl ?_
  rw [V.fine_eq] at hf
  by_cases h0:v.kind=0
  ·have q0:(v.kind == 0)=true:=by simp [h0]
   have hw:v.wr= [110,117,108,108]:=by rw [V.wr_eq,if_pos h0]
   rw [hw] at hl ⊢
   obtain ⟨y,σ',p1,p2⟩:=eR hx [110,117,108,108] (by decide) hl
   have X9:aF σ 1 1 x (af [110,117,108,108]) 4=some (y,σ'):=p1
   simp only [Kh,az,seval,VX,ae,q0,X9]
   exact ⟨_,rfl,p2⟩
  have n0:(v.kind == 0)=false:=by simp [h0]
  rw [if_neg h0] at hf
  by_cases h1:v.kind=1
  ·have q1:(v.kind == 1)=true:=by simp [h1]
   by_cases hn:v.n=1
   ·have hw:v.wr= [116,114,117,101]:=by rw [V.wr_eq,if_neg h0,if_pos h1,if_pos hn]
    rw [hw] at hl ⊢
    obtain ⟨y,σ',p1,p2⟩:=eR hx [116,114,117,101] (by decide) hl
    have X9:aF σ 1 1 x (af [116,114,117,101]) 4=some (y,σ'):=p1
    have e1:(v.n == 1)=true:=by simp [hn]
    simp only [Kh,az,seval,VX,ae,n0,q1,e1,X9]
    exact ⟨_,rfl,p2⟩
   ·have hw:v.wr= [102,97,108,115,101]:=by rw [V.wr_eq,if_neg h0,if_pos h1,if_neg hn]
    rw [hw] at hl ⊢
    obtain ⟨y,σ',p1,p2⟩:=eR hx [102,97,108,115,101] (by decide) hl
    have X9:aF σ 1 1 x (af [102,97,108,115,101]) 5=some (y,σ'):=p1
    have e1:(v.n == 1)=false:=by simp [hn]
    simp only [Kh,az,seval,VX,ae,n0,q1,e1,X9]
    exact ⟨_,rfl,p2⟩
  have n1:(v.kind == 1)=false:=by simp [h1]
  rw [if_neg h1] at hf
  by_cases h2:v.kind=2
  ·have q2:(v.kind == 2)=true:=by simp [h2]
   have hw:v.wr=ml v.n:=by rw [V.wr_eq,if_neg h0,if_neg h1,if_pos h2]
   rw [if_pos h2,ak] at hf
   rw [hw] at hl ⊢
   have hnm:=hf.2
   simp only [p7,ak,dZ] at hnm
   have hd:=r_Dec (n:=v.n) aa aa
   obtain ⟨y,σ',p1,p2⟩:=eR hx (ml v.n) (Hz hf.2).1 hl
   simp only [Kh,az,seval,VX,ae,n0,n1,q2,hd,p1]
   exact ⟨_,rfl,p2⟩
  have n2:(v.kind == 2)=false:=by simp [h2]
  rw [if_neg h2] at hf
  by_cases h3:v.kind=3
  ·have q3:(v.kind == 3)=true:=by simp [h3]
   have hw:v.wr=eo v.s:=by rw [V.wr_eq,if_neg h0,if_neg h1,if_neg h2,if_pos h3]
   rw [if_pos h3,ak] at hf
   rw [hw] at hl ⊢
   have hq:=Fu hf.2 aa
   obtain ⟨y,σ',p1,p2⟩:=eR hx (eo v.s) (by simp [eo]) hl
   simp only [Kh,az,seval,VX,ae,n0,n1,n2,q3,hq,p1]
   exact ⟨_,rfl,p2⟩
  have n3:(v.kind == 3)=false:=by simp [h3]
  rw [if_neg h3] at hf
  by_cases h4:v.kind=4
  ·have q4:(v.kind == 4)=true:=by simp [h4]
   have hw:v.wr=91 ::((vV v.l).tail ++ [93]):=by rw [V.wr_eq,if_neg h0,if_neg h1,if_neg h2,if_neg h3,if_pos h4]
   rw [if_pos h4,ak] at hf
   rw [hw] at hl ⊢
   simp only [List.length_cons,aq,List.length_nil] at hl
   obtain ⟨y0,σ0,p1,p2⟩:=eR hx [91] (by decide) (by simp only [List.length_cons,List.length_nil]; omega)
   rw [show af [91]= [.int .u8 91] from rfl,show ([91] :Bs).length=1 from rfl] at p1
   simp only [Kh,az,seval,VX,ae,ax,n0,n1,n2,n3,q4,lenOf,r91,p1]
   refine aP (S:=Nat×AV) (fun q=> [(0,q.2),(3, .vptr [.int .i64 v.kind, .int .i64 v.n, .str v.s, .vsl (v.l.map V.enc) none, .vsl (v.m.map bp) none] 0),(7, .int .i64 (q.1:Int))]) (fun q=>v.l.length - q.1)
    (fun q σ=>kO σ q.2 (s ++ [91] ++(vV (v.l.take q.1)).tail)/\q.1<=v.l.length) ?_ (0,y0) _ ⟨by rw [List.take_zero,vV,List.tail_nil,bC]; exact p2,Nat.zero_le _⟩
   rintro B ⟨j,y⟩ σ1 ⟨g1,g2⟩ iY
   simp only at g1 g2 iY
   by_cases hj:j=v.l.length
   ·subst hj
    rw [List.take_length] at g1
    have d1:=pE (aD v.l.length)
    obtain ⟨y2,σ2,e1,e2⟩:=eR g1 [93] (by decide) (by simp only [aq,List.length_cons,List.length_nil]; omega)
    rw [show af [93]= [.int .u8 93] from rfl,show ([93] :Bs).length=1 from rfl] at e1
    simp only [Q4Fc,az,seval,VX,ae,aH,d1,lenOf,r93,e1]
    exact ⟨_,rfl,by simpa [bb] using e2⟩
   ·have aR:j < v.l.length:=by omega
    obtain ⟨w,hw⟩:=cq aR
    have d1:=pD aR
    have cl:=cB (f:=V.enc) (sz:=5) (c:=none) hw (by simp [V.enc_cells])
    have xw:=bZ hw
    have hws:=jB xw
    have hT:=EW hw
    have vt:=congrArg List.length hT
    simp only [aq] at vt
    have hP:=K7 v.l (j+1)
    have Mv:=cL aR aa
    by_cases Tr:j=0
    ·have c0:pG j= []:=by rw [Tr]; rfl
     rw [c0] at hT vt
     have dg:decide ((j:Int) > 0)=false:=decide_eq_false aa
     obtain ⟨y2,σ2,e1,e2⟩:=ih w aa (mg hf.2 xw) aa σ1 y _ g1 (by simp only [aq,List.length_cons,List.length_nil]; omega)
     simp only [Q4Fc,az,seval,VX,ae,aH,d1,dg,cl,e1,Mv]
     exact iY (j+1,y2) _ _ (by show v.l.length - (j+1) < v.l.length - j; omega) ⟨by rw [hT]; simpa [bb] using e2,aR⟩ rfl
    ·have c0:pG j= [44]:=by unfold pG; rw [if_neg Tr]
     rw [c0] at hT vt
     simp only [List.length_cons,List.length_nil] at vt
     have dg:decide ((j:Int) > 0)=true:=decide_eq_true aa
     obtain ⟨y1,σ2,k1,k2⟩:=eR g1 [44] (by decide) (by simp only [aq,List.length_cons,List.length_nil]; omega)
     rw [show af [44]= [.int .u8 44] from rfl,show ([44] :Bs).length=1 from rfl] at k1
     obtain ⟨y2,σ3,e1,e2⟩:=ih w aa (mg hf.2 xw) aa σ2 y1 _ k2 (by simp only [aq,List.length_cons,List.length_nil]; omega)
     simp only [Q4Fc,az,seval,VX,ae,aH,d1,dg,lenOf,r44,k1,cl,e1,Mv]
     exact iY (j+1,y2) _ _ (by show v.l.length - (j+1) < v.l.length - j; omega) ⟨by rw [hT]; simpa [bb] using e2,aR⟩ rfl
  have n4:(v.kind == 4)=false:=by simp [h4]
  rw [if_neg h4] at hf
  by_cases h5:v.kind=5
  ·have hw:v.wr=123 ::((vU v.m).tail ++ [125]):=by rw [V.wr_eq,if_neg h0,if_neg h1,if_neg h2,if_neg h3,if_neg h4]
   rw [if_pos h5,ak] at hf
   rw [hw] at hl ⊢
   simp only [List.length_cons,aq,List.length_nil] at hl
   obtain ⟨y0,σ0,p1,p2⟩:=eR hx [123] (by decide) (by simp only [List.length_cons,List.length_nil]; omega)
   rw [show af [123]= [.int .u8 123] from rfl,show ([123] :Bs).length=1 from rfl] at p1
   simp only [Kh,az,seval,VX,ae,ax,n0,n1,n2,n3,n4,lenOf,r123,p1]
   refine aP (S:=Nat×AV) (fun q=> [(0,q.2),(3, .vptr [.int .i64 v.kind, .int .i64 v.n, .str v.s, .vsl (v.l.map V.enc) none, .vsl (v.m.map bp) none] 0),(8, .int .i64 (q.1:Int))]) (fun q=>v.m.length - q.1)
    (fun q σ=>kO σ q.2 (s ++ [123] ++(vU (v.m.take q.1)).tail)/\q.1<=v.m.length) ?_ (0,y0) _ ⟨by rw [List.take_zero,vU,List.tail_nil,bC]; exact p2,Nat.zero_le _⟩
   rintro B ⟨j,y⟩ σ1 ⟨g1,g2⟩ iY
   simp only at g1 g2 iY
   by_cases hj:j=v.m.length
   ·subst hj
    rw [List.take_length] at g1
    have d1:=pE (aD v.m.length)
    obtain ⟨y2,σ2,e1,e2⟩:=eR g1 [125] (by decide) (by simp only [aq,List.length_cons,List.length_nil]; omega)
    rw [show af [125]= [.int .u8 125] from rfl,show ([125] :Bs).length=1 from rfl] at e1
    simp only [Q4Fa,az,seval,VX,ae,aH,d1,lenOf,r125,e1]
    exact ⟨_,rfl,by simpa [bb] using e2⟩
   ·have aR:j < v.m.length:=by omega
    obtain ⟨w,hw⟩:=cq aR
    have d1:=pD aR
    have cl:=cB (f:=bp) (sz:=6) (c:=none) hw (by simp [bq])
    have xw:=bZ hw
    have hws:=gI xw
    obtain ⟨hfk,Wa⟩:=mf hf.2 xw
    have hq:=Fu hfk aa
    have hT:=EV hw
    have vt:=congrArg List.length hT
    simp only [aq,List.length_cons,List.length_nil] at vt
    have hP:=K5 v.m (j+1)
    have Mv:=cL aR aa
    have hq0:0 < (eo w.1).length:=by simp [eo]
    by_cases Tr:j=0
    ·have c0:pG j= []:=by rw [Tr]; rfl
     rw [c0] at hT vt
     have dg:decide ((j:Int) > 0)=false:=decide_eq_false aa
     obtain ⟨ya,σa,a1,a2⟩:=eR g1 (eo w.1) hq0 (by simp only [aq,List.length_cons,List.length_nil]; omega)
     obtain ⟨yb,σb,b1,b2⟩:=eR a2 [58] (by decide) (by simp only [aq,List.length_cons,List.length_nil]; omega)
     rw [show af [58]= [.int .u8 58] from rfl,show ([58] :Bs).length=1 from rfl] at b1
     obtain ⟨y2,σ2,e1,e2⟩:=ih w.2 aa Wa aa σb yb _ b2 (by simp only [aq,List.length_cons,List.length_nil]; omega)
     simp only [Q4Fa,az,seval,VX,ae,aH,d1,dg,cl,hq,lenOf,r58,a1,b1,e1,Mv]
     exact iY (j+1,y2) _ _ (by show v.m.length - (j+1) < v.m.length - j; omega) ⟨by rw [hT]; simpa [bb] using e2,aR⟩ rfl
    ·have c0:pG j= [44]:=by unfold pG; rw [if_neg Tr]
     rw [c0] at hT vt
     simp only [List.length_cons,List.length_nil] at vt
     have dg:decide ((j:Int) > 0)=true:=decide_eq_true aa
     obtain ⟨y1,σ2,k1,k2⟩:=eR g1 [44] (by decide) (by simp only [aq,List.length_cons,List.length_nil]; omega)
     rw [show af [44]= [.int .u8 44] from rfl,show ([44] :Bs).length=1 from rfl] at k1
     obtain ⟨ya,σa,a1,a2⟩:=eR k2 (eo w.1) hq0 (by simp only [aq,List.length_cons,List.length_nil]; omega)
     obtain ⟨yb,σb,b1,b2⟩:=eR a2 [58] (by decide) (by simp only [aq,List.length_cons,List.length_nil]; omega)
     rw [show af [58]= [.int .u8 58] from rfl,show ([58] :Bs).length=1 from rfl] at b1
     obtain ⟨y2,σ3,e1,e2⟩:=ih w.2 aa Wa aa σb yb _ b2 (by simp only [aq,List.length_cons,List.length_nil]; omega)
     simp only [Q4Fa,az,seval,VX,ae,aH,d1,dg,cl,hq,lenOf,r44,k1,r58,a1,b1,e1,Mv]
     exact iY (j+1,y2) _ _ (by show v.m.length - (j+1) < v.m.length - j; omega) ⟨by rw [hT]; simpa [bb] using e2,aR⟩ rfl
  ·rw [if_neg h5] at hf; cases hf
structure fE (α:Type) where
 f:α->AV
 sz:Nat
 pos:0 < sz
 len: ∀a,(f a).cells.length=sz
 closed: ∀a,(f a).closed=true
 er: ∀a,(f a).er=f a
 one: ∀a,(f a).cells.all AV.one=true
 agg: ∀a,if sz=1 then (f a).cells= [f a] else ∃cs,f a= .agg cs
def fE.cells {α:Type} (L:fE α) (l:List α):ai:=l.flatMap fun a=>(L.f a).cells
theorem fE.cells_len {α:Type} (L:fE α) (l:List α):(L.cells l).length=l.length*L.sz:=by
 unfold fE.cells
 induction l with
 | nil=>simp
 | cons a l ih=>simp [L.len a,ih,Nat.add_mul]; omega
theorem fE.cells_closed {α:Type} (L:fE α) (l:List α):ay (L.cells l)=true:=by
 unfold fE.cells
 induction l with
 | nil=>rfl
 | cons a l ih=>
  rw [List.flatMap_cons]
  have h: ∀x y:ai,ay x=true->ay y=true->ay (x ++y)=true:=by
   intro x y
   induction x with
   | nil=>intro _ h; exact h
   | cons c x ihx=>intro h1 h2; simp only [ay,ak,List.cons_append] at h1 ⊢; exact ⟨h1.1,ihx h1.2 h2⟩
  refine h _ _ ?_ ih
  have:=L.closed a
  cases hf:L.f a <;> simp_all [AV.cells,AV.closed,ay]
theorem fE.cells_one {α:Type} (L:fE α) (l:List α):(L.cells l).all AV.one=true:=by
 unfold fE.cells
 induction l with
 | nil=>rfl
 | cons a l ih=>simp only [List.flatMap_cons,List.all_append,L.one a,ih,aW]
theorem j4 {l:ai} (h:l.all AV.one=true):l.all AV.notAgg=true:=by
 rw [bG] at h ⊢
 intro x hx
 have:=h x hx
 cases x <;> simp_all [AV.one,AV.notAgg]
theorem fE.chunks {α:Type} (L:fE α) (l:List α):chunks L.sz l.length (L.cells l)=l.map L.f:=by
 induction l with
 | nil=>rfl
 | cons a l ih=>
  have e:L.cells (a ::l)=(L.f a).cells ++L.cells l:=by simp [fE.cells]
  simp only [List.length_cons,Go.Ab.chunks,e]
  have hd:((L.f a).cells ++L.cells l).drop L.sz=L.cells l:=by
   rw [List.drop_append_of_le_length (by rw [L.len]; exact aD _),cc (by rw [L.len]; exact aD _),List.nil_append]
  rw [hd,ih,List.map_cons]
  congr 1
  have ha:=L.agg a
  by_cases h1:L.sz=1
  ·rw [if_pos h1] at ha ⊢
   rw [ha]; rfl
  ·rw [if_neg h1] at ha ⊢
   obtain ⟨cs,ma⟩:=ha
   have hl:=L.len a
   rw [ma] at hl ⊢
   simp only [AV.cells] at hl ⊢
   rw [List.take_append_of_le_length aa,aJ aa]
def nG {α:Type} (L:fE α) (σ:ag) (ob:aA) (l:List α):Prop:=mz σ L.sz ob l.length (L.cells l)
theorem nG.nil {α:Type} (L:fE α) (σ:ag):nG L σ none []:=⟨rfl,rfl⟩
theorem fE.erMap {α:Type} (L:fE α) (l:List α):eP (l.map L.f)=l.map L.f:=nX fun a _=>L.er a
theorem nG.rb {α:Type} {L:fE α} {σ:ag} {ob:aA} {l:List α} (h:nG L σ ob l): ∃v,rb σ bJ (ik L.sz ob l.length)=some v/\v.er= .vsl (l.map L.f) none:=by
 have:=rb_own h L.pos (L.cells_closed l) (j4 (L.cells_one l))
 refine ⟨_,this,?_⟩
 by_cases h0:l.length=0
 ·rw [if_pos h0,ei h0]; simp only [AV.er]; rfl
 ·rw [if_neg h0,L.chunks]; simp only [AV.er,L.erMap]
theorem nG.rbE {α:Type} {L:fE α} {σ:ag} {ob:aA} {l:List α} (h:nG L σ ob l):rbE σ (ik L.sz ob l.length)=some (.vsl (l.map L.f) none):=by
 obtain ⟨v,h1,h2⟩:=h.rb
 unfold Go.Ab.rbE
 rw [h1,Option.map_some,h2]
theorem nG.lenL {α:Type} {L:fE α} {σ:ag} {ob:aA} {l:List α} (h:nG L σ ob l):lenL (ik L.sz ob l.length)=some (.int .i64 l.length):=vl h
theorem nG.append {α:Type} {L:fE α} {σ:ag} {ob:aA} {l m:List α} {bytes:Nat} (h:nG L σ ob l) (hb:0 < bytes) (hm:(l.length+m.length)*bytes<=aY) (hk:0 < m.length) :
  ∃σ',aF σ L.sz bytes (ik L.sz ob l.length) (L.cells m) m.length=some (ik L.sz (some σ.next) (l ++m).length,σ')/\nG L σ' (some σ.next) (l ++m)/\σ'.next=σ.next+1/\
   ∀b',b' < σ.next->ob≠some b'->σ'.get b'=σ.get b':=by
 obtain ⟨σ',h1,h2,h3,h4⟩:=fY h L.pos hb hm (L.cells_len m) (L.cells_one m) hk
 refine ⟨σ',by rw [h1,aq],?_,h3,h4⟩
 unfold nG
 rw [aq]
 have:L.cells (l ++m)=L.cells l ++L.cells m:=by simp [fE.cells]
 rw [this]
 exact h2
theorem nG.push {α:Type} {L:fE α} {σ:ag} {ob:aA} {l:List α} {a:α} {bytes:Nat} (h:nG L σ ob l) (hb:0 < bytes) (hm:(l.length+1)*bytes<=aY) :
  ∃σ',aF σ L.sz bytes (ik L.sz ob l.length) (L.f a).cells 1=some (ik L.sz (some σ.next) (l ++ [a]).length,σ')/\nG L σ' (some σ.next) (l ++ [a])/\σ'.next=σ.next+1/\
   ∀b',b' < σ.next->ob≠some b'->σ'.get b'=σ.get b':=by
 have:=nG.append (m:= [a]) h hb (by simpa using hm) (by simp)
 simpa [fE.cells] using this
theorem nG.frame {α:Type} {L:fE α} {σ σ':ag} {b:Nat} {l:List α} (h:nG L σ (some b) l) (hg:σ'.get b=σ.get b) (hn:σ.next<=σ'.next):nG L σ' (some b) l:=by
 obtain ⟨h1,h2,h3,h4⟩:=h
 exact ⟨hg.trans h1,h2,by omega,h4⟩
theorem nG.alloc {α:Type} {L:fE α} {σ:ag} {ob:aA} {l:List α} (h:nG L σ ob l) (cs:ai):nG L (σ.alloc cs) ob l:=by
 cases ob with
 | none=>exact h
 | some b=>exact h.frame (gB h.2.2.1) (by simp [eK])
theorem nG.set {α:Type} {L:fE α} {σ:ag} {ob:aA} {l:List α} {b:Nat} {x:jP} (h:nG L σ ob l) (hb:ob≠some b):nG L (σ.set b x) ob l:=by
 cases ob with
 | none=>exact h
 | some b'=>exact h.frame (xy (by rintro rfl; exact hb rfl)) (aD _)
theorem nG.lt {α:Type} {L:fE α} {σ:ag} {b:Nat} {l:List α} (h:nG L σ (some b) l):b < σ.next:=h.2.2.1
def om:fE Bs where
 f:= .str
 sz:=1
 pos:=by decide
 len _:=rfl
 closed _:=rfl
 er _:=by simp only [AV.er]
 one _:=rfl
 agg _:=rfl
def LSlt:fE uN where
 f:=uV
 sz:=2
 pos:=by decide
 len _:=rfl
 closed _:=rfl
 er:=Cz
 one _:=rfl
 agg a:=⟨_,rfl⟩
def LV:fE V where
 f:=V.enc
 sz:=5
 pos:=by decide
 len v:=by rw [V.enc_cells]; rfl
 closed:=V.enc_closed
 er:=V.enc_er
 one v:=by rw [V.enc_cells]; rfl
 agg v:=⟨_,V.enc_eq v⟩
def bm:fE Mem where
 f:=bp
 sz:=6
 pos:=by decide
 len v:=by rw [bq]; rfl
 closed:=wh
 er:=Mh
 one v:=by rw [bq]; rfl
 agg v:=⟨_,rfl⟩
def T10Ff:= @F44.eq_1
def Vq:= @F67.eq_1
abbrev bS:Bs:= [116,104,105,114,100,95,112,97,114,116,121,95,105,110,118,105,116,101]
abbrev bf:Bs:= [115,105,103,110,101,100]
abbrev ep:Bs:= [116,111,107,101,110]
abbrev fT:Bs:= [109,120,105,100]
abbrev S4:Bs:= [106,111,105,110,95,97,117,116,104,111,114,105,115,101,100,95,118,105,97,95,117,115,101,114,115,95,115,101,114,118,101,114]
abbrev eS:Bs:= [109,101,109,98,101,114,115,104,105,112]
theorem V.zero_sz:V.zero.sz=1:=rfl
theorem xf (v:V):(said v).sz<=v.sz:=by
 unfold said
 split
 ·exact aD _
 ·rw [V.zero_sz]; exact v.sz_pos
theorem xz (v:V) (k:Bs):(iZ v k).1.sz<=v.sz:=by
 unfold iZ
 split
 ·rename_i x _ hx
  have:=gI (bZ hx)
  have:=v.sz_eq
  simp only; omega
 ·simp only; rw [V.zero_sz]; exact v.sz_pos
theorem iV (v:V):v.m.length<=v.sz:=by have:=v.sz_eq; have:=oC v.m; omega
theorem zo (v:V):v.l.length<=v.sz:=by have:=v.sz_eq; have:=oD v.l; omega
theorem Re (v:V):v.s.length<=v.sz:=by have:=v.sz_eq; omega
theorem yH (v:V) (k:Bs):(bR v k).1.length<=v.sz:=by
 unfold bR
 split
 ·have:=Re (iZ v k).1; have:=xz v k; simp only; omega
 ·simp
theorem yV (v:V) (k:Bs) (hb:v.sz < fF):cR 46 [v.enc, .str k]=some (.tup [.str (bR v k).1, .bool (bR v k).2]):=RY v k (by have:=iV v; omega)
theorem r_get (v:V) (k:Bs) (hb:v.sz < fF):cR 63 [v.enc, .str k]=some (.tup [(iZ v k).1.enc, .bool (iZ v k).2]):=LY v k (by have:=iV v; omega)
def iR (v:V) (k:Bs):List V:=if (iZ v k).1.kind=4 then (iZ v k).1.l else []
theorem Xr (v:V) (k:Bs) (hb:v.sz < fF):cR 44 [v.enc, .str k]=some (.vsl ((iR v k).map V.enc) none):=by
 refine aG (F:=F44) rfl ?_
 have hg:=r_get v k hb
 unfold iR
 generalize iZ v k=g at hg ⊢
 by_cases h4:g.1.kind=4
 ·have q:(g.1.kind != 4)=false:=by simp [h4]
  simp only [T10Ff,az,seval,VX,ae,hg,q,h4]
 ·have q:(g.1.kind != 4)=true:=by simp [h4]
  simp only [T10Ff,az,seval,VX,ae,hg,q,h4]
def cn (v:V) (k:Bs):V×Bool:=if (iZ v k).2 && (iZ v k).1.kind == 5 then ((iZ v k).1,true) else (V.zero,false)
theorem lC (v:V) (k:Bs):(cn v k).1.sz<=v.sz:=by
 unfold cn
 split
 ·exact xz v k
 ·simp only; rw [V.zero_sz]; exact v.sz_pos
theorem u6 (v:V) (k:Bs) (hb:v.sz < fF):cR 67 [v.enc, .str k]=some (.tup [(cn v k).1.enc, .bool (cn v k).2]):=by
 refine aG (F:=F67) rfl ?_
 have hg:=r_get v k hb
 unfold cn
 generalize iZ v k=g at hg ⊢
 obtain ⟨x,ok⟩:=g
 simp only at hg ⊢
 cases ok
 ·simp only [Vq,az,seval,VX,ae,hg,Bool.false_and,V.zero]
 ·by_cases h5:x.kind=5
  ·have q:(x.kind != 5)=false:=by simp [h5]
   have q2:(x.kind == 5)=true:=by simp [h5]
   simp only [Vq,az,seval,VX,ae,hg,q,q2]
  ·have q:(x.kind != 5)=true:=by simp [h5]
   have q2:(x.kind == 5)=false:=by simp [h5]
   simp only [Vq,az,seval,VX,ae,hg,q,q2,V.zero]
def FX (c:V):Bs:=(bR (said c) eS).1
def authV (c:V):Bs×Bool:=if (partsB (bR (said c) S4).1 64).2.2=true then ((bR (said c) S4).1,true) else ([],false)
def cf (c:V):V×Bool:=((cn (cn (said c) bS).1 bf).1,(cn (cn (said c) bS).1 bf).2 && ((bR (cn (cn (said c) bS).1 bf).1 ep).2 && (bR (cn (cn (said c) bS).1 bf).1 fT).2))
theorem yO (c:V):(cf c).1.sz<=c.sz:=by
 have h1:=xf c
 have h2:=lC (said c) bS
 have h3:=lC (cn (said c) bS).1 bf
 unfold cf
 simp only; omega
theorem Rt (c:V) (hb:c.sz < fF):cR 54 [c.enc]=some (.tup [(cf c).1.enc, .bool (cf c).2]):=by
 have h1:=Ru c hb
 have z1:=xf c
 have h2:=u6 (said c) bS aa
 have z2:=lC (said c) bS
 unfold cf
 generalize (cn (said c) bS)=t1 at h2 z2 ⊢
 have h3:=u6 t1.1 bf aa
 have z3:=lC t1.1 bf
 generalize (cn t1.1 bf)=t2 at h3 z3 ⊢
 have h4:=yV t2.1 ep aa
 have h5:=yV t2.1 fT aa
 generalize bR t2.1 ep=a at h4 ⊢
 generalize bR t2.1 fT=b at h5 ⊢
 obtain ⟨x,ok⟩:=t2
 obtain ⟨a1,a2⟩:=a
 obtain ⟨b1,b2⟩:=b
 simp only at h3 h4 h5 ⊢
 refine aG (F:=F54) rfl ?_
 cases ok <;> cases a2 <;> cases b2 <;> simp only [F54,az,seval,VX,ae,h1,h2,h3,h4,h5,Bool.false_and,bg]
def QU (c:V):Bs×Bs×Bool:=if (cf c).2=true then ((bR (cf c).1 ep).1,(bR (cf c).1 fT).1,true) else ([], [],false)
end Go.Ab
namespace Go.Ab
set_option maxHeartbeats 1000000
def T11Fd:=J @VG.eq_1 (J @Ku.eq_1 (J @VF.eq_1 (@F64.eq_1)))
set_option maxRecDepth 100000
def lim:Nat:=1073741824
theorem fE.rowOf {α:Type} (L:fE α) (σ:ag) (l:List α) (c:aA):rowOf σ L.sz (.vsl (l.map L.f) c)=some (L.cells l):=by
 have h:(l.map L.f).all (fun e=>e.cells.length == L.sz)=true:=by
  rw [bG]
  intro x hx
  obtain ⟨a,_,rfl⟩:=List.mem_map.1 hx
  simp [L.len a]
 have e:(l.map L.f).flatMap AV.cells=L.cells l:=by simp [fE.cells,List.flatMap_map]
 show (if (l.map L.f).all (fun e=>e.cells.length == L.sz)=true then some ((l.map L.f).flatMap AV.cells) else none)=_
 rw [if_pos h,e]
def Gr {α:Type} (L:fE α) (σ:ag) (v:AV) (l:List α):Prop:=
 (v= .nils/\l= [])∨(∃b,v= .sl b 0 l.length L.sz none/\nG L σ (some b) l)∨v= .vsl (l.map L.f) (some l.length)
section
variable {α:Type} {L:fE α} {σ:ag} {v:AV} {l:List α}
theorem Gr.nil (L:fE α) (σ:ag):Gr L σ .nils []:= .inl ⟨rfl,rfl⟩
theorem Gr.nil0 (L:fE α) (σ:ag):Gr L σ (.vsl [] (some 0)) []:= .inr (.inr rfl)
theorem Gr.lit (L:fE α) (σ:ag) (l:List α):Gr L σ (.vsl (l.map L.f) (some l.length)) l:= .inr (.inr rfl)
theorem Gr.own {b:Nat} (h:nG L σ (some b) l):Gr L σ (.sl b 0 l.length L.sz none) l:= .inr (.inl ⟨b,rfl,h⟩)
theorem Gr.lenL (h:Gr L σ v l):lenL v=some (.int .i64 l.length):=by
 rcases h with ⟨rfl,rfl⟩ | ⟨b,rfl,h⟩ | rfl
 ·rfl
 ·rfl
 ·rw [F5,aH]
theorem Gr.rb (h:Gr L σ v l): ∃v',Go.Ab.rb σ bJ v=some v'/\v'.er= .vsl (l.map L.f) none:=by
 rcases h with ⟨rfl,rfl⟩ | ⟨b,rfl,h⟩ | rfl
 ·exact ⟨_,rfl,by simp only [AV.er]; rfl⟩
 ·exact nG.rb (ob:=some b) h
 ·refine ⟨_,ck (by simp only [AV.closed]; exact en fun a _=>L.closed a),?_⟩
  simp only [AV.er,L.erMap]
theorem Gr.rbE (h:Gr L σ v l):Go.Ab.rbE σ v=some (.vsl (l.map L.f) none):=by
 obtain ⟨v',h1,h2⟩:=h.rb
 unfold Go.Ab.rbE
 rw [h1,Option.map_some,h2]
def cZ {α:Type} (L:fE α) (σ:ag) (v:AV) (l m:List α):ag:=match v with
 | .sl b .. =>(σ.set b .dead).alloc (L.cells l ++L.cells m)
 | _=>σ.alloc (L.cells l ++L.cells m)
theorem Gr.app {m:List α} {bytes:Nat} (h:Gr L σ v l) (hb:0 < bytes) (hm:(l.length+m.length)*bytes<=aY) (hk:0 < m.length) :
  aF σ L.sz bytes v (L.cells m) m.length=some (.sl σ.next 0 (l ++m).length L.sz none,cZ L σ v l m):=by
 have c1:=L.cells_len m
 have c2:=L.cells_one m
 have c3:=L.pos
 rcases h with ⟨rfl,rfl⟩ | ⟨b,rfl,h⟩ | rfl
 ·unfold aF
  simp only [lenOf]
  rw [if_pos ⟨c3,hb,by simpa using hm,c1,c2⟩,if_neg aa]
  simp [cZ,fE.cells]
 ·obtain ⟨h1,h2,h3,h4⟩:=h
  unfold aF
  simp only [lenOf]
  rw [if_pos ⟨c3,hb,hm,c1,c2⟩,if_pos trivial]
  have:σ.owned b=some (L.cells l):=by simp [ag.owned,h1]
  rw [this]
  simp only
  rw [if_neg aa,if_pos aa]
  simp [cZ]
 ·unfold aF
  simp only [lenOf,aH]
  rw [if_pos ⟨c3,hb,hm,c1,c2⟩,if_neg aa,if_pos trivial,L.rowOf]
  simp [cZ]
theorem Gr.next {m:List α} (h:Gr L σ v l) (hk:0 < m.length):nG L (cZ L σ v l m) (some σ.next) (l ++m):=by
 have e:L.cells (l ++m)=L.cells l ++L.cells m:=by simp [fE.cells]
 have hl:=L.cells_len (l ++m)
 have hlen:0 < (l ++m).length:=by simp; omega
 rcases h with ⟨rfl,rfl⟩ | ⟨b,rfl,h⟩ | rfl
 ·exact ⟨by simp only [cZ]; rw [←e]; exact dW,hl,by simp [cZ,eK],hlen⟩
 ·exact ⟨by simp only [cZ]; rw [←e]; exact dW (σ:=σ.set b .dead),hl,by simp [cZ,eK,p8],hlen⟩
 ·exact ⟨by simp only [cZ]; rw [←e]; exact dW,hl,by simp [cZ,eK],hlen⟩
theorem Gr.push {a:α} {bytes:Nat} (h:Gr L σ v l) (hb:0 < bytes) (hm:(l.length+1)*bytes<=aY) :
  aF σ L.sz bytes v (L.f a).cells 1=some (.sl σ.next 0 (l ++ [a]).length L.sz none,cZ L σ v l [a]):=by
 have:=Gr.app (m:= [a]) h hb (by simpa using hm) (by simp)
 simpa [fE.cells] using this
theorem gG (L:fE α) (σ:ag) (v:AV) (l m:List α):(cZ L σ v l m).next=σ.next+1:=by
 unfold cZ; split <;> rfl
theorem Gr.frame {σ':ag} (h:Gr L σ v l) (hg: ∀b,b < σ.next->σ'.get b=σ.get b) (hn:σ.next<=σ'.next):Gr L σ' v l:=by
 rcases h with h | ⟨b,rfl,h⟩ | h
 ·exact .inl h
 ·exact .inr (.inl ⟨b,rfl,h.frame (hg b h.lt) hn⟩)
 ·exact .inr (.inr h)
theorem Gr.alloc (h:Gr L σ v l) (cs:ai):Gr L (σ.alloc cs) v l:=h.frame (fun _ hb=>gB hb) (by simp [eK])
theorem Gr.newset (h:Gr L σ v l) (cs cs':ai):Gr L { next:=σ.next+1,m:=(σ.next, .own cs) ::(σ.next, .own cs') ::σ.m } v l:=
 h.frame (fun b hb=>by
  show look ((σ.next,jP.own cs) ::(σ.next, .own cs') ::σ.m) b=look σ.m b
  simp only [look]; rw [if_neg aa,if_neg aa]) (by simp)
theorem iu {m:List α} (h:Gr L σ v l) {b:Nat} (hb:b < σ.next) (fV: ∀len sz c,v≠ .sl b 0 len sz c):(cZ L σ v l m).get b=σ.get b:=by
 unfold cZ
 split
 ·rename_i b' off len sz c
  have Tm:off=0:=by
   rcases h with ⟨h,_⟩ | ⟨b2,h,_⟩ | h
   ·simp at h
   ·simp at h; exact h.2.1
   ·simp at h
  subst Tm
  rw [gB (by rw [p8]; exact hb),xy (by rintro rfl; exact fV len sz c rfl)]
 ·exact gB hb
end
theorem RQ (l:List Bs) (x:Bs) (hlen:l.length < fF):cR 64 [.vsl (l.map .str) none, .str x]=some (.int .i64 (bQ (fun s=>x == s) l 0)):=by
 unfold fF at hlen
 refine aG (F:=F64) rfl ?_
 simp only [VG,Ku,F64,ax,az,seval,VX]
 refine gT (S:=Nat) (fun j=> [(0, .vsl (l.map .str) none),(1, .str x),(7, .int .i64 l.length),(8, .int .i64 (j:Int))]) (fun _=> .empty) (fun j=>l.length - j) (fun j=>bQ (fun s=>x == s) l j=bQ (fun s=>x == s) l 0) ?_ 0 rfl
 intro b j hj ih
 by_cases aR:j < l.length
 ·obtain ⟨y,hy⟩:=cq aR
  have cl:=cB (f:=AV.str) (sz:=1) (c:=none) hy rfl
  have aK:=pD aR
  simp only [T11Fd,az,seval,VX,ae,aK,cl]
  split
  ·rename_i hp
   rw [←hj,ja hy hp]
  ·rename_i hp
   refine ih (j+1) _ _ aa ?_ ?_ rfl
   ·rw [←ix hy (by simpa using hp)]; exact hj
   ·rw [cL aR aa]
    simp only [az,seval]
 ·have aK:=pE (Nat.not_lt.1 aR)
  simp only [T11Fd,az,seval,VX,aK]
  rw [←hj,jb aa]
def pC (l:List Bs) (x:Bs):Bool:=l.any fun s=>x == s
theorem FB (l:List Bs) (x:Bs) (hlen:l.length < fF):cR 45 [.vsl (l.map .str) none, .str x]=some (.bool (pC l x)):=by
 refine aG (F:=F45) rfl ?_
 simp only [F45,az,seval,VX,RQ l x hlen,lu,pC]
theorem Pe (v:V) (k:Bs): ∀x∈iR v k,x.sz<=v.sz:=by
 intro x hx
 unfold iR at hx
 split at hx
 ·have:=jB hx; have:=(iZ v k).1.sz_eq; have:=xz v k; omega
 ·simp at hx
end Go.Ab
namespace Go.Ab
set_option maxHeartbeats 1000000
set_option maxRecDepth 100000
def Grown (σ σ':ag):Prop:=σ.next<=σ'.next/\∀b,b < σ.next->σ'.get b=σ.get b
theorem Grown.refl (σ:ag):Grown σ σ:=⟨aD _,fun _ _=>rfl⟩
theorem Grown.alloc (σ:ag) (cs:ai):Grown σ (σ.alloc cs):=⟨by simp [eK],fun _ hb=>gB hb⟩
def Fresh (σ:ag) (v:AV):Prop:=∀b o len sz c,v= .sl b o len sz c->σ.next<=b
theorem DD {f:Nat} {σ:ag} (n:Nat) (h1:dd cA (run cA gU n) (.fn f [] []) [.nils] .empty=some (.nils, .empty)) (h2:dd cA (run cA gU n) (.fn f [] []) [.e0] .empty=some (.vsl [] (some 0), .empty)) :
  both cA gU (.fn f [] []) σ=true:=by
 refine vF.2 ⟨n,?_⟩
 have e1:gO cA (run cA gU n) false true (.fn f [] []) [.nils] σ=some (.nils,σ):=by
  unfold gO
  rw [ck rfl,cP rfl]
  simp only [AV.er,eP,bh,if_false,h1]
  rfl
 have e2:gO cA (run cA gU n) false true (.fn f [] []) [.e0] σ=some (.vsl [] (some 0),σ):=by
  unfold gO
  rw [ck rfl,cP rfl]
  simp only [AV.er,eP,bh,if_false,h2]
  rfl
 unfold fU
 rw [e1,e2]
 rfl
theorem Vf {σ:ag} {sz bytes n:Nat} {new:ai} (hs:0 < sz) (hb:0 < bytes) (hm:n*bytes<=aY) (hl:new.length=n*sz) (ho:new.all AV.one=true) (hn:0 < n) :
  aF σ sz bytes (.vsl [] (some 0)) new n=some (.sl σ.next 0 n sz none,σ.alloc new):=by
 unfold aF
 simp only [lenOf,List.length_nil,Nat.zero_add]
 rw [if_pos ⟨hs,hb,hm,hl,ho⟩,if_neg aa,if_pos trivial]
 rfl
theorem vk (l:ai) (c:aA):lenOf (.vsl l c)=some l.length:=rfl
section
variable {α:Type} {L:fE α}
theorem Gr.cloned (σ:ag) {l:List α} (h:0 < l.length):Gr L (σ.alloc (L.cells l)) (.sl σ.next 0 l.length L.sz none) l:=
 Gr.own ⟨dW,L.cells_len l,by simp [eK],h⟩
end
theorem Gr.rbD {α:Type} {L:fE α} {σ:ag} {v:AV} {l:List α} (h:Gr L σ v l) (d:Nat): ∃v',Go.Ab.rb σ (d+1) v=some v'/\v'.er= .vsl (l.map L.f) none:=by
 rcases h with ⟨rfl,rfl⟩ | ⟨b,rfl,h⟩ | rfl
 ·exact ⟨_,rfl,by simp only [AV.er]; rfl⟩
 ·obtain ⟨h1,h2,h3,h4⟩:=h
  refine ⟨_,LF (by simp [ag.cells,h1]) h2 L.pos (L.cells_closed l) (j4 (L.cells_one l)),?_⟩
  rw [L.chunks]; simp only [AV.er,L.erMap]
 ·refine ⟨_,ck (by simp only [AV.closed]; exact en fun a _=>L.closed a),?_⟩
  simp only [AV.er,L.erMap]
theorem Gr.plain {α:Type} {L:fE α} {σ:ag} {v:AV} {l:List α} (h:Gr L σ v l):v.known=true/\v.one=true/\v.cells= [v]/\v.notAgg=true:=by
 rcases h with ⟨rfl,_⟩ | ⟨b,rfl,_⟩ | rfl <;> exact ⟨rfl,rfl,rfl,rfl⟩
def jS (σ:ag) (d:Nat) (cs cs':ai):Prop:=∃m,cS (rb σ d) cs=some m/\eP m=cs'
theorem jS.nil (σ:ag) (d:Nat):jS σ d [] []:=⟨[],rfl,by simp only [eP]⟩
theorem jS.clo {σ:ag} {d:Nat} {x:AV} {cs cs':ai} (hx:x.closed=true) (h:jS σ d cs cs'):jS σ d (x ::cs) (x.er ::cs'):=by
 obtain ⟨m,h1,h2⟩:=h
 exact ⟨x ::m,by simp only [cS,ck hx,h1],by simp only [eP,h2]⟩
theorem jS.gr {α:Type} {L:fE α} {σ:ag} {d:Nat} {v:AV} {l:List α} {cs cs':ai} (hv:Gr L σ v l) (h:jS σ (d+1) cs cs'):jS σ (d+1) (v ::cs) (.vsl (l.map L.f) none ::cs'):=by
 obtain ⟨m,h1,h2⟩:=h
 obtain ⟨v',h3,h4⟩:=hv.rbD d
 exact ⟨v' ::m,by simp only [cS,h3,h1],by simp only [eP,h2,h4]⟩
theorem jS.agg {σ:ag} {cs cs':ai} (h:jS σ 23 cs cs'):rbE σ (.agg cs)=some (.agg cs'):=by
 obtain ⟨m,h1,h2⟩:=h
 unfold rbE
 by_cases hc:(AV.agg cs).closed=true
 ·have:m=cs:=by
   have hm:=cP (σ:=σ) (d:=23) (show ay cs=true by simpa [AV.closed] using hc)
   rw [h1] at hm
   exact bT hm
  subst this
  rw [ck hc,Option.map_some,AV.er,h2]
 ·have e:rb σ bJ (.agg cs)=some (.agg m):=by
   show rb σ (23+1) (.agg cs)=_
   rw [rb,if_neg hc,h1]
  rw [e,Option.map_some,AV.er,h2]
theorem zk {σ:ag} {b:Nat} {x:jP} (h:σ.get b=some x):look σ.m b=some x:=h
theorem UY (l:List V) (c:aA) (σ:ag) (hb:l.length < lim): ∃v σ',jc cA gU .split (.fn 41 [] []) [.vsl (l.map V.enc) c] σ=some (v,σ')/\Gr LV σ' v l/\Grown σ σ'/\Fresh σ v:=by
 unfold lim at hb
 cases l with
 | nil=>
  refine ⟨.vsl [] (some 0),σ,?_,Gr.nil0 _ _,Grown.refl _,fun b o len sz c h=>by simp at h⟩
  have ua:both cA gU (.fn 41 [] []) σ=true:=DD 100 (by kernel_rfl) (by kernel_rfl)
  simp only [jc,List.map_nil,c9,if_true,ua]
 | cons x l=>
  have ll: ∀σ',rowOf σ' 5 (.vsl ((x ::l).map V.enc) c)=some (LV.cells (x ::l)):=fun σ'=>LV.rowOf σ' (x ::l) c
  have ha:aF σ 5 80 (.vsl [] (some 0)) (LV.cells (x ::l)) (l.length+1)=some (.sl σ.next 0 (l.length+1) 5 none,σ.alloc (LV.cells (x ::l))):=
   Vf aa aa (by unfold aY; simp at hb; omega) (LV.cells_len (x ::l)) (LV.cells_one _) aa
  refine ⟨_,σ.alloc (LV.cells (x ::l)),?_,Gr.cloned (L:=LV) σ (l:=x ::l) (by simp),Grown.alloc _ _,fun b o len sz c h=>by simp at h; omega⟩
  have hn:c9 [.vsl ((x ::l).map V.enc) c]=false:=rfl
  simp only [jc,hn,bh,if_false]
  refine cU (F:=F41) rfl (first:= []) (caps:= []) ?_
  simp only [List.map_cons] at ll
  simp only [F41,az,seval,VX,vk,ll,ha]
  simp [ag.alloc,LV]
theorem r_List (l:List V) (hb:l.length < lim):cR 21 [.vsl (l.map V.enc) none]=some (V.mk 4 0 [] l []).enc:=by
 refine aG (F:=F21) rfl ?_
 simp only [F21,az,seval,VX]
 obtain ⟨v,σ',h1,hg,hgr,hfr⟩:=UY l none ⟨1, [(0, .own [.int .i64 0, .int .i64 0, .str [], .nils, .nils])]⟩ hb
 obtain ⟨p1,p2,p3,p4⟩:=hg.plain
 have nA:=zk (hgr.2 0 (by simp))
 have Pq:Gr LV { next:=σ'.next,m:=(0, .own [.int .i64 4, .int .i64 0, .str [],v, .nils]) ::σ'.m } v l:=by
  rcases hg with h | ⟨b,rfl,h⟩ | h
  ·exact .inl h
  ·have Dc:=hfr b _ _ _ _ rfl
   exact Gr.own (h.frame (by show look ((0,_) ::σ'.m) b=_; simp only [look]; rw [if_neg (by simp at Dc; omega)]; rfl) (aD _))
  ·exact .inr (.inr h)
 have Tk:=jS.agg (jS.clo (x:= .int .i64 4) rfl (jS.clo (x:= .int .i64 0) rfl (jS.clo (x:= .str []) rfl (jS.gr Pq (jS.clo (x:= .nils) rfl (jS.nil _ 23))))))
 simp only [az,seval,VX,h1,p1,p2,p3,p4,nA,ae,Tk]
 exact V.fold2 4 0 [] l
end Go.Ab
namespace Go.Ab
set_option maxRecDepth 100000
def sEq (x y:uN):Bool:=x.type == y.type && x.key == y.key
theorem uN.eta (x:uN):(⟨x.type,x.key⟩ :uN)=x:=rfl
def hasT (l:List uN) (x:uN):Bool:=l.any (sEq x)
def Ev.slot (e:Ev):uN:=⟨e.type,e.key⟩
def Ev.zero:Ev:=⟨V.mk 0 0 [] [] [], [], [], [], [], [],false,0,0, [], [],V.mk 0 0 [] [] []⟩
def addT (l:List uN) (s:uN):List uN:=if hasT l s then l else l ++ [s]
def NSt (σ:ag) (b:Nat) (l:List uN):Prop:=∃v,look σ.m b=some (.own [v])/\Gr LSlt σ v l/\b < σ.next/\(∀len sz c,v≠ .sl b 0 len sz c)
abbrev Mp:Bs:= [109,46,114,111,111,109,46,99,114,101,97,116,101]
abbrev kPower:Bs:= [109,46,114,111,111,109,46,112,111,119,101,114,95,108,101,118,101,108,115]
abbrev xq:Bs:= [109,46,114,111,111,109,46,109,101,109,98,101,114]
abbrev kJoins:Bs:= [109,46,114,111,111,109,46,106,111,105,110,95,114,117,108,101,115]
abbrev Pd:Bs:= [109,46,114,111,111,109,46,116,104,105,114,100,95,112,97,114,116,121,95,105,110,118,105,116,101]
abbrev kJoin:Bs:= [106,111,105,110]
abbrev iG:Bs:= [105,110,118,105,116,101]
abbrev kKnock:Bs:= [107,110,111,99,107]
def Vk (c:Bool) (l:List uN) (s:uN):List uN:=if c then addT l s else l
def base3 (e:Ev):List uN:= [⟨Mp, []⟩,⟨kPower, []⟩,⟨xq,e.sender⟩]
def needs (e:Ev):List uN:=
 if e.type == Mp then [] else if !(e.type == xq) then base3 e else
 let l1:=addT (base3 e) ⟨xq,e.key⟩
 let to:=FX e.content
 let l2:=Vk (to == kJoin || (to == iG || to == kKnock)) l1 ⟨kJoins, []⟩
 let l3:=Vk ((QU e.content).2.2 && to == iG) l2 ⟨Pd,(QU e.content).1⟩
 Vk ((authV e.content).2 && to == kJoin) l3 ⟨xq,(authV e.content).1⟩
theorem NSt.rbE {σ:ag} {b:Nat} {l:List uN} (h:NSt σ b l): ∃v,look σ.m b=some (.own [v])/\rbE σ v=some (.vsl (l.map uV) none):=by
 obtain ⟨v,h1,h2,_⟩:=h
 exact ⟨v,h1,h2.rbE⟩
def fr4 (e:Ev) (m:Bs):Fr:= [(1, .vptr (PF e).cells 0),(3, .ptr 0 0),(4, .fn 27 [] [.ptr 0 0]),(5, .str m)]
theorem wH (id:Nat) (first args caps:ai):dx cA gU (.fn id first caps) args=dx cA gU (.fn id [] []) (first ++args ++caps):=by
 have e: ∀n,dd cA (run cA gU n) (.fn id first caps) args .empty=dd cA (run cA gU n) (.fn id [] []) (first ++args ++caps) .empty:=fun n=>by
  simp only [dd,List.nil_append,bC]
 have h:cj cA gU (.fn id first caps) args .empty=cj cA gU (.fn id [] []) (first ++args ++caps) .empty:=by
  apply Option.ext
  intro x
  constructor
  ·intro hx
   obtain ⟨n,hn⟩:=dY.1 hx
   exact dY.2 ⟨n,by rw [←e]; exact hn⟩
  ·intro hx
   obtain ⟨n,hn⟩:=dY.1 hx
   exact dY.2 ⟨n,by rw [e]; exact hn⟩
 unfold dx
 rw [h]
def fitsF (ns:List uN):List uN->List Ev->Bool
 | _, []=>true
 | had,x ::r=>if x.isState && (!hasT had x.slot && hasT ns x.slot) then fitsF ns (had ++ [x.slot]) r else false
def fits (e:Ev) (auth:List Ev):Bool:=fitsF (needs e) [] auth
abbrev W (n:Int):Int:=IntKind.wrap .i64 n
mutual
def wt:V->Int->Int->Int
 | .mk _ _ s l m,d,t=>if decide (d > 70)=true then W (t+1) else wtM m d t (wtL l d t (W (1+(s.length:Int))))
def wtL:List V->Int->Int->Int->Int
 | [],_,_,a=>a
 | v ::r,d,t,a=>if decide (a<=t)=true then wtL r d t (W (a+wt v (W (d+1)) t)) else a
def wtM:List (Bs×V)->Int->Int->Int->Int
 | [],_,_,a=>a
 | (k,v) ::r,d,t,a=>if decide (a<=t)=true then wtM r d t (W (a+W ((k.length:Int)+wt v (W (d+1)) t))) else a
end
end Go.Ab
