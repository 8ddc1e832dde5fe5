/- What functions of the program, and of the library, answer. Conditions: none. -/
import Derived.Test.YtgfeimceppggcaaGreatDoorLaw11
import Derived.Test.YtgfeimceppggcaaGreatDoorLaw9
import Derived.Test.YtgfeimceppggcaaGreatDoorLaw10
set_option linter.unusedVariables false
set_option linter.unusedSimpArgs false
set_option linter.defProp false
set_option linter.unnecessarySimpa false
namespace Go.Ab
set_option maxRecDepth 100000
set_option maxHeartbeats 1000000
theorem Ym:((List.range 64).all fun j=>iU (s7 j) == j)=true:=by kernel_rfl
theorem Yl {j:Nat} (h:j < 64):iU (s7 j)=j:=eq_of_beq (bG.1 Ym j (List.mem_range.2 h))
theorem Mj: ∀ {l:List Nat},(∀x∈l,x < 64)->(l.map s7).map iU=l
 | [],_=>rfl
 | x ::l,h=>by
  rw [List.map_cons,List.map_cons,Yl (h x (by simp)),Mj fun y hy=>h y (by simp [hy])]
theorem gx_sx: ∀s:aw,gx 0 0 (sx 0 0 s)=some s/\(∀e c,e < 64->c < 4->gx 6 e (sx 2 c s)=some (UInt8.ofNat (e*4+c) ::s))/\(∀e c,e < 16->c < 16->gx 4 e (sx 4 c s)=some (UInt8.ofNat (e*16+c) ::s))
 | []=>by
  refine ⟨rfl,fun e c he hc=> ?_,fun e c he hc=> ?_⟩
  ·rw [sx,if_neg (by decide),gx,if_pos (by simp only [Nat.reducePow,Nat.reduceSub]; omega),if_pos (by decide)]
   rw [show (e*64+c*2 ^ (6 - 2) % 64) % 2 ^ (6 - 2)=0 by simp only [Nat.reducePow,Nat.reduceSub]; omega,gx,if_pos ⟨by decide,rfl⟩]
   simp only [Option.map_some,Nat.reducePow,Nat.reduceSub]
   rw [show (e*64+c*16 % 64) / 16=e*4+c by omega]
  ·rw [sx,if_neg (by decide),gx,if_pos (by simp only [Nat.reducePow,Nat.reduceSub]; omega),if_pos (by decide)]
   rw [show (e*64+c*2 ^ (6 - 4) % 64) % 2 ^ (4 - 2)=0 by simp only [Nat.reducePow,Nat.reduceSub]; omega,gx,if_pos ⟨by decide,rfl⟩]
   simp only [Option.map_some,Nat.reducePow,Nat.reduceSub]
   rw [show (e*64+c*4 % 64) / 4=e*16+c by omega]
 | b ::s=>by
  have hb:=b.toNat_lt
  obtain ⟨h0,h2,h4⟩:=gx_sx s
  refine ⟨?_,fun e c he hc=> ?_,fun e c he hc=> ?_⟩
  ·rw [sx,if_neg (by decide),if_neg (by decide),gx,if_pos aa,if_neg (by decide),h2 _ _ aa aa]
   rw [show (0*64+(0*256+b.toNat) / 4 % 64)*4+(0*256+b.toNat) % 4=b.toNat by omega,UInt8.ofNat_toNat]
  ·rw [sx,if_neg (by decide),if_pos rfl,gx,if_pos aa,if_pos (by decide)]
   simp only [Nat.reducePow,Nat.reduceSub]
   rw [h4 _ _ aa aa,Option.map_some]
   rw [show (e*64+(c*256+b.toNat) / 16 % 64) / 16=e*4+c by omega,show (e*64+(c*256+b.toNat) / 16 % 64) % 16*16+(c*256+b.toNat) % 16=b.toNat by omega,UInt8.ofNat_toNat]
  ·rw [sx,if_pos rfl,gx,if_pos aa,if_pos (by decide)]
   simp only [Nat.reducePow,Nat.reduceSub]
   rw [gx,if_pos aa,if_pos (by decide)]
   simp only [Nat.reducePow,Nat.reduceSub]
   rw [show ((e*64+(c*256+b.toNat) / 64 % 64) % 4*64+(c*256+b.toNat) % 64) % 1=0 by omega,h0,Option.map_some,Option.map_some]
   rw [show (e*64+(c*256+b.toNat) / 64 % 64) / 4=e*16+c by omega,show ((e*64+(c*256+b.toNat) / 64 % 64) % 4*64+(c*256+b.toNat) % 64) / 1=b.toNat by omega,UInt8.ofNat_toNat]
theorem GB (s:aw):gC (kB s)=some s:=by
 rw [gC,kB,Mj (E3 s 0 0),(gx_sx s).1]
abbrev B3:Type:=aw×Nat×Nat
def jN (s:B3) (b:Nat):B3:=if s.2.1=7 then (s.1 ++ [UInt8.ofNat (2*s.2.2+b)],0,0) else (s.1,s.2.1+1,2*s.2.2+b)
def gV (s:B3) (v:Nat):Nat->B3
 | 0=>s
 | i+1=>jN (gV s v i) (mX v i)
theorem bit_lt (v i:Nat):mX v i < 2:=aZ _ (by decide)
theorem Va {d:aw} {n c v:Nat} (hn:n=0∨n=2∨n=4∨n=6) (hc:c < 2 ^ n) (hv:v < 64) :
  gV (d,n,c) v 6=if 2<=n then (d ++ [UInt8.ofNat ((c*64+v) / 2 ^ (n - 2))],n - 2,(c*64+v) % 2 ^ (n - 2)) else (d,n+6,c*64+v):=by
 rcases hn with rfl | rfl | rfl | rfl
 ·simp only [gV,jN,mX,Nat.reduceEqDiff,Nat.reduceAdd,Nat.reduceSub,Nat.reducePow,Nat.reduceLeDiff,if_false]
  congr 2; omega
 ·simp only [gV,jN,mX,Nat.reduceEqDiff,Nat.reduceAdd,Nat.reduceSub,Nat.reducePow,Nat.reduceLeDiff,if_false,if_true]
  rw [show 2*(2*(2*(2*(2*(2*c+v / 32 % 2)+v / 16 % 2)+v / 8 % 2)+v / 4 % 2)+v / 2 % 2)+v / 1 % 2=(c*64+v) / 1 by omega,show (c*64+v) % 1=0 by omega]
 ·simp only [gV,jN,mX,Nat.reduceEqDiff,Nat.reduceAdd,Nat.reduceSub,Nat.reducePow,Nat.reduceLeDiff,if_false,if_true]
  rw [show 2*(2*(2*(2*c+v / 32 % 2)+v / 16 % 2)+v / 8 % 2)+v / 4 % 2=(c*64+v) / 4 by omega,show 2*(2*0+v / 2 % 2)+v / 1 % 2=(c*64+v) % 4 by omega]
 ·simp only [gV,jN,mX,Nat.reduceEqDiff,Nat.reduceAdd,Nat.reduceSub,Nat.reducePow,Nat.reduceLeDiff,if_false,if_true]
  rw [show 2*(2*c+v / 32 % 2)+v / 16 % 2=(c*64+v) / 16 by omega,show 2*(2*(2*(2*0+v / 8 % 2)+v / 4 % 2)+v / 2 % 2)+v / 1 % 2=(c*64+v) % 16 by omega]
def cJ (N:Nat) (s:B3):aw:=if s.1.length < N then s.1 ++UInt8.ofNat (s.2.2*2 ^ (8 - s.2.1)) ::List.replicate (N - s.1.length - 1) 0 else s.1
def Yk (N p:Nat) (s:B3):Prop:=p=8*s.1.length+s.2.1/\s.2.1 < 8/\s.2.2 < 2 ^ s.2.1/\s.1.length<=N/\(s.1.length=N->s.2.2=0)
theorem HI {N p:Nat} {s:B3} (h:Yk N p s):(cJ N s).length=N:=by
 obtain ⟨_,_,_,h4,_⟩:=h
 unfold cJ
 split
 ·simp only [aq,List.length_cons,iB]; omega
 ·omega
theorem DB (N:Nat):cJ N ([],0,0)=List.replicate N 0:=by
 unfold cJ
 cases N with
 | zero=>rfl
 | succ N=>simp [List.replicate_succ]
theorem bit0 {N p:Nat} {s:B3} (h:Yk N p s) (hN:p < 8*N+7):Yk N (p+1) (jN s 0)/\cJ N (jN s 0)=cJ N s:=by
 obtain ⟨d,n,c⟩:=s
 obtain ⟨h1,h2,h3,h4,h5⟩:=h
 simp only at h1 h2 h3 h4 h5
 by_cases h7:n=7
 ·subst h7
  have aR:d.length < N:=by omega
  have e:jN (d,7,c) 0=(d ++ [UInt8.ofNat (2*c+0)],0,0):=rfl
  rw [e]
  refine ⟨⟨?_,by show 0 < 8; decide,by show 0 < 2 ^ 0; decide,?_,fun _=>rfl⟩,?_⟩
  ·show p+1=8*(d ++ [_]).length+0; simp only [aq,List.length_cons,List.length_nil]; omega
  ·show (d ++ [_]).length<=N; simp only [aq,List.length_cons,List.length_nil]; omega
  ·unfold cJ
   simp only [aq,List.length_cons,List.length_nil]
   rw [if_pos aR]
   by_cases Ic:d.length+(0+1) < N
   ·rw [if_pos Ic,show N - d.length - 1=N - (d.length+(0+1)) - 1+1 by omega,List.replicate_succ]
    simp [Nat.mul_comm]
   ·rw [if_neg Ic,show N - d.length - 1=0 by omega]
    simp [Nat.mul_comm]
 ·have e:jN (d,n,c) 0=(d,n+1,2*c+0):=by unfold jN; rw [if_neg h7]
  rw [e]
  refine ⟨⟨by show p+1=8*d.length+(n+1); omega,by show n+1 < 8; omega,by show 2*c+0 < 2 ^ (n+1); rw [Nat.pow_succ]; omega,h4,fun k=>by have:=h5 k; show 2*c+0=0; omega⟩,?_⟩
  unfold cJ
  simp only
  split
  ·have:(2*c+0)*2 ^ (8 - (n+1))=c*2 ^ (8 - n):=by
    rw [show 8 - n=8 - (n+1)+1 by omega,Nat.pow_succ,Nat.add_zero,Nat.mul_comm 2 c,Nat.mul_assoc,Nat.mul_comm 2]
   rw [this]
  ·rfl
theorem bit1 {N p:Nat} {s:B3} (h:Yk N p s) (hN:s.1.length < N):Yk N (p+1) (jN s 1)/\(cJ N s).take s.1.length ++ [UInt8.ofNat ((2*s.2.2+1)*2 ^ (7 - s.2.1))] ++(cJ N s).drop (s.1.length+1)=cJ N (jN s 1)/\
  (cJ N s)[s.1.length]? =some (UInt8.ofNat (s.2.2*2 ^ (8 - s.2.1))):=by
 obtain ⟨d,n,c⟩:=s
 obtain ⟨h1,h2,h3,h4,h5⟩:=h
 simp only at h1 h2 h3 h4 h5 hN ⊢
 have hb:cJ N (d,n,c)=d ++UInt8.ofNat (c*2 ^ (8 - n)) ::List.replicate (N - d.length - 1) 0:=by unfold cJ; rw [if_pos hN]
 have iS:(cJ N (d,n,c))[d.length]? =some (UInt8.ofNat (c*2 ^ (8 - n))):=by rw [hb,eI (aD _),Nat.sub_self]; rfl
 have hp: ∀y,(cJ N (d,n,c)).take d.length ++ [y] ++(cJ N (d,n,c)).drop (d.length+1)=d ++y ::List.replicate (N - d.length - 1) 0:=fun y=>by
  have hdr: ∀(a:UInt8) (r:aw),(d ++a ::r).drop (d.length+1)=r:=fun a r=>by
   rw [List.append_cons d a r]; exact List.drop_left' (by rw [aq]; rfl)
  rw [hb,List.take_left' rfl,hdr,bb]; rfl
 rw [hp]
 refine ⟨?_,?_,iS⟩
 ·by_cases h7:n=7
  ·subst h7
   have e:jN (d,7,c) 1=(d ++ [UInt8.ofNat (2*c+1)],0,0):=rfl
   rw [e]
   refine ⟨?_,by show 0 < 8; decide,by show 0 < 2 ^ 0; decide,?_,fun _=>rfl⟩
   ·show p+1=8*(d ++ [_]).length+0; simp only [aq,List.length_cons,List.length_nil]; omega
   ·show (d ++ [_]).length<=N; simp only [aq,List.length_cons,List.length_nil]; omega
  ·have e:jN (d,n,c) 1=(d,n+1,2*c+1):=by unfold jN; rw [if_neg h7]
   rw [e]
   exact ⟨by show p+1=8*d.length+(n+1); omega,by show n+1 < 8; omega,by show 2*c+1 < 2 ^ (n+1); rw [Nat.pow_succ]; omega,h4,fun k=>by have:d.length=N:=k; omega⟩
 ·by_cases h7:n=7
  ·subst h7
   have e:jN (d,7,c) 1=(d ++ [UInt8.ofNat (2*c+1)],0,0):=rfl
   rw [e]
   unfold cJ
   simp only [aq,List.length_cons,List.length_nil]
   by_cases Ic:d.length+(0+1) < N
   ·rw [if_pos Ic,show N - d.length - 1=N - (d.length+(0+1)) - 1+1 by omega,List.replicate_succ]
    simp
   ·rw [if_neg Ic,show N - d.length - 1=0 by omega]
    simp
  ·have e:jN (d,n,c) 1=(d,n+1,2*c+1):=by unfold jN; rw [if_neg h7]
   rw [e]
   unfold cJ
   simp only
   rw [if_pos hN,show 8 - (n+1)=7 - n by omega]
theorem or_bit {n c:Nat} (hn:n < 8) (hc:c < 2 ^ n):IntKind.wrap .u8 ((BitVec.ofInt (IntKind.bits .u8) ((UInt8.ofNat (c*2 ^ (8 - n))).toNat:Int) ||| BitVec.ofInt (IntKind.bits .u8) (sh8 (7 - n))).toNat:Int)=((UInt8.ofNat ((2*c+1)*2 ^ (7 - n))).toNat:Int):=by
 have k:((List.range 8).all fun n=>(List.range (2 ^ n)).all fun c=>IntKind.wrap .u8 ((BitVec.ofInt (IntKind.bits .u8) ((UInt8.ofNat (c*2 ^ (8 - n))).toNat:Int) ||| BitVec.ofInt (IntKind.bits .u8) (sh8 (7 - n))).toNat:Int) == ((UInt8.ofNat ((2*c+1)*2 ^ (7 - n))).toNat:Int))=true:=by kernel_rfl
 exact eq_of_beq (bG.1 (bG.1 k n (List.mem_range.2 hn)) c (List.mem_range.2 hc))
theorem U4 {n i v:Nat} (hn:n=2∨n=4∨n=6) (h1:8<=i+n) (hi:i < 6) (hb:mX v i=1) (c:Nat):(c*64+v) % 2 ^ (n - 2)≠0:=by
 have:i=2∨i=3∨i=4∨i=5:=by omega
 unfold mX at hb
 rcases hn with rfl | rfl | rfl <;> rcases this with rfl | rfl | rfl | rfl <;> simp only [Nat.reduceSub,Nat.reducePow,Nat.reduceAdd,Nat.reduceLeDiff] at h1 hb ⊢ <;> omega
theorem Zd {n c v:Nat} (hv:v < 64) (vs:List Nat) (d:aw) (hn:n=0∨n=2∨n=4∨n=6) (hc:c < 2 ^ n) :
  (gx n c (v ::vs)).map (d ++ ·)=(gx (gV (d,n,c) v 6).2.1 (gV (d,n,c) v 6).2.2 vs).map ((gV (d,n,c) v 6).1 ++ ·):=by
 rw [Va hn hc hv,gx,if_pos hv]
 split
 ·rw [Option.map_map]
  congr 1
  funext l
  simp
 ·rfl
theorem gx_bad {n c v:Nat} (h: ¬v < 64) (vs:List Nat):gx n c (v ::vs)=none:=by rw [gx,if_neg h]
def Cn:=J @EH.eq_1 (J @yy.eq_1 (J @yx.eq_1 (J @yw.eq_1 (J @yu.eq_1 (J @EI.eq_1 (@VT.eq_1))))))
def Vt:=J @EH.eq_1 (J @yy.eq_1 (J @yx.eq_1 (J @yu.eq_1 (J @EI.eq_1 (@VT.eq_1)))))
def M5:=J @KV.eq_1 (J @EF.eq_1 (J @NH.eq_1 (@F152.eq_1)))
theorem WX:((List.range 64).all fun j=>S6 ((dd cA (run cA gU 300) (.fn 158 [] []) [.int .i64 j, .bool false] .empty).bind (fun x=>rbE x.2 x.1)) (xe j))=true:=by kernel_rfl
theorem r_sgS {j:Nat} (h:j < 64):cR 158 [.int .i64 j, .bool false]=some (.int .u8 (xe j)):=
 cQ 300 (C4 (bG.1 WX j (List.mem_range.2 h)))
theorem r_sixS (c:UInt8):cR 152 [.int .u8 c.toNat, .bool false]=some (.int .i64 (if iU c=64 then -1 else iU c)):=by
 refine aG (F:=F152) rfl ?_
 simp only [KV,EF,F152,ax,az,seval]
 refine gT (S:=Nat) (fun j=> [(0, .int .u8 c.toNat),(1, .bool false),(5, .int .i64 (j:Int))]) (fun _=> .empty) (fun j=>64 - j) (fun j=>Qk c.toNat (64 - j) j=iU c) ?_ 0 rfl
 intro b j hj ih
 by_cases aR:j < 64
 ·have bP:=r_sgS aR
  have aK:decide ((j:Int) < 64)=true:=by simp; omega
  have hw:=cL aR aa
  simp only [M5,az,seval,ae,aK,bP]
  by_cases hs:xe j=c.toNat
  ·have hb:((xe j:Int) == (c.toNat:Int))=true:=by simp [hs]
   simp only [M5,az,seval,ae,hb]
   rw [←hj,SC hs aR,if_neg aa]
  ·have hb:((xe j:Int) == (c.toNat:Int))=false:=by simp; omega
   simp only [M5,az,seval,ae,hb,hw]
   exact ih (j+1) _ _ aa (by rw [←Me hs aR]; exact hj) rfl rfl
 ·have aK:decide ((j:Int) < 64)=false:=by simp; omega
  simp only [M5,az,seval,aK]
  rw [←hj,SD aa,if_pos rfl]
def CI (σ:ag) (N:Nat) (S:B3):Prop:=N=0∨look σ.m 0=some (.own (af (cJ N S)))
theorem JG {s:Bs} {N j v:Nat} {XN:AV} (hL:s.length < 100000000000) (hN:N=6*s.length / 8) (hj:j < s.length) (hv:v < 64) (hX:lenL XN=some (.int .i64 (N:Int))) (hXs:0 < N->XN= .sl 0 0 N 1 none)
  {S0:B3} (hS0:Yk N (6*j) S0) {K:List Item} {Q:Fr->ag->Prop} {σ:ag} (hσ:CI σ N S0)
  (hk: ∀σ' l,CI σ' N (gV S0 v 6)->Yk N (6*j+6) (gV S0 v 6)->Ex cA gU K ((0, .str s) ::(1, .bool false) ::(6,XN) ::(7, .int .i64 (j:Int)) ::l) σ' Q)
  (he: ∀i,i < 6->mX v i=1->8*N<=6*j+i->∀fr' σ',(look fr' 4).getD .undef= .nils->(look fr' 5).getD .undef= .int .i64 2->Q fr' σ') :
  Ex cA gU (.code yw :: .inLoop [0,1,6,7,8,9] yw :: .inBlock 2 ::K) [(0, .str s),(1, .bool false),(6,XN),(7, .int .i64 (j:Int)),(8, .int .i64 (v:Int)),(9, .int .i64 0)] σ Q:=by
 refine aP (S:=Nat) (fun i=> [(0, .str s),(1, .bool false),(6,XN),(7, .int .i64 (j:Int)),(8, .int .i64 (v:Int)),(9, .int .i64 (i:Int))]) (fun i=>6 - i)
  (fun i σ=>i<=6/\CI σ N (gV S0 v i)/\Yk N (6*j+i) (gV S0 v i)) ?_ 0 σ ⟨by decide,hσ,hS0⟩
 rintro b i σ ⟨h1,h2,h3⟩ ih
 by_cases hi:i < 6
 ·have aK:decide ((i:Int) < 6)=true:=by simp; omega
  have uK:IntKind.wrap .i64 (6*(j:Int))=((6*j:Nat):Int):=by rw [←w64 (x:=6*j) aa]; simp
  have zz:IntKind.wrap .i64 (((6*j:Nat):Int)+(i:Int))=((6*j+i:Nat):Int):=by rw [←w64 (x:=6*j+i) aa]; simp
  have hw3:IntKind.wrap .i64 (5 - (i:Int))=((5 - i:Nat):Int):=by rw [←w64 (x:=5 - i) aa]; congr 1; omega
  have hw:=cL hi aa
  have mD:=WU hv hi
  have hx:v / 2 ^ (5 - i) < 64:=Nat.lt_of_le_of_lt (Nat.div_le_self _ _) hv
  have ha:=aad _ hx
  have hbl:=bit_lt v i
  have sF:gV S0 v (i+1)=jN (gV S0 v i) (mX v i):=rfl
  by_cases hb:mX v i=0
  ·have hz:(((v / 2 ^ (5 - i) % 2:Nat):Int) == 0)=true:=by unfold mX at hb; rw [hb]; rfl
   obtain ⟨k1,k2⟩:=bit0 h3 aa
   rw [hb] at sF
   rw [←sF] at k1 k2
   simp only [Cn,az,seval,VX,aK,uK,zz,hw3,hw,mD,ha,hz]
   refine ih (i+1) _ _ aa ⟨by omega,?_,k1⟩ rfl
   unfold CI at h2 ⊢
   rw [k2]; exact h2
  ·have Dc:mX v i=1:=by omega
   have hz:(((v / 2 ^ (5 - i) % 2:Nat):Int) == 0)=false:=by unfold mX at hb; rw [cE]; omega
   have hq:IntKind.wrap .i64 (((6*j+i:Nat):Int).tdiv 8)=(((6*j+i) / 8:Nat):Int):=w64 (x:=(6*j+i) / 8) aa
   have hr:(((6*j+i:Nat):Int).tmod 8)=(((6*j+i) % 8:Nat):Int):=rfl
   have hs:IntKind.wrap .i64 (7 - (((6*j+i) % 8:Nat):Int))=((7 - (6*j+i) % 8:Nat):Int):=by rw [←w64 (x:=7 - (6*j+i) % 8) aa]; congr 1; omega
   by_cases hp:N<=(6*j+i) / 8
   ·have hg:decide ((((6*j+i) / 8:Nat):Int)≥(N:Int))=true:=by simp; omega
    simp only [Cn,az,seval,VX,aK,uK,zz,hw3,hw,mD,ha,hz,hq,hX,hg]
    exact he i hi Dc aa _ _ rfl rfl
   ·have hg:decide ((((6*j+i) / 8:Nat):Int)≥(N:Int))=false:=by simp; omega
    have hXe:=hXs aa
    have nA:look σ.m 0=some (.own (af (cJ N (gV S0 v i)))):=h2.resolve_left aa
    have h3':=h3
    obtain ⟨p1,p2,p3,p4,p5⟩:=h3'
    have hd:(6*j+i) / 8=(gV S0 v i).1.length:=by omega
    have hm:(6*j+i) % 8=(gV S0 v i).2.1:=by omega
    obtain ⟨k1,k2,k3⟩:=bit1 h3 aa
    rw [Dc] at sF
    rw [←sF] at k1 k2
    have hor:=or_bit p2 p3
    have hlen:=HI h3
    rw [hd] at hq hg hp
    rw [hm] at hr hs
    generalize gV S0 v i=S at*
    have cl:idxOf 1 none XN (.int .i64 ((S.1.length:Nat):Int))=some (.ptr 0 S.1.length):=by
     rw [hXe]; simp [idxOf]; omega
    have hxc:(af (cJ N S))[S.1.length]? =some (.int .u8 ((UInt8.ofNat (S.2.2*2 ^ (8 - S.2.1))).toNat:Int)):=by rw [af,bV,k3]; rfl
    have hle:(S.1.length+1<=(af (cJ N S)).length)=True:=by rw [eq_iff_iff,iff_true,aM,hlen]; omega
    have kF:(af (cJ N S)).take S.1.length ++ [.int .u8 ((UInt8.ofNat ((2*S.2.2+1)*2 ^ (7 - S.2.1))).toNat:Int)] ++(af (cJ N S)).drop (S.1.length+1)=af (cJ N (gV S0 v (i+1))):=by
     rw [←k2]; simp [af]
    simp only [Cn,az,seval,VX,ae,aK,uK,zz,hw3,hw,mD,ha,hz,hq,hX,hg,hr,hs,cl,nA,hxc,shl_8,hor,hle,kF]
    exact ih (i+1) _ _ aa ⟨by omega, .inr (by simp [look]),k1⟩ rfl
 ·have aK:decide ((i:Int) < 6)=false:=by simp; omega
  have h6:i=6:=by omega
  subst h6
  simp only [Cn,az,seval,VX,aK]
  exact hk _ _ h2 h3
theorem FC {s:Bs} (hL:s.length < 100000000000):cR 141 [.str s, .bool false]=some (ql (gC s)):=by
 generalize hN:6*s.length / 8=N
 obtain ⟨XN,σ0,hm,hX,hXs,hσ⟩ : ∃XN σ0,jG ⟨0, []⟩ 1 1 [.int .u8 0] (N:Int)=some (XN,σ0)/\lenL XN=some (.int .i64 (N:Int))/\(0 < N->XN= .sl 0 0 N 1 none)/\CI σ0 N ([],0,0):=by
  by_cases h0:N=0
  ·subst h0
   exact ⟨.vsl [] (some 0),⟨0, []⟩,rfl,rfl,fun h=>absurd h (by decide), .inl rfl⟩
  ·refine ⟨.sl 0 0 N 1 none,⟨1, [(0, .own (List.replicate N (.int .u8 0)))]⟩,?_,rfl,fun _=>rfl, .inr ?_⟩
   ·have hr:yS N [AV.int .u8 0]=List.replicate N (AV.int .u8 0):=by
     unfold yS
     have: ∀n,(List.range n).flatMap (fun _=> [AV.int .u8 0])=List.replicate n (AV.int .u8 0):=fun n=>by
      induction n with
      | zero=>rfl
      | succ n ih=>rw [List.range_succ,List.flatMap_append,ih,List.replicate_succ']; rfl
     exact this N
    unfold jG
    rw [if_pos ⟨by omega,by unfold aY; simp; omega,rfl,by decide,by decide⟩,if_neg aa,Int.toNat_natCast,hr]; rfl
   ·rw [DB]; simp [look,af]
 have MA:IntKind.wrap .i64 (6*(s.length:Int))=((6*s.length:Nat):Int):=by rw [←w64 (x:=6*s.length) aa]; simp
 have Pl:IntKind.wrap .i64 (((6*s.length:Nat):Int).tdiv 8)=(N:Int):=by rw [←hN]; exact w64 (x:=6*s.length / 8) aa
 refine aG (F:=VT) rfl ?_
 simp only [EH,yy,yx,yu,VT,ax,az,seval,VX,MA,Pl,hm]
 refine aP (S:=Nat×B3) (fun q=> [(0, .str s),(1, .bool false),(6,XN),(7, .int .i64 (q.1:Int))]) (fun q=>s.length - q.1)
  (fun q σ=>q.1<=s.length/\CI σ N q.2/\Yk N (6*q.1) q.2/\(q.2.2.1=0∨q.2.2.1=2∨q.2.2.1=4∨q.2.2.1=6)/\gC s=(gx q.2.2.1 q.2.2.2 ((s.drop q.1).map iU)).map (q.2.1 ++ ·)) ?_ (0,([],0,0)) _
  ⟨Nat.zero_le _,hσ,⟨rfl,by decide,by decide,Nat.zero_le _,fun _=>rfl⟩, .inl rfl,by simp [gC]⟩
 rintro b ⟨j,d,n,c⟩ σ ⟨h1,h2,h3,h4,h5⟩ ih
 simp only at h1 h2 h3 h4 h5 ih
 by_cases aR:j < s.length
 ·obtain ⟨a,ha⟩:=cq aR
  have aK:=pD aR
  have Gp:=DC (k:= .i64) ha
  have bP:=r_sixS a
  have hw:=cL aR aa
  have hle:=Md a
  have hdr:s.drop j=a ::s.drop (j+1):=drop_cons ha
  rw [hdr,List.map_cons] at h5
  by_cases hv:iU a=64
  ·rw [if_pos hv] at bP
   rw [gx_bad aa,Option.map_none] at h5
   rw [h5]
   simp only [Vt,az,seval,VX,aK,Gp,bP]
   rfl
  ·rw [if_neg hv] at bP
   have pB:decide ((iU a:Int) < 0)=false:=by simp
   have hv6:iU a < 64:=by omega
   simp only [Vt,ax,az,seval,VX,aK,Gp,bP,pB]
   refine JG (j:=j) (v:=iU a) hL hN.symm aR hv6 hX hXs h3 h2 (fun σ' l hσ' Gh=> ?_) (fun i hi hb hp fr' σ' q4 q5=> ?_)
   ·rw [Zd hv6 _ _ h4 h3.2.2.1] at h5
    have h4':(gV (d,n,c) (iU a) 6).2.1=0∨(gV (d,n,c) (iU a) 6).2.1=2∨(gV (d,n,c) (iU a) 6).2.1=4∨(gV (d,n,c) (iU a) 6).2.1=6:=by
     rw [Va h4 h3.2.2.1 hv6]
     rcases h4 with rfl | rfl | rfl | rfl <;> simp
    simp only [Vt,az,seval,VX,hw]
    exact ih (j+1,gV (d,n,c) (iU a) 6) _ _ (by show s.length - (j+1) < s.length - j; omega) ⟨aR,hσ',Gh,h4',h5⟩ rfl
   ·obtain ⟨p1,p2,p3,p4,p5⟩:=h3
    simp only at p1 p2 p3 p4 p5
    have Y2:j+1=s.length:=by omega
    have BK:gC s=none:=by
     rw [h5,Y2,List.drop_length,List.map_nil,gx,if_pos hv6]
     split
     ·have hl:=U4 (n:=n) (i:=i) (v:=iU a) aa aa hi hb c
      rw [gx,if_neg (fun h=>hl h.2)]; rfl
     ·rw [gx,if_neg aa]; rfl
    rw [BK]
    show (match (some [(look fr' 4).getD .undef,(look fr' 5).getD .undef] :Option (ai)) with | some [v]=>some v | some vs=>some (AV.tup vs) | none=>none).bind (rbE σ')=_
    rw [q4,q5]; rfl
 ·have aK:=pE (Nat.not_lt.1 aR)
  have Y2:j=s.length:=by omega
  subst Y2
  obtain ⟨p1,p2,p3,p4,p5⟩:=h3
  simp only at p1 p2 p3 p4 p5
  have Za:d.length=N:=by omega
  have lF:=p5 Za
  subst lF
  rw [List.drop_length,List.map_nil] at h5
  have zD:Int.tmod (s.length:Int) 4=((s.length % 4:Nat):Int):=rfl
  have hmw:IntKind.wrap .i64 ((s.length % 4:Nat):Int)=((s.length % 4:Nat):Int):=w64 (x:=s.length % 4) aa
  by_cases h41:s.length % 4=1
  ·have he:(((s.length % 4:Nat):Int) == 1)=true:=by rw [h41]; rfl
   have BK:gC s=none:=by rw [h5,gx,if_neg aa]; rfl
   rw [BK]
   simp only [Cn,az,seval,VX,aK,zD,hmw,he]
   rfl
  ·have he:(((s.length % 4:Nat):Int) == 1)=false:=by rw [cE]; omega
   have Gd:gC s=some d:=by rw [h5,gx,if_pos ⟨by omega,rfl⟩]; simp
   rw [Gd]
   have hR:rbE σ (.tup [XN, .int .i64 0])=some (.tup [bN d, .int .i64 0]):=by
    by_cases h0:N=0
    ·have hd0:d= []:=ei aa
     have hxe:XN= .vsl [] (some 0):=by
      rw [h0] at hm
      have:jG ⟨0, []⟩ 1 1 [.int .u8 0] ((0:Nat):Int)=some (.vsl [] (some 0),⟨0, []⟩):=rfl
      rw [this] at hm
      cases hm; rfl
     rw [hxe,hd0]; rfl
    ·have nA:=h2.resolve_left h0
     have ET:cJ N (d,n,0)=d:=by unfold cJ; rw [if_neg (by show ¬d.length < N; omega)]
     rw [ET] at nA
     have hx:rb σ 23 (.sl 0 0 N 1 none)=some (bN d):=by
      rw [jC nA (by rw [aM]; omega) (aC _) (gy _),List.drop_zero,aJ (by rw [aM]; omega)]
     have hy:rb σ 23 (.int .i64 0)=some (.int .i64 0):=rfl
     have ht:rb σ 24 (.tup [.sl 0 0 N 1 none, .int .i64 0])=some (.tup [bN d, .int .i64 0]):=by
      have e:rb σ 24 (.tup [.sl 0 0 N 1 none, .int .i64 0])=(match cS (rb σ 23) [.sl 0 0 N 1 none, .int .i64 0] with
       | some cs'=>some (.tup cs')
       | none=>none):=rfl
      rw [e]
      simp only [cS,hx,hy]
     rw [hXs aa]
     unfold rbE
     rw [show bJ=24 from rfl,ht,Option.map_some]
     simp only [AV.er,cg,dt,fW,bF]
   simp only [Cn,az,seval,VX,aK,zD,hmw,he,hR,ql]
def B3Fb:=J @KM.eq_1 (J @Ep.eq_1 (J @Nz.eq_1 (@F220.eq_1)))
def B3Fe:=J @KL.eq_1 (J @Eo.eq_1 (J @Ny.eq_1 (@F223.eq_1)))
theorem ME: ∀l:List Bs,eP (l.map AV.str)=l.map AV.str
 | []=>rfl
 | x ::l=>by rw [List.map_cons,cg,ME l]; rfl
theorem zG: ∀l:List (aw),eP (l.map fun s=>bN s)=l.map fun s=>bN s
 | []=>rfl
 | x ::l=>by rw [List.map_cons,cg,zG l,fW,bF]
theorem Ox (l:List (Bs)) (f:AV) (p:Bs->Bool) (hf:f.closed=true) (nI:f.er=f) (hlen:l.length < fF) (hp: ∀v∈l,dx cA gU f [AV.str v]=some (.bool (p v))) :
  cR 220 [.vsl (l.map AV.str) none,f]=some (.int .i64 (bQ p l 0)):=by
 unfold fF at hlen
 have gh:ay (l.map AV.str)=true:=by
  rw [ft]; intro x hx; obtain ⟨y,_,rfl⟩:=List.mem_map.1 hx; rfl
 have JC:eP (l.map AV.str)=l.map AV.str:=ME l
 refine aG (F:=F220) rfl ?_
 simp only [KM,Ep,F220,ax,az,seval,VX]
 refine gT (S:=Nat) (fun j=> [(0, .vsl (l.map AV.str) none),(1,f),(7, .int .i64 l.length),(8, .int .i64 (j:Int))]) (fun _=> .empty) (fun j=>l.length - j) (fun j=>bQ p l j=bQ p l 0) ?_ 0 rfl
 intro b j hj ih
 by_cases aR:j < l.length
 ·obtain ⟨v,hv⟩:=cq aR
  have cl:=cB (f:=AV.str) (sz:=1) (c:=none) hv rfl
  have bP:=hp v (bZ hv)
  have aK:=pD aR
  simp only [B3Fb,az,seval,VX,ae,aK,cl,hf,nI,bP,AV.cells,aC,bF,AV.closed]
  split
  ·rename_i BI
   rw [←hj,ja hv BI]
  ·rename_i BI
   refine ih (j+1) _ _ aa ?_ ?_ rfl
   ·rw [←ix hv (by simpa using BI)]; exact hj
   ·rw [cL aR aa]
    simp only [az,seval]
 ·have aK:=pE (Nat.not_lt.1 aR)
  simp only [B3Fb,az,seval,VX,aK]
  rw [←hj,jb aa]
theorem Xy (l:List (Bs)) (f:AV) (p:Bs->Bool) (hf:f.closed=true) (nI:f.er=f) (hlen:l.length < fF) (hp: ∀v∈l,dx cA gU f [AV.str v]=some (.bool (p v))) :
  cR 194 [.vsl (l.map AV.str) none,f]=some (.bool (l.any p)):=by
 have gh:ay (l.map AV.str)=true:=by
  rw [ft]; intro x hx; obtain ⟨y,_,rfl⟩:=List.mem_map.1 hx; rfl
 have JC:eP (l.map AV.str)=l.map AV.str:=ME l
 refine aG (F:=F194) rfl ?_
 simp only [F194,az,seval,VX,hf,nI,gh,JC,Ox l f p hf nI hlen hp,lu]
theorem Oy (l:List (aw)) (f:AV) (p:aw->Bool) (hf:f.closed=true) (nI:f.er=f) (hlen:l.length < fF) (hp: ∀v∈l,dx cA gU f [(fun s=>bN s) v]=some (.bool (p v))) :
  cR 223 [.vsl (l.map (fun s=>bN s)) none,f]=some (.int .i64 (bQ p l 0)):=by
 unfold fF at hlen
 have gh:ay (l.map (fun s=>bN s))=true:=by
  rw [ft]; intro x hx; obtain ⟨y,_,rfl⟩:=List.mem_map.1 hx; simp only [AV.closed,aC]
 have JC:eP (l.map (fun s=>bN s))=l.map (fun s=>bN s):=zG l
 refine aG (F:=F223) rfl ?_
 simp only [KL,Eo,F223,ax,az,seval,VX]
 refine gT (S:=Nat) (fun j=> [(0, .vsl (l.map (fun s=>bN s)) none),(1,f),(7, .int .i64 l.length),(8, .int .i64 (j:Int))]) (fun _=> .empty) (fun j=>l.length - j) (fun j=>bQ p l j=bQ p l 0) ?_ 0 rfl
 intro b j hj ih
 by_cases aR:j < l.length
 ·obtain ⟨v,hv⟩:=cq aR
  have cl:=cB (f:=(fun s=>bN s)) (sz:=1) (c:=none) hv rfl
  have bP:=hp v (bZ hv)
  have aK:=pD aR
  simp only [B3Fe,az,seval,VX,ae,aK,cl,hf,nI,bP,AV.cells,aC,bF,AV.closed]
  split
  ·rename_i BI
   rw [←hj,ja hv BI]
  ·rename_i BI
   refine ih (j+1) _ _ aa ?_ ?_ rfl
   ·rw [←ix hv (by simpa using BI)]; exact hj
   ·rw [cL aR aa]
    simp only [az,seval]
 ·have aK:=pE (Nat.not_lt.1 aR)
  simp only [B3Fe,az,seval,VX,aK]
  rw [←hj,jb aa]
theorem Xz (l:List (aw)) (f:AV) (p:aw->Bool) (hf:f.closed=true) (nI:f.er=f) (hlen:l.length < fF) (hp: ∀v∈l,dx cA gU f [(fun s=>bN s) v]=some (.bool (p v))) :
  cR 222 [.vsl (l.map (fun s=>bN s)) none,f]=some (.bool (l.any p)):=by
 have gh:ay (l.map (fun s=>bN s))=true:=by
  rw [ft]; intro x hx; obtain ⟨y,_,rfl⟩:=List.mem_map.1 hx; simp only [AV.closed,aC]
 have JC:eP (l.map (fun s=>bN s))=l.map (fun s=>bN s):=zG l
 refine aG (F:=F222) rfl ?_
 simp only [F222,az,seval,VX,hf,nI,gh,JC,Oy l f p hf nI hlen hp,lu]
def Qi:=J @Eu.eq_1 (J @yl.eq_1 (J @yk.eq_1 (J @Ew.eq_1 (J @yj.eq_1 (J @Et.eq_1 (@VR.eq_1))))))
def stepT (acc:List Bs) (y:Mem):List Bs:=if y.2.kind=3/\acc.length < 4 then acc ++ [y.2.s] else acc
def kX (acc:List Bs) (x:Mem):List Bs:=if x.2.kind=5 then x.2.m.foldl stepT acc else acc
def oz (x:V):List Bs:=(cn x cC).1.m.foldl kX []
theorem NY {acc:List Bs} (y:Mem) (h:acc.length<=4):(stepT acc y).length<=4:=by
 unfold stepT; split
 ·simp; omega
 ·exact h
theorem vA: ∀(l:List Mem) {acc:List Bs},acc.length<=4->(l.foldl stepT acc).length<=4
 | [],_,h=>h
 | y ::l,acc,h=>vA l (NY y h)
theorem N0 {acc:List Bs} (x:Mem) (h:acc.length<=4):(kX acc x).length<=4:=by
 unfold kX; split
 ·exact vA _ h
 ·exact h
theorem CY {T:V} {y:Mem} (h:y∈T.m):y.2.sz<=T.sz:=by
 have key: ∀l:List Mem,y∈l->y.2.sz<=pI l:=by
  intro l
  induction l with
  | nil=>intro h; cases h
  | cons x l ih=>
   intro h
   obtain ⟨k,v⟩:=x
   rcases List.mem_cons.1 h with e | e
   ·subst e; simp [pI]; omega
   ·have:=ih e; simp [pI]; omega
 have:=key _ h
 cases T; simp [V.sz,V.m] at*; omega
theorem CF (x:V) (hb:x.sz < fF):cR 192 [x.enc]=some (.vsl ((oz x).map .str) none):=by
 have ht:=u6 x cC hb
 have fb:=lC x cC
 unfold oz
 generalize (cn x cC).2=ok at ht
 generalize hT:(cn x cC).1=T at*
 refine aG (F:=VR) rfl ?_
 have hl:T.m.length < fF:=by have:=iV T; omega
 unfold fF at hl hb
 simp only [Eu,yl,yk,Ew,yj,VR,ax,az,seval,VX,ae,ht]
 refine aP (S:=Nat×List Bs×AV) (fun p=> [(5,p.2.2),(16, .vsl (T.m.map bp) none),(17, .int .i64 T.m.length),(18, .int .i64 (p.1:Int))]) (fun p=>T.m.length - p.1)
  (fun p σ=>Gr om σ p.2.2 p.2.1/\p.2.1.length<=4/\(T.m.drop p.1).foldl kX p.2.1=T.m.foldl kX []) ?_ (0, [], .nils) _ ⟨?_,by simp,rfl⟩
 ·rintro b ⟨j,acc,v⟩ σ ⟨hg,hlen,hj⟩ ih
  simp only at hg hlen hj ih ⊢
  by_cases aR:j < T.m.length
  ·obtain ⟨y,hy⟩:=cq aR
   have cl:=cB (f:=bp) (sz:=6) (c:=none) hy (by simp [bq])
   have aK:=pD aR
   have hw:=cL aR aa
   have hn:=hg.newset
   rw [drop_cons hy,List.foldl_cons] at hj
   by_cases h5:y.2.kind=5
   ·have q5:(y.2.kind != 5)=false:=by simp [h5]
    have hyl:y.2.m.length < 4611686018427387904:=by
     have h1:=iV y.2
     have h2:=CY (bZ hy)
     omega
    rw [show kX acc y=y.2.m.foldl stepT acc from by rw [kX,if_pos h5]] at hj
    simp only [Eu,yl,yk,yj,Et,VR,ax,az,seval,VX,ae,aK,cl,q5]
    refine aP (S:=Nat×List Bs×AV) (fun p=> [(5,p.2.2),(16, .vsl (T.m.map bp) none),(17, .int .i64 T.m.length),(18, .int .i64 (j:Int)),(28, .vsl (y.2.m.map bp) none),(29, .int .i64 y.2.m.length),(30, .int .i64 (p.1:Int))]) (fun p=>y.2.m.length - p.1)
     (fun p σ=>Gr om σ p.2.2 p.2.1/\p.2.1.length<=4/\(y.2.m.drop p.1).foldl stepT p.2.1=y.2.m.foldl stepT acc) ?_ (0,acc,v) _ ⟨hn _ _,hlen,rfl⟩
    rintro b2 ⟨k,jR,v2⟩ σ2 ⟨Pq,BM,hk⟩ iY
    simp only at Pq BM hk iY ⊢
    by_cases nA:k < y.2.m.length
    ·obtain ⟨z,hz⟩:=cq nA
     have l9:=cB (f:=bp) (sz:=6) (c:=none) hz (by simp [bq])
     have zH:=pD nA
     have zz:=cL nA aa
     have AG:=Pq.newset
     rw [drop_cons hz,List.foldl_cons] at hk
     by_cases h3:z.2.kind=3
     ·have q3:(z.2.kind == 3)=true:=by simp [h3]
      by_cases h4:jR.length < 4
      ·have q4:decide ((jR.length:Int) < 4)=true:=by simp; omega
       have tX:=Pq.lenL
       have da: ∀a b,aF _ 1 16 v2 [.str z.2.s] 1=some _:=fun a b=>(AG a b).push (a:=z.2.s) (bytes:=16) aa (by unfold aY; omega)
       have jm:lenOf (.vsl [.str z.2.s] (some 1))=some 1:=rfl
       have ll: ∀σ',rowOf σ' 1 (.vsl [.str z.2.s] (some 1))=some [.str z.2.s]:=fun _=>rfl
       rw [show stepT jR z=jR ++ [z.2.s] from by rw [stepT,if_pos ⟨h3,h4⟩]] at hk
       simp only [Qi,az,seval,VX,ae,zH,l9,q3,q4,zz,da,jm,ll,tX]
       exact iY (k+1,jR ++ [z.2.s],_) _ _ (by simp; omega) ⟨Gr.own ((AG _ _).next (by simp)),by simp; omega,by simpa using hk⟩ (by simp only [az,seval]; rfl)
      ·have q4:decide ((jR.length:Int) < 4)=false:=by simp; omega
       rw [show stepT jR z=jR from by rw [stepT,if_neg (fun c=>h4 c.2)]] at hk
       simp only [Qi,az,seval,VX,ae,zH,l9,q3,q4,zz,Pq.lenL]
       exact iY (k+1,jR,v2) _ _ (by simp; omega) ⟨AG _ _,BM,hk⟩ (by simp only [az,seval])
     ·have q3:(z.2.kind == 3)=false:=by simp [h3]
      rw [show stepT jR z=jR from by rw [stepT,if_neg (fun c=>h3 c.1)]] at hk
      simp only [Qi,az,seval,VX,ae,zH,l9,q3,zz]
      exact iY (k+1,jR,v2) _ _ (by simp; omega) ⟨AG _ _,BM,hk⟩ (by simp only [az,seval])
    ·have zH:=pE (Nat.not_lt.1 nA)
     rw [cc aa] at hk
     have hk2:jR=y.2.m.foldl stepT acc:=hk
     simp only [Qi,az,seval,VX,ae,zH,hw]
     exact ih (j+1,jR,v2) _ _ (by simp; omega) ⟨Pq,BM,by rw [hk2]; exact hj⟩ (by simp only [az,seval])
   ·have q5:(y.2.kind != 5)=true:=by simp [h5]
    rw [show kX acc y=acc from by rw [kX,if_neg h5]] at hj
    simp only [Qi,az,seval,VX,ae,aK,cl,hw,q5]
    exact ih (j+1,acc,v) _ _ (by simp; omega) ⟨hn _ _,hlen,hj⟩ (by simp only [az,seval])
  ·have aK:=pE (Nat.not_lt.1 aR)
   rw [cc aa] at hj
   have Y3:acc=T.m.foldl kX []:=hj
   have Tk:=hg.rbE
   simp only [Qi,az,seval,VX,aK,Tk,Y3]
   rfl
 ·exact Gr.nil om _
theorem Gr.idxA {α:Type} {L:fE α} {σ:ag} {v:AV} {l:List α} (h:Gr L σ v l) (hs:L.sz≠1) {j:Nat} {a:α} (hj:l[j]? =some a): ∃p,idxOf L.sz none v (.int .i64 (j:Int))=some p/\fh σ p (some L.sz)=some (L.f a):=by
 have aR:=qP hj
 have hag:=L.agg a
 rw [if_neg hs] at hag
 obtain ⟨cs,ma⟩:=hag
 have hl:=L.len a
 rw [ma] at hl
 simp only [AV.cells] at hl
 rcases h with ⟨rfl,rfl⟩ | ⟨b,rfl,h⟩ | rfl
 ·simp at hj
 ·refine ⟨.ptr b (j*L.sz),?_,?_⟩
  ·have h2:((j:Int) < (l.length:Int)):=by omega
   simp [Go.Ab.idxOf,h2]
  ·have h1:=h.1
   have e: ∀(l:List α) (j:Nat),l[j]? =some a->(L.cells l).drop (j*L.sz)=cs ++L.cells (l.drop (j+1)):=by
    intro l
    induction l with
    | nil=>intro j hj; simp at hj
    | cons x l ih=>
     intro j hj
     have hx:=L.len x
     have e1:L.cells (x ::l)=(L.f x).cells ++L.cells l:=by simp [fE.cells]
     cases j with
     | zero=>
      simp only [List.getElem?_cons_zero,ah] at hj
      subst hj
      rw [e1,ma,Nat.zero_mul]; rfl
     | succ j=>
      simp only [List.getElem?_cons_succ] at hj
      rw [e1,List.drop_append,hx]
      have e2:(j+1)*L.sz - L.sz=j*L.sz:=by rw [Nat.add_mul]; omega
      have e3:(L.f x).cells.drop ((j+1)*L.sz)= []:=cc (by rw [hx,Nat.add_mul]; omega)
      rw [e2,e3,ih j hj]
      simp
   have h3:=e l j hj
   have h4:=L.cells_len l
   have h5:j*L.sz+L.sz<=(L.cells l).length:=by
    rw [h4]
    calc j*L.sz+L.sz=(j+1)*L.sz:=by rw [Nat.add_mul]; omega
     _<=l.length*L.sz:=Nat.mul_le_mul_right _ aR
   simp only [fh,ag.cells,h1,df]
   rw [if_pos h5,h3,List.take_append_of_le_length aa,aJ aa,ma]
 ·refine ⟨.vptr (L.f a).cells 0,cB (f:=L.f) hj (L.len a),?_⟩
  simp only [fh,ma,AV.cells,df]
  rw [if_pos aa,List.drop_zero,aJ aa]
def B5Fa:=J @KP.eq_1 (J @Ey.eq_1 (J @NA.eq_1 (@F191.eq_1)))
abbrev eO:Bs:= [112,117,98,108,105,99,95,107,101,121,115]
abbrev fC:Bs:= [112,117,98,108,105,99,95,107,101,121]
def LBy:fE (aw) where
 f:=fun s=>bN s
 sz:=1
 pos:=by decide
 len _:=rfl
 closed s:=by simp only [AV.closed,aC]
 er s:=by simp only [AV.er,bF]
 one _:=rfl
 agg _:=rfl
def Pc (x:V):aw:=(gC (bR x fC).1).getD []
def jv (acc:List (aw)) (x:V):List (aw):=if (bR x fC).2=true/\acc.length < 4 then acc ++ [Pc x] else acc
def pU (t:V):List (aw):=(said t ::iR (said t) eO).foldl jv []
theorem getE_b (o:Option (aw)): ∃e:Int,ql o= .tup [bN (o.getD []), .int .i64 e]:=by
 cases o with
 | none=>exact ⟨2,rfl⟩
 | some l=>exact ⟨0,rfl⟩
def farW (v w:AV):Prop:=∀b len sz c cI kl c',w= .sl b 0 len sz c->v≠ .sl b 0 cI kl c'
theorem keepW {σ:ag} {w v:AV} {L:List V} {acc m:List (aw)} (h:Gr LV σ w L) (hv:Gr LBy σ v acc) (hd:farW v w):Gr LV (cZ LBy σ v acc m) w L:=by
 rcases h with ⟨rfl,rfl⟩ | ⟨b,rfl,h1,h2,h3,h4⟩ | rfl
 ·exact .inl ⟨rfl,rfl⟩
 ·refine .inr (.inl ⟨b,rfl,?_,h2,?_,h4⟩)
  ·rw [iu hv h3 (fun len sz c e=>by
    rcases hv with ⟨rfl,_⟩ | ⟨b',rfl,_⟩ | rfl
    ·cases e
    ·cases e; exact hd b _ _ _ _ _ _ rfl rfl
    ·cases e)]
   exact h1
  ·rw [gG]; omega
 ·exact .inr (.inr rfl)
theorem gr_lt {α:Type} {L:fE α} {σ:ag} {w:AV} {l:List α} (h:Gr L σ w l) {b len sz:Nat} {c:aA} (e:w= .sl b 0 len sz c):b < σ.next:=by
 rcases h with ⟨rfl,_⟩ | ⟨b',rfl,_,_,h3,_⟩ | rfl
 ·cases e
 ·cases e; exact h3
 ·cases e
theorem app_V (X:V) (L:List V) (hL:L.length < lim): ∃(w:ag->AV) (S:ag->ag),(∀σ,aF σ 5 80 (.vsl [X.enc] (some 1)) (LV.cells L) L.length=some (w σ,S σ))/\(∀σ,Gr LV (S σ) (w σ) (X ::L))/\∀σ,σ.next<=(S σ).next:=by
 unfold lim at hL
 cases L with
 | nil=>
  refine ⟨fun _=> .vsl [X.enc] (some 1),fun σ=>σ,fun σ=> ?_,fun σ=>Gr.lit LV σ [X],fun σ=>aD _⟩
  unfold aF
  simp [lenOf,fE.cells,aY]
 | cons y L=>
  exact ⟨_,_,fun σ=>Gr.app (m:=y ::L) (bytes:=80) (Gr.lit LV σ [X]) (by decide) (by simp [aY] at*; omega) (by simp),fun σ=>Gr.own (Gr.next (Gr.lit LV σ [X]) (by simp)),fun σ=>by rw [gG]; omega⟩
theorem r_pubs (t:V) (hb:t.sz < lim):cR 191 [t.enc]=some (.vsl ((pU t).map fun s=>bN s) none):=by
 have Gt:t.sz < fF:=by unfold fF lim at*; omega
 have hs:=Ru t Gt
 have hss:=xf t
 unfold pU
 generalize said t=X at*
 have hi:=Xr X eO aa
 have hisz:=Pe X eO
 have hL:(iR X eO).length < lim:=by
  have h1:=xz X eO
  have h2:=zo (iZ X eO).1
  have h3:(iR X eO).length<=(iZ X eO).1.l.length:=by
   unfold iR; split
   ·exact aD _
   ·exact Nat.zero_le _
  omega
 generalize iR X eO=L at*
 refine aG (F:=F191) rfl ?_
 have jm:lenOf (.vsl (L.map V.enc) none)=some L.length:=by simp [lenOf]
 have ll: ∀σ,rowOf σ 5 (.vsl (L.map V.enc) none)=some (LV.cells L):=fun σ=>LV.rowOf σ L none
 obtain ⟨w,S,hap,hgw,BJ⟩:=app_V X L hL
 have hMsz: ∀x∈X ::L,x.sz < lim:=fun x hx=>by
  rcases List.mem_cons.1 hx with e | e
  ·subst e; omega
  ·have:=hisz x e; omega
 have hMl:(X ::L).length<=lim:=by rw [List.length_cons]; omega
 generalize hM:X ::L=M at*
 have Pn:=fun σ=>(hgw σ).lenL
 simp only [KP,Ey,F191,ax,az,seval,VX,ae,hs,hi,jm,ll,hap,Pn]
 generalize ({ next:=1,m:= [(0,jP.own [.int .i64 X.kind, .int .i64 X.n, .str X.s, .vsl (X.l.map V.enc) none, .vsl (X.m.map bp) none]),(0,jP.own [.int .i64 t.kind, .int .i64 t.n, .str t.s, .vsl (t.l.map V.enc) none, .vsl (t.m.map bp) none])] }:ag)=σ0
 have hg0:=hgw σ0
 generalize w σ0=W at*
 generalize S σ0=σ1 at*
 clear hap hgw Pn BJ jm ll hs hi hss hisz
 unfold lim at hMl
 refine aP (S:=Nat×List (aw)×AV) (fun p=> [(3,p.2.2),(16,W),(17, .int .i64 M.length),(18, .int .i64 (p.1:Int))]) (fun p=>M.length - p.1)
  (fun p σ=>Gr LV σ W M/\Gr LBy σ p.2.2 p.2.1/\farW p.2.2 W/\p.2.1.length<=4/\(M.drop p.1).foldl jv p.2.1=M.foldl jv []) ?_ (0, [], .nils) _ ⟨hg0,Gr.nil LBy _,(by intro _ _ _ _ _ _ _ _ e; cases e),by simp,rfl⟩
 rintro b ⟨j,acc,v⟩ σ ⟨hw,hg,hf,hlen,hj⟩ ih
 simp only at hw hg hf hlen hj ih ⊢
 by_cases aR:j < M.length
 ·obtain ⟨y,hy⟩:=cq aR
  obtain ⟨q,V5,YS⟩:=hw.idxA (by decide) hy
  have V5:idxOf 5 none W (.int .i64 (j:Int))=some q:=V5
  have YS:fh σ q (some 5)=some y.enc:=YS
  have aK:=pD aR
  have hwr:=cL aR aa
  have hysz:=hMsz y (bZ hy)
  have Gc:=yV y fC (by unfold fF lim at*; omega)
  have htl:=yH y fC
  have hG:=RU (bR y fC).1 aa
  obtain ⟨e,he⟩:=getE_b (gC (bR y fC).1)
  rw [he] at hG
  have hkb:(gC (bR y fC).1).getD []=Pc y:=rfl
  rw [hkb] at hG
  have hn:=hg.newset
  have hwn:=hw.newset
  rw [drop_cons hy,List.foldl_cons] at hj
  have Ph:jv acc y=if (bR y fC).2=true/\acc.length < 4 then acc ++ [Pc y] else acc:=rfl
  rw [Ph] at hj
  generalize Pc y=kb at*
  generalize (bR y fC).1=s at*
  have tX:=hg.lenL
  cases Gh:(bR y fC).2 with
  | false=>
   rw [Gh] at Gc hj
   rw [if_neg (by simp)] at hj
   simp only [B5Fa,az,seval,VX,ae,aK,V5,YS,Gc,hwr]
   exact ih (j+1,acc,v) _ _ (by simp; omega) ⟨hwn _ _,hn _ _,hf,hlen,hj⟩ (by simp only [az,seval])
  | true=>
   rw [Gh] at Gc hj
   by_cases h4:acc.length < 4
   ·rw [if_pos ⟨rfl,h4⟩] at hj
    have q4:decide ((acc.length:Int) < 4)=true:=by simp; omega
    have da: ∀a b,aF _ 1 24 v [bN kb] 1=some _:=fun a b=>(hn a b).push (a:=kb) (bytes:=24) aa (by unfold aY; omega)
    have hlo1:lenOf (.vsl [bN kb] (some 1))=some 1:=rfl
    have hro1: ∀σ',rowOf σ' 1 (.vsl [bN kb] (some 1))=some [bN kb]:=fun _=>rfl
    simp only [bN] at hG da hlo1 hro1
    simp only [B5Fa,az,seval,VX,ae,aK,V5,YS,Gc,hwr,tX,q4,hG,da,hlo1,hro1]
    exact ih (j+1,acc ++ [kb],_) _ _ (by simp; omega) ⟨keepW (hwn _ _) (hn _ _) hf,Gr.own ((hn _ _).next (by simp)),(by
     intro b len sz c cI kl c' e h
     have:=gr_lt hw e
     have h2:σ.next+1=b:=by cases h; rfl
     omega),by simp; omega,hj⟩ (by simp only [az,seval]; rfl)
   ·rw [if_neg (fun c=>h4 c.2)] at hj
    have q4:decide ((acc.length:Int) < 4)=false:=by simp; omega
    simp only [B5Fa,az,seval,VX,ae,aK,V5,YS,Gc,hwr,tX,q4]
    exact ih (j+1,acc,v) _ _ (by simp; omega) ⟨hwn _ _,hn _ _,hf,hlen,hj⟩ (by simp only [az,seval])
 ·have aK:=pE (Nat.not_lt.1 aR)
  rw [cc aa] at hj
  have Y3:acc=M.foldl jv []:=hj
  have Tk:=hg.rbE
  simp only [B5Fa,az,seval,VX,aK,Tk,Y3]
  rfl
def B6Fa:= @F193.eq_1
abbrev fP2 (msg:Bs) (sig:aw):AV:= .fn 221 [] [.vptr [.str msg] 0, .vptr [bN sig] 0]
abbrev fP1 (ie:List (aw)) (msg:Bs):AV:= .fn 193 [] [.vptr [.vsl (ie.map fun s=>bN s) none] 0, .vptr [.str msg] 0]
def je (ie:List (aw)) (msg:Bs) (s:Bs):Bool:=match gC s with
 | some sig=>ie.any fun pub=>lN aB pub msg sig
 | none=>false
theorem Rm {σ:ag} {b d:Nat} {cs:ai} (h:look σ.m b=some (.own cs)) (hc:ay cs=true):rb σ (d+1) (.ptr b 0)=some (.vptr cs 0):=by
 have hb:σ.cells b=some cs:=by unfold ag.cells ag.get; rw [h]
 rw [rb,if_neg (by simp [AV.closed])]
 simp only [hb,cP hc]
theorem Ro {σ:ag} {d f:Nat} {c c':ai} (h:cS (rb σ d) c=some c') (nc:ay c=false):rb σ (d+1) (.fn f [] c)=some (.fn f [] c'):=by
 rw [rb,if_neg (by simp [AV.closed,nc])]
 simp only [cS,h]
theorem UM {σ:ag} {b:Nat} {ie:List (aw)} {msg:Bs} {sig:aw} {st r:Bool} (h:look σ.m b=some (.own [bN sig])) (hA:cR 222 [.vsl (ie.map fun s=>bN s) none,fP2 msg sig]=some (.bool r)) :
  gf cA gU st (.fn 222 [] []) [.vsl (ie.map fun s=>bN s) none, .fn 221 [] [.vptr [.str msg] 0, .ptr b 0]] σ=some (.bool r,σ):=by
 have hc:ay (ie.map fun s=>bN s)=true:=en fun a _=>LBy.closed a
 have k1:cS (rb σ 23) [.vptr [.str msg] 0, .ptr b 0]=some [.vptr [.str msg] 0, .vptr [bN sig] 0]:=by
  simp only [cS,ck (show (AV.vptr [.str msg] 0).closed=true from rfl),show (23:Nat)=22+1 from rfl,Rm h (show ay [bN sig]=true from by simp only [ay,AV.closed,aC,aW])]
 refine iz (args':= [.vsl (ie.map fun s=>bN s) none,fP2 msg sig]) rfl ?_ ?_ rfl
 ·simp only [cS,ck (show (AV.vsl (ie.map fun s=>bN s) none).closed=true from by simp only [AV.closed,hc]),show bJ=23+1 from rfl,Ro k1 rfl]
 ·rw [show eP [AV.vsl (ie.map fun s=>bN s) none,fP2 msg sig]= [AV.vsl (ie.map fun s=>bN s) none,fP2 msg sig] from by simp only [cg,dt,fW,zG,AV.er,bF]]
  exact hA
theorem r_p221 {msg:Bs} (hm:msg.length < 1099511000000) (sig pub:aw):dx cA gU (fP2 msg sig) [bN pub]=some (.bool (lN aB pub msg sig)):=by
 rw [wH]
 show cR 221 [bN pub, .vptr [.str msg] 0, .vptr [bN sig] 0]=_
 have h:=RX (pub:=pub) (sig:=sig) hm
 refine aG (F:=F221) rfl ?_
 simp only [bN] at h ⊢
 simp only [F221,az,seval,VX,ae,aC,bF,h]
 done
theorem r_p193 {ie:List (aw)} {msg:Bs} (hm:msg.length < 1099511000000) (hp:ie.length < fF) (s:Bs) (hs:s.length < lim):dx cA gU (fP1 ie msg) [.str s]=some (.bool (je ie msg s)):=by
 rw [wH]
 show cR 193 [.str s, .vptr [.vsl (ie.map fun s=>bN s) none] 0, .vptr [.str msg] 0]=_
 have hG:=RU s hs
 have gh:ay (ie.map fun s=>bN s)=true:=en fun a _=>LBy.closed a
 have JC:=zG ie
 unfold je
 refine aG (F:=F193) rfl ?_
 cases hg:gC s with
 | none=>
  rw [hg] at hG
  simp only [ql] at hG
  simp only [B6Fa,az,seval,VX,ae,hG,gh,JC]
  done
 | some sig=>
  rw [hg] at hG
  simp only [ql] at hG
  have hA:=Xz ie (fP2 msg sig) (fun pub=>lN aB pub msg sig) (by simp only [AV.closed,ay,aC,aW]) (by simp only [AV.er,cg,dt,bF]) hp (fun v _=>r_p221 hm sig v)
  have hC:=fun (σ:ag) (h:look σ.m 0=some (.own [bN sig]))=>UM (st:=false) h hA
  simp only [bN] at hG hC gh JC ⊢
  simp only [B6Fa,az,seval,VX,ae,hG,gh,JC,hC,aC,bF]
  done
def B7Fa:= @F172.eq_1
def k9 (m t:V) (msg:Bs):Bool:=(cf m).2 && (oz (cf m).1).any (je (pU t) msg)
theorem Q1 {n:Nat} {acc:List Bs} {y:Mem} (h: ∀s∈acc,s.length<=n) (hy:y.2.sz<=n): ∀s∈stepT acc y,s.length<=n:=by
 intro s hs
 unfold stepT at hs
 split at hs
 ·rcases lB.1 hs with k | k
  ·exact h s k
  ·simp only [List.mem_singleton] at k
   subst k
   have:=y.2.sz_eq
   omega
 ·exact h s hs
theorem zP {n:Nat}: ∀(l:List Mem) {acc:List Bs},(∀s∈acc,s.length<=n)->(∀y∈l,y.2.sz<=n)->∀s∈l.foldl stepT acc,s.length<=n
 | [],_,h,_=>h
 | y ::l,acc,h,hl=>zP l (Q1 h (hl y (by simp))) (fun z hz=>hl z (by simp [hz]))
theorem Hl {n:Nat}: ∀(l:List Mem) {acc:List Bs},(∀s∈acc,s.length<=n)->(∀y∈l,y.2.sz<=n)->∀s∈l.foldl kX acc,s.length<=n
 | [],_,h,_=>h
 | y ::l,acc,h,hl=>Hl l (by
   unfold kX; split
   ·exact zP _ h (fun z hz=>Nat.le_trans (CY hz) (hl y (by simp)))
   ·exact h) (fun z hz=>hl z (by simp [hz]))
theorem NU (x:V): ∀s∈oz x,s.length<=x.sz:=by
 have h:=lC x cC
 exact Hl _ (by simp) (fun y hy=>Nat.le_trans (CY hy) h)
theorem BW: ∀(l:List Mem) {acc:List Bs},acc.length<=4->(l.foldl kX acc).length<=4
 | [],_,h=>h
 | y ::l,_,h=>BW l (N0 y h)
theorem BV: ∀(l:List V) {acc:List (aw)},acc.length<=4->(l.foldl jv acc).length<=4
 | [],_,h=>h
 | y ::l,acc,h=>BV l (by
   unfold jv; split
   ·simp; omega
   ·exact h)
theorem UN {σ:ag} {b c:Nat} {ts:List Bs} {ie:List (aw)} {msg:Bs} {st r:Bool} (h:look σ.m b=some (.own [.vsl (ie.map fun s=>bN s) none])) (h':look σ.m c=some (.own [.str msg])) (hA:cR 194 [.vsl (ts.map .str) none,fP1 ie msg]=some (.bool r)) :
  gf cA gU st (.fn 194 [] []) [.vsl (ts.map .str) none, .fn 193 [] [.ptr b 0, .ptr c 0]] σ=some (.bool r,σ):=by
 have hc:ay (ie.map fun s=>bN s)=true:=en fun a _=>LBy.closed a
 have rZ:ay (ts.map AV.str)=true:=en fun a _=>om.closed a
 have k1:cS (rb σ 23) [.ptr b 0, .ptr c 0]=some [.vptr [.vsl (ie.map fun s=>bN s) none] 0, .vptr [.str msg] 0]:=by
  simp only [cS,show (23:Nat)=22+1 from rfl,Rm h (show ay [AV.vsl (ie.map fun s=>bN s) none]=true from by simp only [ay,AV.closed,hc,aW]),Rm h' rfl]
 refine iz (args':= [.vsl (ts.map .str) none,fP1 ie msg]) rfl ?_ ?_ rfl
 ·simp only [cS,ck (show (AV.vsl (ts.map AV.str) none).closed=true from by simp only [AV.closed,rZ]),show bJ=23+1 from rfl,Ro k1 rfl]
 ·rw [show eP [AV.vsl (ts.map AV.str) none,fP1 ie msg]= [AV.vsl (ts.map AV.str) none,fP1 ie msg] from by simp only [cg,dt,fW,ME,zG,AV.er]]
  exact hA
theorem yZ {m t:V} {msg:Bs} {e:Int} (hbm:m.sz < lim) (Gs:t.sz < lim) (hm:msg.length < 1099511000000)
  (hw:(cf m).2=true->cR 190 [(kY (cf m).1 [cC]).enc]=some (.tup [.str msg, .int .i64 e])):cR 172 [m.enc,t.enc]=some (.bool (k9 m t msg)):=by
 have Gt:m.sz < fF:=by unfold fF lim at*; omega
 have hs:=Rt m Gt
 have fb:=yO m
 have hp:=r_pubs t Gs
 have AX:(pU t).length<=4:=BV _ (by simp)
 unfold k9
 generalize (cf m).1=X at*
 cases Gh:(cf m).2 with
 | false=>
  rw [Gh] at hs
  refine aG (F:=F172) rfl ?_
  simp only [B7Fa,az,seval,VX,ae,hs,Bool.false_and]
 | true=>
  rw [Gh] at hs
  have hw:=hw Gh
  have hD:cR 131 [X.enc, .vsl [.str cC] none]=some (kY X [cC]).enc:=R5 X [cC] (by have:=iV X; omega) (by simp [fF])
  have ht:=CF X aa
  have YQ:=NU X
  have htl:(oz X).length<=4:=BW _ (by simp)
  generalize pU t=P at*
  generalize oz X=T at*
  generalize kY X [cC]=D at*
  have hA:=Xy T (fP1 P msg) (je P msg) (by simp only [AV.closed,ay,en (fun a (_:a∈P)=>LBy.closed a),show (fun s=>bN s)=LBy.f from rfl,aW]) (by simp only [AV.er,cg,dt,zG]) (by unfold fF; omega) (fun s hs=>r_p193 hm (by unfold fF; omega) s (by have:=YQ s hs; omega))
  have hC:=fun (σ:ag) (h:look σ.m 2=_) (h':look σ.m 1=_)=>UN (b:=2) (c:=1) (st:=false) (σ:=σ) h h' hA
  refine aG (F:=F172) rfl ?_
  rw [Bool.true_and]
  simp only [bN] at hp hC ⊢
  simp only [B7Fa,az,seval,VX,ae,hs,hD,hw,hp,ht,hC]
  done
def wN:=J @Es.eq_1 (J @Er.eq_1 (J @yh.eq_1 (@F196.eq_1)))
def Q14Fb:=J @Es.eq_1 (J @Er.eq_1 (@F196.eq_1))
def nO (acc:List Bs) (x:V):List Bs:=if (iT x fC).2=true/\acc.length < 4 then acc ++ [(iT x fC).1] else acc
def rV (c:V):List Bs:=if (bR (said c) fC).2=true then [(bR (said c) fC).1] else []
def pj (c:V):List Bs:=(if (cK c eO).1.kind=4/\c.good=true then (cK c eO).1.l else []).foldl nO (rV c)
theorem T6 {σ:ag} {v:AV} {acc m:List Bs} {p:Nat} (hp:p < σ.next): ∀len sz c,(AV.sl σ.next 0 (acc ++m).length 1 none)≠ .sl p 0 len sz c:=fun len sz c e=>by cases e; omega
theorem yX {c g:V} (hb:c.sz < lim) (hg:g.sz < lim) {p:Nat} {v0:AV} {acc0:List Bs} {K:List Item} {Q:Fr->ag->Prop} {σ:ag}
  (h1:Gr om σ v0 acc0) (h2:look σ.m p=some (.own [.int .i64 g.kind, .int .i64 g.n, .str g.s, .vsl (g.l.map V.enc) none, .vsl (g.m.map bp) none])) (h3:p < σ.next) (h4: ∀len sz c,v0≠ .sl p 0 len sz c) (h5:acc0.length<=4)
  (hk: ∀σ' v l,Gr om σ' v ((if g.kind=4/\c.good=true then g.l else []).foldl nO acc0)->Ex cA gU K ((1, .vptr [.int .i64 c.kind, .int .i64 c.n, .str c.s, .vsl (c.l.map V.enc) none, .vsl (c.m.map bp) none] 0) ::(3,v) ::l) σ' Q) :
  Ex cA gU (.code yh :: .inLoop [1,3,6,8] yh :: .inBlock 0 ::K) [(1, .vptr [.int .i64 c.kind, .int .i64 c.n, .str c.s, .vsl (c.l.map V.enc) none, .vsl (c.m.map bp) none] 0),(3,v0),(6, .ptr p 0),(8, .int .i64 0)] σ Q:=by
 have AJ:=qD c (by unfold lim fF at*; omega)
 generalize hW:(if g.kind=4/\c.good=true then g.l else [])=W at hk
 refine aP (S:=Nat×List Bs×AV) (fun q=> [(1, .vptr [.int .i64 c.kind, .int .i64 c.n, .str c.s, .vsl (c.l.map V.enc) none, .vsl (c.m.map bp) none] 0),(3,q.2.2),(6, .ptr p 0),(8, .int .i64 (q.1:Int))]) (fun q=>g.l.length - q.1)
  (fun q σ=>Gr om σ q.2.2 q.2.1/\look σ.m p=some (.own [.int .i64 g.kind, .int .i64 g.n, .str g.s, .vsl (g.l.map V.enc) none, .vsl (g.m.map bp) none])/\p < σ.next/\(∀len sz c,q.2.2≠ .sl p 0 len sz c)/\q.2.1.length<=4/\(W.drop q.1).foldl nO q.2.1=W.foldl nO acc0) ?_ (0,acc0,v0) σ ⟨h1,h2,h3,h4,h5,rfl⟩
 rintro B ⟨j,acc,v⟩ σ ⟨g1,g2,g3,g4,g5,g6⟩ ih
 simp only at g1 g2 g3 g4 g5 g6 ih
 have tY:=zo g
 have hgz:=g.sz_eq
 unfold lim at hb hg
 by_cases aR:j < g.l.length
 ·have d1:=pD aR
  by_cases h4k:g.kind=4
  ·have q4:(g.kind == 4)=true:=by simp [h4k]
   by_cases hgo:c.good=true
   ·rw [hgo] at AJ
    rw [if_pos ⟨h4k,hgo⟩] at hW
    subst hW
    obtain ⟨x,hx⟩:=cq aR
    have cl:=cB (f:=V.enc) (sz:=5) (c:=none) hx (by simp [V.enc_cells])
    have hxz:=jB (bZ hx)
    have ht:=mN x fC (by unfold fF; omega)
    rw [drop_cons hx,List.foldl_cons] at g6
    have hw:=cL aR aa
    have tX:=g1.lenL
    have sF:nO acc x=if (iT x fC).2=true/\acc.length < 4 then acc ++ [(iT x fC).1] else acc:=rfl
    generalize iT x fC=tx at*
    obtain ⟨tt,tb⟩:=tx
    simp only at ht sF
    cases tb with
    | false=>
     rw [sF,if_neg (fun h=>by cases h.1)] at g6
     simp only [wN,az,seval,VX,ae,g2,d1,q4,AJ,cl,ht,hw]
     exact ih (j+1,acc,v) _ _ (by simp; omega) ⟨g1,g2,g3,g4,g5,g6⟩ rfl
    | true=>
     by_cases hl4:acc.length < 4
     ·have q5:decide ((acc.length:Int) < 4)=true:=by simp; omega
      have da:=g1.push (a:=tt) (bytes:=16) aa (by unfold aY; omega)
      have jm:lenOf (.vsl [.str tt] (some 1))=some 1:=rfl
      have ll: ∀σ',rowOf σ' 1 (.vsl [.str tt] (some 1))=some [.str tt]:=fun _=>rfl
      have Gx:aF σ 1 16 v [.str tt] 1=some (.sl σ.next 0 (acc ++ [tt]).length 1 none,cZ om σ v acc [tt]):=da
      rw [sF,if_pos ⟨rfl,hl4⟩] at g6
      simp only [wN,az,seval,VX,ae,g2,d1,q4,AJ,cl,ht,tX,q5,Gx,jm,ll,hw]
      refine ih (j+1,acc ++ [tt],_) _ _ (by simp; omega) ⟨Gr.own (g1.next (by simp)),?_,by rw [gG]; omega,T6 (v:=v) g3,by simp; omega,g6⟩ rfl
      have:=iu (m:= [tt]) g1 g3 g4
      unfold ag.get at this; rw [this]; exact g2
     ·have q5:decide ((acc.length:Int) < 4)=false:=by simp; omega
      rw [sF,if_neg (fun h=>hl4 h.2)] at g6
      simp only [wN,az,seval,VX,ae,g2,d1,q4,AJ,cl,ht,tX,q5,hw]
      exact ih (j+1,acc,v) _ _ (by simp; omega) ⟨g1,g2,g3,g4,g5,g6⟩ rfl
   ·have hgo':c.good=false:=by simpa using hgo
    rw [hgo'] at AJ
    rw [if_neg (fun h=>hgo h.2)] at hW
    subst hW
    rw [List.drop_nil,List.foldl_nil,List.foldl_nil] at g6
    subst g6
    simp only [wN,az,seval,VX,ae,g2,d1,q4,AJ]
    exact hk _ _ _ g1
  ·have q4:(g.kind == 4)=false:=by simp [h4k]
   rw [if_neg (fun h=>h4k h.1)] at hW
   subst hW
   rw [List.drop_nil,List.foldl_nil,List.foldl_nil] at g6
   subst g6
   simp only [wN,az,seval,VX,ae,g2,d1,q4]
   exact hk _ _ _ g1
 ·have d1:=pE (Nat.not_lt.1 aR)
  have hwl:W.drop j= []:=by
   apply cc
   subst hW
   split
   ·omega
   ·exact Nat.zero_le _
  rw [hwl,List.foldl_nil] at g6
  simp only [wN,az,seval,VX,ae,g2,d1]
  rw [g6] at g1
  exact hk _ _ _ g1
theorem II {c:V} (hb:c.sz < lim):cR 196 [c.enc]=some (.vsl ((pj c).map .str) none):=by
 have ht:=Ok c fC (by unfold lim fF at*; omega)
 have hg:=pT c eO (by unfold lim fF at*; omega)
 have hgz:=mU c eO
 have hp0:rV c=if (bR (said c) fC).2=true then [(bR (said c) fC).1] else []:=rfl
 unfold pj
 generalize bR (said c) fC=tx at*
 generalize cK c eO=gx' at*
 obtain ⟨tt,tb⟩:=tx
 obtain ⟨g,gb⟩:=gx'
 simp only at ht hg hgz hp0 ⊢
 refine aG (F:=F196) rfl ?_
 cases tb with
 | false=>
  rw [if_neg (by decide)] at hp0
  rw [hp0]
  simp only [Q14Fb,az,seval,VX,ae,ax,ht,hg]
  refine yX (c:=c) (g:=g) (p:=0) hb aa (Gr.nil om _) (by simp [look]) (aV _) (by intro _ _ _ e; cases e) (by simp) (fun σ' v l h=> ?_)
  have Tk:=h.rbE
  simp only [wN,az,seval,VX,ae,Tk]
  rfl
 | true=>
  rw [if_pos rfl] at hp0
  rw [hp0]
  have jm:lenOf (.vsl [.str tt] (some 1))=some 1:=rfl
  have ll: ∀σ',rowOf σ' 1 (.vsl [.str tt] (some 1))=some [.str tt]:=fun _=>rfl
  have Gx:aF ⟨0, []⟩ 1 16 .nils [.str tt] 1=some (.sl 0 0 1 1 none,⟨1, [(0, .own [.str tt])]⟩):=rfl
  simp only [Q14Fb,az,seval,VX,ae,ax,ht,hg,jm,ll,Gx]
  refine yX (c:=c) (g:=g) (p:=1) hb aa (acc0:= [tt]) (v0:= .sl 0 0 1 1 none) ?_ (by simp [look]) (aV _) (by intro _ _ _ e; cases e) (by simp) (fun σ' v l h=> ?_)
  ·exact Gr.own (L:=om) (l:= [tt]) (b:=0) ⟨rfl,rfl,by show 0 < 2; decide,by simp⟩
  ·have Tk:=h.rbE
   simp only [wN,az,seval,VX,ae,Tk]
   rfl
def HT:=J @rC.eq_1 (J @rA.eq_1 (J @rz.eq_1 (J @uG.eq_1 (J @ru.eq_1 (J @pe.eq_1 (J @rq.eq_1 (J @rn.eq_1 (J @rm.eq_1 (J @uF.eq_1 (J @rk.eq_1 (J @uE.eq_1 (@H6.eq_1))))))))))))
def lR (T:V):List Bs:=T.m.foldl (fun acc y=>y.2.m.foldl stepT acc) []
def E0 (msg:Bs) (sigs:List Bs) (p:Bs):Bool:=match gC p with
 | some k=>sigs.any fun g=>match gC g with
  | some s=>lN aB k msg s
  | none=>false
 | none=>false
def wQ (X:V):Bs:=if (mR X [cC] false).good=true then (mR X [cC] false).wr else []
def tl (c t:V):Bool:=(jX c).2.2 && (pj t).any (E0 (wQ (cx c).1) (lR (cK (cx c).1 cC).1))
abbrev frT (t:V):AV:= .vptr [.int .i64 t.kind, .int .i64 t.n, .str t.s, .vsl (t.l.map V.enc) none, .vsl (t.m.map bp) none] 0
theorem E2 {T t:V} {msg:Bs} (hT:T.sz < lim) {K:List Item} {Q:Fr->ag->Prop} {σ:ag}
  (h2:look σ.m 1=some (.own [.int .i64 T.kind, .int .i64 T.n, .str T.s, .vsl (T.l.map V.enc) none, .vsl (T.m.map bp) none])) (h3:1 < σ.next)
  (hk: ∀σ' v l,Gr om σ' v (lR T)->Ex cA gU K ((3,frT t) ::(10, .str msg) ::(12, .ptr 1 0) ::(14,v) ::l) σ' Q) :
  Ex cA gU (.code pe :: .inLoop [3,10,12,14,15] pe :: .inBlock 0 ::K) [(3,frT t),(10, .str msg),(12, .ptr 1 0),(14, .nils),(15, .int .i64 0)] σ Q:=by
 have vt:=iV T
 have hTz:=T.sz_eq
 unfold lim at hT
 refine aP (S:=Nat×List Bs×AV) (fun q=> [(3,frT t),(10, .str msg),(12, .ptr 1 0),(14,q.2.2),(15, .int .i64 (q.1:Int))]) (fun q=>T.m.length - q.1)
  (fun q σ=>Gr om σ q.2.2 q.2.1/\look σ.m 1=some (.own [.int .i64 T.kind, .int .i64 T.n, .str T.s, .vsl (T.l.map V.enc) none, .vsl (T.m.map bp) none])/\1 < σ.next/\(∀len sz c,q.2.2≠ .sl 1 0 len sz c)/\q.2.1.length<=4/\(T.m.drop q.1).foldl (fun acc y=>y.2.m.foldl stepT acc) q.2.1=lR T) ?_ (0, [], .nils) σ ⟨Gr.nil om _,h2,h3,(by intro _ _ _ e; cases e),by simp,rfl⟩
 rintro B ⟨j,acc,v⟩ σ ⟨g1,g2,g3,g4,g5,g6⟩ ih
 simp only at g1 g2 g3 g4 g5 g6 ih
 by_cases aR:j < T.m.length
 ·have d1:=pD aR
  obtain ⟨y,hy⟩:=cq aR
  have cl:=cB (f:=bp) (sz:=6) (c:=none) hy (by simp [bq])
  have hyz:=gI (bZ hy)
  have hyl:=iV y.2
  have hyz2:=y.2.sz_eq
  have hw:=cL aR aa
  rw [drop_cons hy,List.foldl_cons] at g6
  simp only [rC,rA,rz,ru,pe,rq,rn,rm,uF,rk,uE,H6,az,seval,VX,ae,ax,g2,d1]
  refine aP (S:=Nat×List Bs×AV) (fun q=> [(3,frT t),(10, .str msg),(12, .ptr 1 0),(14,q.2.2),(15, .int .i64 (j:Int)),(16, .int .i64 (q.1:Int))]) (fun q=>y.2.m.length - q.1)
   (fun q σ=>Gr om σ q.2.2 q.2.1/\look σ.m 1=some (.own [.int .i64 T.kind, .int .i64 T.n, .str T.s, .vsl (T.l.map V.enc) none, .vsl (T.m.map bp) none])/\1 < σ.next/\(∀len sz c,q.2.2≠ .sl 1 0 len sz c)/\q.2.1.length<=4/\(y.2.m.drop q.1).foldl stepT q.2.1=y.2.m.foldl stepT acc) ?_ (0,acc,v) _ ⟨g1,g2,g3,g4,g5,rfl⟩
  rintro B2 ⟨k,jR,v2⟩ σ2 ⟨l1,l2,l3,l4,l5,l6⟩ iY
  simp only at l1 l2 l3 l4 l5 l6 iY
  by_cases nA:k < y.2.m.length
  ·have d2:=pD nA
   obtain ⟨z,hz⟩:=cq nA
   have l9:=cB (f:=bp) (sz:=6) (c:=none) hz (by simp [bq])
   have zz:=cL nA aa
   have tX:=l1.lenL
   have rG: ¬σ2.next=1:=by omega
   have qg:=l1.newset [.int .i64 z.2.kind, .int .i64 z.2.n, .str z.2.s, .vsl (z.2.l.map V.enc) none, .vsl (z.2.m.map bp) none] [.int .i64 0, .int .i64 0, .str [], .nils, .nils]
   rw [drop_cons hz,List.foldl_cons] at l6
   by_cases h3k:z.2.kind=3
   ·have q3:(z.2.kind == 3)=true:=by simp [h3k]
    by_cases h4:jR.length < 4
    ·have q4:decide ((jR.length:Int) < 4)=true:=by simp; omega
     have jm:lenOf (.vsl [.str z.2.s] (some 1))=some 1:=rfl
     have ll: ∀σ',rowOf σ' 1 (.vsl [.str z.2.s] (some 1))=some [.str z.2.s]:=fun _=>rfl
     have da:=qg.push (a:=z.2.s) (bytes:=16) aa (by unfold aY; omega)
     have Gx:aF { next:=σ2.next+1,m:=(σ2.next, .own [.int .i64 z.2.kind, .int .i64 z.2.n, .str z.2.s, .vsl (z.2.l.map V.enc) none, .vsl (z.2.m.map bp) none]) ::(σ2.next, .own [.int .i64 0, .int .i64 0, .str [], .nils, .nils]) ::σ2.m } 1 16 v2 [.str z.2.s] 1=some (_,_):=da
     rw [show stepT jR z=jR ++ [z.2.s] from by rw [stepT,if_pos ⟨h3k,h4⟩]] at l6
     simp only [HT,az,seval,VX,ae,l2,rG,cl,d2,l9,q3,tX,q4,jm,ll,Gx,zz]
     refine iY (k+1,jR ++ [z.2.s],_) _ _ (by simp; omega) ⟨Gr.own (qg.next (by simp)),?_,by rw [gG]; show 1 < σ2.next+1+1; omega,?_,by simp; omega,l6⟩ rfl
     ·have:=iu (m:= [z.2.s]) qg (b:=1) (by show 1 < σ2.next+1; omega) l4
      unfold ag.get at this; rw [this]; simp [look,rG,l2]
     ·intro len sz c e
      injection e with e1
      have e2:σ2.next+1=1:=e1
      omega
    ·have q4:decide ((jR.length:Int) < 4)=false:=by simp; omega
     rw [show stepT jR z=jR from by rw [stepT,if_neg (fun c=>h4 c.2)]] at l6
     simp only [HT,az,seval,VX,ae,l2,rG,cl,d2,l9,q3,tX,q4,zz]
     exact iY (k+1,jR,v2) _ _ (by simp; omega) ⟨qg,by simp [look,rG,l2],by show 1 < σ2.next+1; omega,l4,l5,l6⟩ rfl
   ·have q3:(z.2.kind == 3)=false:=by simp [h3k]
    rw [show stepT jR z=jR from by rw [stepT,if_neg (fun c=>h3k c.1)]] at l6
    simp only [HT,az,seval,VX,ae,l2,rG,cl,d2,l9,q3,zz]
    exact iY (k+1,jR,v2) _ _ (by simp; omega) ⟨qg,by simp [look,rG,l2],by show 1 < σ2.next+1; omega,l4,l5,l6⟩ rfl
  ·have d2:=pE (Nat.not_lt.1 nA)
   rw [cc aa,List.foldl_nil] at l6
   simp only [HT,az,seval,VX,ae,l2,cl,d2,hw]
   exact ih (j+1,jR,v2) _ _ (by simp; omega) ⟨l1,l2,l3,l4,l5,by rw [l6]; exact g6⟩ rfl
 ·have d1:=pE (Nat.not_lt.1 aR)
  rw [cc aa,List.foldl_nil] at g6
  simp only [HT,az,seval,VX,ae,g2,d1]
  rw [g6] at g1
  exact hk _ _ _ g1
def wM:=J @rC.eq_1 (J @rA.eq_1 (J @rz.eq_1 (J @uG.eq_1 (J @ru.eq_1 (J @pe.eq_1 (J @rq.eq_1 (J @rn.eq_1 (J @rm.eq_1 (J @uF.eq_1 (J @rk.eq_1 (J @uE.eq_1 (@H6.eq_1))))))))))))
def Q16Fb:=J @rC.eq_1 (J @rA.eq_1 (J @rz.eq_1 (J @uG.eq_1 (J @ru.eq_1 (J @rq.eq_1 (J @rn.eq_1 (J @rm.eq_1 (J @uF.eq_1 (J @rk.eq_1 (@H6.eq_1))))))))))
theorem zq (X:V) (keys:List Bs) (b:Bool):(mR X keys b).sz<=X.sz:=by
 unfold mR
 split
 ·have h1: ∀m:List Mem,pI (m.filter fun x=>pC keys x.1 == b)<=pI m:=fun m=>by
   induction m with
   | nil=>simp
   | cons x m ih=>
    obtain ⟨k,v⟩:=x
    rw [List.filter_cons]
    split
    ·simp only [pI]; omega
    ·simp only [pI]; omega
  have h2:=h1 X.m
  have h3:=X.sz_eq
  rw [V.sz]
  simp only [AD,List.length_nil]
  omega
 ·exact aD _
theorem Bc {msg:Bs} {sigs:List Bs} {p:Bs} (h:gC p=none):E0 msg sigs p=false:=by unfold E0; rw [h]
def CU (msg:Bs) (k:aw) (g:Bs):Bool:=match gC g with
 | some s=>lN aB k msg s
 | none=>false
theorem uP {msg:Bs} {sigs:List Bs} {p:Bs} {k:aw} (h:gC p=some k):E0 msg sigs p=sigs.any (CU msg k):=by unfold E0; rw [h]; rfl
theorem NZ {acc:List Bs} (x:V) (h:acc.length<=4):(nO acc x).length<=4:=by
 unfold nO; split
 ·rename_i h1; rw [aq]; have:=h1.2; simp only [List.length_cons,List.length_nil]; omega
 ·exact h
theorem BU: ∀(l:List V) {acc:List Bs},acc.length<=4->(l.foldl nO acc).length<=4
 | [],_,h=>h
 | y ::l,acc,h=>BU l (NZ y h)
theorem OA (t:V):(pj t).length<=4:=BU _ (by unfold rV; split <;> simp)
theorem Im (T:V):(lR T).length<=4:=by
 unfold lR
 have: ∀(m:List Mem) (acc:List Bs),acc.length<=4->(m.foldl (fun acc y=>y.2.m.foldl stepT acc) acc).length<=4:=fun m=>by
  induction m with
  | nil=>exact fun _ h=>h
  | cons y m ih=>exact fun acc h=>ih _ (vA _ h)
 exact this _ _ (by simp)
theorem Oq {c t:V} (hb:c.sz < lim) (Gs:t.sz < lim) (Ph: ∀p∈pj t,p.length < lim) (hss: ∀g∈lR (cK (cx c).1 cC).1,g.length < lim):cR 173 [c.enc,t.enc]=some (.bool (tl c t)):=by
 have Gt:c.sz < fF:=by unfold lim fF at*; omega
 have hth:=IG c Gt
 have hsg:=vZ c Gt
 have hsgz:=sk c
 have AW:=II Gs
 unfold tl
 generalize jX c=th at*
 obtain ⟨th1,th2,th3⟩:=th
 simp only at hth ⊢
 cases th3 with
 | false=>
  refine aG (F:=H6) rfl ?_
  simp only [wM,az,seval,VX,ae,hth]
  rfl
 | true=>
  generalize cx c=sx at*
  obtain ⟨X,sb⟩:=sx
  simp only at hsg hsgz hss ⊢
  have hXl:=iV X
  have hkz:=zq X [cC] false
  have BN:=r_Keep X [cC] false (by unfold fF; decide) (by unfold lim at*; omega)
  have hwr:=Rw (v:=mR X [cC] false) (by unfold lim at*; omega)
  have Jz:(wQ X).length < 1099511000000:=by
   unfold wQ
   split
   ·rename_i AJ
    have hf:(mR X [cC] false).fine=true:=by unfold V.good at AJ; rw [ak] at AJ; exact AJ.1
    have:=V.wr_len _ hf
    unfold lim at*; omega
   ·decide
  have hwr': ∃e:Int,cR 195 [(mR X [cC] false).enc]=some (.tup [.str (wQ X), .int .i64 e]):=by
   rw [hwr]; unfold wQ
   split
   ·exact ⟨0,rfl⟩
   ·exact ⟨1,rfl⟩
  obtain ⟨e0,hwr'⟩:=hwr'
  clear hwr
  have di:=pT X cC (by unfold lim fF at*; omega)
  have hgz:=mU X cC
  generalize wQ X=msg at*
  generalize mR X [cC] false=KX at*
  generalize cK X cC=tg at*
  obtain ⟨T,tb⟩:=tg
  simp only at di hgz hss ⊢
  rw [Bool.true_and]
  refine aG (F:=H6) rfl ?_
  simp only [List.map_cons,List.map_nil] at BN
  simp only [Q16Fb,az,seval,VX,ae,ax,hth,hsg,BN,hwr',di]
  refine E2 (T:=T) (t:=t) (msg:=msg) aa (by simp [look]) (by show 1 < 2; decide) (fun σ v l hv=> ?_)
  simp only [Q16Fb,az,seval,VX,ae,ax,AW]
  have C9:=Im T
  have AX:=OA t
  generalize lR T=sigs at*
  generalize pj t=ie at*
  refine aP (S:=Nat) (fun j=> [(10, .str msg),(14,v),(18, .vsl (ie.map .str) none),(19, .int .i64 (j:Int))]) (fun j=>ie.length - j)
   (fun j σ=>Gr om σ v sigs/\j<=ie.length/\(ie.drop j).any (E0 msg sigs)=ie.any (E0 msg sigs)) ?_ 0 σ ⟨hv,Nat.zero_le _,rfl⟩
  rintro B j σ1 ⟨g1,g2,g3⟩ ih
  by_cases aR:j < ie.length
  ·have d1:=pD aR
   obtain ⟨p,hp⟩:=cq aR
   have cl:=cB (f:=AV.str) (sz:=1) (c:=none) hp rfl
   have hw:=cL aR aa
   have hpm:=Ph p (bZ hp)
   have hpg:=FC (s:=p) (by unfold lim at hpm; omega)
   rw [drop_cons hp,List.any_cons] at g3
   cases hgp:gC p with
   | none=>
    rw [hgp] at hpg
    rw [Bc hgp,Bool.false_or] at g3
    simp only [ql] at hpg
    by_cases hs0:0 < sigs.length
    ·have d2:decide ((0:Int) < (sigs.length:Int))=true:=decide_eq_true aa
     simp only [wM,az,seval,VX,ae,AV.cells,ax,d1,cl,hpg,g1.lenL,d2,hw]
     exact ih (j+1) _ _ aa ⟨g1,aR,g3⟩ rfl
    ·have d2:decide ((0:Int) < (sigs.length:Int))=false:=decide_eq_false aa
     simp only [wM,az,seval,VX,ae,AV.cells,ax,d1,cl,hpg,g1.lenL,d2,hw]
     exact ih (j+1) _ _ aa ⟨g1,aR,g3⟩ rfl
   | some k=>
    rw [hgp] at hpg
    rw [uP hgp] at g3
    simp only [ql] at hpg
    simp only [rC,rA,rz,uG,ru,pe,rq,rn,rm,rk,uE,H6,az,seval,VX,ae,AV.cells,ax,d1,cl,hpg]
    refine aP (S:=Nat) (fun i=> [(10, .str msg),(14,v),(18, .vsl (ie.map .str) none),(19, .int .i64 (j:Int)),(20,bN k),(21, .int .i64 0),(22, .int .i64 (i:Int))]) (fun i=>sigs.length - i)
     (fun i σ=>Gr om σ v sigs/\i<=sigs.length/\(sigs.drop i).any (CU msg k)=sigs.any (CU msg k)) ?_ 0 σ1 ⟨g1,Nat.zero_le _,rfl⟩
    rintro B2 i σ2 ⟨l1,l2,l3⟩ iY
    by_cases nA:i < sigs.length
    ·have d2:=pD nA
     obtain ⟨g,hg⟩:=cq nA
     obtain ⟨q,V5,YS⟩:=l1.idxS hg
     have zz:=cL nA aa
     have Qo:=hss g (bZ hg)
     have Qp:=FC (s:=g) (by unfold lim at Qo; omega)
     rw [drop_cons hg,List.any_cons] at l3
     cases hgs:gC g with
     | none=>
      rw [hgs] at Qp
      have h0:CU msg k g=false:=by unfold CU; rw [hgs]
      rw [h0,Bool.false_or] at l3
      simp only [ql] at Qp
      simp only [wM,az,seval,VX,ae,l1.lenL,d2,V5,YS,Qp,zz]
      exact iY (i+1) _ _ aa ⟨l1,nA,l3⟩ rfl
     | some s=>
      rw [hgs] at Qp
      have h0:CU msg k g=lN aB k msg s:=by unfold CU; rw [hgs]
      have hV:=Om (pub:=k) (msg:=msg) (sig:=s) Jz
      rw [h0] at l3
      simp only [ql] at Qp
      simp only [bN] at Qp hV
      cases sG:lN aB k msg s with
      | false=>
       rw [sG] at hV
       rw [sG,Bool.false_or] at l3
       simp only [wM,az,seval,VX,ae,bN,aC,bF,l1.lenL,d2,V5,YS,Qp,hV,zz]
       exact iY (i+1) _ _ aa ⟨l1,nA,l3⟩ rfl
      | true=>
       rw [sG] at hV
       rw [sG,Bool.true_or] at l3
       rw [←l3,Bool.true_or] at g3
       rw [←g3]
       simp only [wM,az,seval,VX,ae,bN,aC,bF,l1.lenL,d2,V5,YS,Qp,hV]
    ·have d2:=pE (Nat.not_lt.1 nA)
     rw [cc aa,List.any_nil] at l3
     rw [←l3,Bool.false_or] at g3
     simp only [wM,az,seval,VX,ae,l1.lenL,d2,hw]
     exact ih (j+1) _ _ aa ⟨l1,aR,g3⟩ rfl
  ·have d1:=pE (Nat.not_lt.1 aR)
   rw [cc aa,List.any_nil] at g3
   rw [←g3]
   simp only [wM,az,seval,VX,ae,aH,d1]
theorem mL (k:Bs):bR V.zero k=([],false):=by unfold bR; rw [qS]; rfl
theorem pP (k:Bs):cn V.zero k=(V.zero,false):=by unfold cn; rw [qS]; rfl
theorem JK {v:V} (h5:v.kind=5) (h:v.fine=true):v.n=0/\v.s= []/\v.l= []:=by
 rw [V.fine_eq,h5] at h
 simp only [Int.reduceEq,if_false,if_true,ak] at h
 obtain ⟨hb,_⟩:=h
 simp only [V.bare,ak,beq_iff_eq,V.n_mk,V.s_mk,V.l_mk,List.isEmpty_iff] at hb
 exact ⟨hb.1,hb.2.1,hb.2.2.1⟩
theorem ML {v:V} (h5:v.kind≠5) (h:v.fine=true):v.m= []:=by
 rw [V.fine_eq] at h
 repeat' split at h
 all_goals first
  | (simp only [V.bare,ak,V.m_mk,List.isEmpty_iff] at h; simp_all; done)
  | (rename_i e; exact absurd e h5)
  | cases h
theorem PK {X:V} (h5:X.kind=5) (hf:X.fine=true):kY X [cC]=mR X [cC] false:=by
 obtain ⟨h1,h2,h3⟩:=JK h5 hf
 unfold kY nK mR
 rw [if_pos h5,if_pos h5,h1,h2,h3,h5]
 congr 1
 apply List.filter_congr
 intro x _
 cases pC [cC] x.1 <;> rfl
theorem Hm: ∀(l:List Mem) (acc:List Bs),(∀y∈l,y.2.fine=true)->l.foldl kX acc=l.foldl (fun acc y=>y.2.m.foldl stepT acc) acc
 | [],_,_=>rfl
 | y ::l,acc,h=>by
  rw [List.foldl_cons,List.foldl_cons]
  have e:kX acc y=y.2.m.foldl stepT acc:=by
   unfold kX
   split
   ·rfl
   ·rename_i h5; rw [ML h5 (h y (by simp))]; rfl
  rw [e]
  exact Hm l _ (fun z hz=>h z (by simp [hz]))
theorem vv {v:V} {k:Bs} (h: ¬v.kind=5):cK v k=(V.zero,false):=if_neg h
theorem GA {v:V} {k:Bs} (h:(cK v k).2=false):(cK v k).1=V.zero:=by
 unfold cK at h ⊢
 split
 ·rename_i h5
  rw [if_pos h5] at h
  cases hl:iW v.m k with
  | none=>rfl
  | some x=>rw [hl] at h; cases h
 ·rfl
theorem s6 {v:V} (k:Bs) (hf:v.fine=true):cn v k=if (cK v k).1.kind=5 then ((cK v k).1,true) else (V.zero,false):=by
 unfold cn
 rw [←vw k hf]
 cases hb:(cK v k).2 with
 | false=>rw [GA hb]; rfl
 | true=>
  by_cases h5:(cK v k).1.kind=5
  ·rw [if_pos (by simp [h5]),if_pos h5]
  ·rw [if_neg (by simp [h5]),if_neg h5]
theorem QV {X:V} (hf:X.fine=true):oz X=lR (cK X cC).1:=by
 have hgf:=mb cC hf
 unfold oz lR
 rw [s6 cC hf]
 by_cases h5:(cK X cC).1.kind=5
 ·rw [if_pos h5]
  exact Hm _ _ (fun y hy=>(mf (TZ h5 hgf) hy).2)
 ·rw [if_neg h5,ML h5 hgf]; rfl
theorem vX (c:V):(cf c).2=(jX c).2.2/\((cf c).2=true->(cf c).1=(cx c).1/\(cf c).1.fine=true/\(cf c).1.kind=5/\c.good=true):=by
 have hz:said c=V.zero->(cf c).2=false:=fun h=>by unfold cf; rw [h,pP,pP]; rfl
 by_cases hg:c.good=true
 ·have hf:c.fine=true:=by unfold V.good at hg; rw [ak] at hg; exact hg.1
  by_cases h5:c.kind=5
  ·have hs:said c=c:=by unfold said; rw [hg,h5]; rfl
   have hR:cx c=((cK (cK c bS).1 bf).1,(cK (cK c bS).1 bf).2 && (cK (cK c bS).1 bf).1.kind == 5):=by unfold cx; rw [if_pos hg]
   have hV:cf c=((cn (cn c bS).1 bf).1,(cn (cn c bS).1 bf).2 && ((bR (cn (cn c bS).1 bf).1 ep).2 && (bR (cn (cn c bS).1 bf).1 fT).2)):=by unfold cf; rw [hs]
   have hf1:=mb bS hf
   rw [s6 bS hf] at hV
   by_cases k1:(cK c bS).1.kind=5
   ·rw [if_pos k1] at hV
    simp only at hV
    generalize (cK c bS).1=g at*
    have Gk:=mb bf hf1
    rw [s6 bf hf1] at hV
    by_cases k2:(cK g bf).1.kind=5
    ·have hb:(cK g bf).2=true:=by
      cases hb:(cK g bf).2 with
      | true=>rfl
      | false=>rw [GA hb] at k2; cases k2
     rw [if_pos k2] at hV
     simp only [Bool.true_and] at hV
     generalize cK g bf=X at*
     obtain ⟨X,xb⟩:=X
     simp only at hV hR Gk k2 hb
     rw [hb] at hR
     have hR2:cx c=(X,true):=by rw [hR]; simp [k2]
     unfold jX
     rw [hV,hR2]
     simp only
     rw [sg ep Gk,sg fT Gk]
     refine ⟨?_,fun _=>⟨trivial,Gk,k2,hg⟩⟩
     cases (bR X ep).2 <;> cases (bR X fT).2 <;> simp
    ·rw [if_neg k2] at hV
     have hv:(cf c).2=false:=by rw [hV]; rfl
     have hr:(cx c).2=false:=by rw [hR]; simp [k2]
     refine ⟨?_,fun h=>by rw [hv] at h; cases h⟩
     rw [hv]; unfold jX; rw [if_neg (fun h=>by rw [hr] at h; cases h.1)]
   ·rw [if_neg k1] at hV
    rw [show (V.zero,false).1=V.zero from rfl,pP] at hV
    have hv:(cf c).2=false:=by rw [hV]; rfl
    have hr:(cx c).2=false:=by
     rw [hR]
     have:cK (cK c bS).1 bf=(V.zero,false):=vv k1
     rw [this]; rfl
    refine ⟨?_,fun h=>by rw [hv] at h; cases h⟩
    rw [hv]; unfold jX; rw [if_neg (fun h=>by rw [hr] at h; cases h.1)]
  ·have hv:=hz (by unfold said; simp [h5])
   have hr:(cx c).2=false:=by
    have e1:cK c bS=(V.zero,false):=vv h5
    unfold cx; rw [if_pos hg,e1]; rfl
   refine ⟨?_,fun h=>by rw [hv] at h; cases h⟩
   rw [hv]; unfold jX; rw [if_neg (fun h=>by rw [hr] at h; cases h.1)]
 ·have hv:=hz (by unfold said; simp [hg])
  have hr:(cx c).2=false:=by unfold cx; rw [if_neg hg]
  refine ⟨?_,fun h=>by rw [hv] at h; cases h⟩
  rw [hv]; unfold jX; rw [if_neg (fun h=>by rw [hr] at h; cases h.1)]
def C3 (p:Bs):aw:=(gC p).getD []
theorem E5: ∀(l:List V) (acc:List Bs),(∀x∈l,x.fine=true)->l.foldl jv (acc.map C3)=(l.foldl nO acc).map C3
 | [],_,_=>rfl
 | x ::l,acc,h=>by
  have hx:=h x (by simp)
  rw [List.foldl_cons,List.foldl_cons]
  have e:jv (acc.map C3) x=(nO acc x).map C3:=by
   unfold jv nO
   rw [sg fC hx,aH]
   split
   ·rw [List.map_append]; rfl
   ·rfl
  rw [e]
  exact E5 l _ (fun y hy=>h y (by simp [hy]))
theorem XE (t:V):pU t=(pj t).map C3:=by
 by_cases hg:t.good=true
 ·have hf:t.fine=true:=by unfold V.good at hg; rw [ak] at hg; exact hg.1
  have hgf:=mb eO hf
  by_cases h5:t.kind=5
  ·have hs:said t=t:=by unfold said; rw [hg,h5]; rfl
   have hi:iR t eO=if (cK t eO).1.kind=4/\t.good=true then (cK t eO).1.l else []:=by
    unfold iR; rw [←vw eO hf]
    by_cases h4:(cK t eO).1.kind=4
    ·rw [if_pos h4,if_pos ⟨h4,hg⟩]
    ·rw [if_neg h4,if_neg (fun h=>h4 h.1)]
   have h0:jv [] t=(rV t).map C3:=by
    unfold jv rV
    rw [hs]
    by_cases hk:(bR t fC).2=true
    ·rw [if_pos ⟨hk,by decide⟩,if_pos hk]; rfl
    ·rw [if_neg (fun h=>hk h.1),if_neg hk]; rfl
   unfold pU pj
   rw [hs,List.foldl_cons,h0,hi]
   apply E5
   intro x hx
   split at hx
   ·rename_i h4
    have hl:gS (cK t eO).1.l=true:=by
     rw [V.fine_eq,h4.1] at hgf
     simp only [Int.reduceEq,if_false,if_true,ak] at hgf
     exact hgf.2
    exact mg hl hx
   ·cases hx
  ·have hs:said t=V.zero:=by unfold said; simp [h5]
   have e1:cK t eO=(V.zero,false):=vv h5
   have hi:iR V.zero eO= []:=by unfold iR; rw [qS]; rfl
   have hL:(if (cK t eO).1.kind=4/\t.good=true then (cK t eO).1.l else [])= []:=by rw [e1]; exact if_neg (fun h=>absurd h.1 (by decide))
   have h0:rV t= []:=by unfold rV; rw [hs,mL]; rfl
   unfold pU pj
   rw [hs,hi,hL,h0,List.foldl_cons,List.foldl_nil,List.foldl_nil]
   unfold jv
   rw [mL]; rfl
 ·have hs:said t=V.zero:=by unfold said; simp [hg]
  have hi:iR V.zero eO= []:=by unfold iR; rw [qS]; rfl
  have hL:(if (cK t eO).1.kind=4/\t.good=true then (cK t eO).1.l else [])= []:=if_neg (fun h=>hg h.2)
  have h0:rV t= []:=by unfold rV; rw [hs,mL]; rfl
  unfold pU pj
  rw [hs,hi,hL,h0,List.foldl_cons,List.foldl_nil,List.foldl_nil]
  unfold jv
  rw [mL]; rfl
theorem Vg (P S:List Bs) (msg:Bs):S.any (je (P.map C3) msg)=P.any (E0 msg S):=by
 have hn: ∀sig,lN aB [] msg sig=false:=fun sig=>ou (fun c=>by simp at c)
 rw [Bool.eq_iff_iff,ju,ju]
 constructor
 ·rintro ⟨g,hg,h⟩
  unfold je at h
  cases hb:gC g with
  | none=>rw [hb] at h; cases h
  | some sig=>
   rw [hb] at h
   simp only [List.any_map,ju,Function.comp] at h
   obtain ⟨p,hp,hv⟩:=h
   refine ⟨p,hp,?_⟩
   unfold C3 at hv
   cases hk:gC p with
   | none=>rw [hk] at hv; rw [show (none:Option (aw)).getD []= [] from rfl,hn] at hv; cases hv
   | some k=>
    rw [hk] at hv
    rw [uP hk,ju]
    exact ⟨g,hg,by unfold CU; rw [hb]; exact hv⟩
 ·rintro ⟨p,hp,h⟩
  cases hk:gC p with
  | none=>rw [Bc hk] at h; cases h
  | some k=>
   rw [uP hk,ju] at h
   obtain ⟨g,hg,hv⟩:=h
   refine ⟨g,hg,?_⟩
   unfold CU at hv
   unfold je
   cases hb:gC g with
   | none=>rw [hb] at hv; cases hv
   | some sig=>
    rw [hb] at hv
    simp only [List.any_map,ju,Function.comp]
    exact ⟨p,hp,by unfold C3; rw [hk]; exact hv⟩
theorem FG (m t:V):k9 m t (wQ (cx m).1)=tl m t:=by
 obtain ⟨h1,h2⟩:=vX m
 unfold k9 tl
 rw [h1]
 cases hb:(jX m).2.2 with
 | false=>rw [Bool.false_and,Bool.false_and]
 | true=>
  rw [hb] at h1
  obtain ⟨e1,e2,_,_⟩:=h2 h1
  rw [Bool.true_and,Bool.true_and,XE,Vg,QV e2,e1]
theorem NV (T:V): ∀s∈lR T,s.length<=T.sz:=by
 unfold lR
 have key: ∀(l:List Mem) (acc:List Bs),(∀s∈acc,s.length<=T.sz)->(∀y∈l,y.2.sz<=T.sz)->∀s∈l.foldl (fun acc y=>y.2.m.foldl stepT acc) acc,s.length<=T.sz:=fun l=>by
  induction l with
  | nil=>exact fun _ h _=>h
  | cons y l ih=>exact fun acc h hl=>ih _ (zP _ h (fun z hz=>by have:=gI hz; have:=y.2.sz_eq; have:=hl y (by simp); omega)) (fun z hz=>hl z (by simp [hz]))
 exact key _ _ (by simp) (fun y hy=>by have:=gI hy; have:=T.sz_eq; omega)
theorem NX (v:V) (k:Bs):(iT v k).1.length<=v.sz:=by
 unfold iT
 have h:=mU v k
 have h2:=(cK v k).1.sz_eq
 split <;> simp only [List.length_nil] <;> omega
theorem Sb (t:V): ∀s∈pj t,s.length<=t.sz:=by
 unfold pj
 have key: ∀(l:List V) (acc:List Bs),(∀s∈acc,s.length<=t.sz)->(∀y∈l,y.sz<=t.sz)->∀s∈l.foldl nO acc,s.length<=t.sz:=fun l=>by
  induction l with
  | nil=>exact fun _ h _=>h
  | cons y l ih=>
   refine fun acc h hl=>ih _ ?_ (fun z hz=>hl z (by simp [hz]))
   intro s hs
   unfold nO at hs
   split at hs
   ·rcases lB.1 hs with k | k
    ·exact h s k
    ·simp only [List.mem_singleton] at k
     subst k
     exact Nat.le_trans (NX y fC) (hl y (by simp))
   ·exact h s hs
 refine key _ _ ?_ ?_
 ·intro s hs
  unfold rV at hs
  split at hs
  ·simp only [List.mem_singleton] at hs
   subst hs
   exact Nat.le_trans (yH _ _) (xf t)
  ·cases hs
 ·intro y hy
  have h:=mU t eO
  have h2:=(cK t eO).1.sz_eq
  split at hy
  ·have:=jB hy; omega
  ·cases hy
theorem CG {m t:V} (hb:m.sz < lim) (Gs:t.sz < lim) (hn:(kY (cf m).1 [cC]).nums uJ) :
  ∃b,cR 172 [m.enc,t.enc]=some (.bool b)/\cR 173 [m.enc,t.enc]=some (.bool b):=by
 refine ⟨tl m t,?_,?_⟩
 ·rw [←FG]
  have fb:=yO m
  obtain ⟨h1,h2⟩:=vX m
  by_cases hs:(cf m).2=true
  ·obtain ⟨e1,e2,e3,e4⟩:=h2 hs
   have hD:=PK e3 e2
   have hw:=LW (v:=kY (cf m).1 [cC]) (by rw [hD]; have:=zq (cf m).1 [cC] false; unfold lim at*; omega) hn
   have Jz:(wQ (cx m).1).length < 1099511000000:=by
    unfold wQ
    split
    ·rename_i AJ
     have hf:(mR (cx m).1 [cC] false).fine=true:=by unfold V.good at AJ; rw [ak] at AJ; exact AJ.1
     have h3:=V.wr_len _ hf
     have h4:=zq (cx m).1 [cC] false
     rw [←e1] at h3 h4 ⊢
     unfold lim at*; omega
    ·decide
   have hw': ∃e:Int,cR 190 [(kY (cf m).1 [cC]).enc]=some (.tup [.str (wQ (cx m).1), .int .i64 e]):=by
    rw [hw,hD,e1]; unfold wQ
    split
    ·exact ⟨0,rfl⟩
    ·exact ⟨1,rfl⟩
   obtain ⟨e,hw'⟩:=hw'
   exact yZ hb Gs Jz (fun _=>hw')
  ·have hp:k9 m t (wQ (cx m).1)=k9 m t []:=by
    unfold k9
    cases hc:(cf m).2 with
    | true=>exact absurd hc hs
    | false=>rw [Bool.false_and,Bool.false_and]
   rw [hp]
   exact yZ (msg:= []) (e:=0) hb Gs (by simp) (fun h=>absurd h hs)
 ·refine Oq hb Gs (fun p hp=> ?_) (fun g hg=> ?_)
  ·have:=Sb t p hp; omega
  ·have h1:=NV _ g hg
   have h2:=mU (cx m).1 cC
   have h3:=sk m
   omega
def B8Fa:=J @KQ.eq_1 (J @Ez.eq_1 (J @NB.eq_1 (@F176.eq_1)))
def pr (seed:UInt8):Bs:=kB (gu aB (db seed))
def za:V:=mapOf [(fC,eV [65,65,65,65])]
def wa (seed:UInt8) (n:Nat):List V:=List.replicate n za ++ [mapOf [(fC,eV (pr seed))]]
def pW (seed:UInt8) (n:Nat):V:=mapOf [(eO,V.mk 4 0 [] (wa seed n) [])]
theorem Bn (seed:UInt8) {n:Nat} (hn:n < 1000):cR 176 [.int .u8 (seed.toNat:Int), .int .i64 (n:Int)]=some (pW seed n).enc:=by
 have a3: ∀s,cR 18 [.str s]=some (eV s).enc:=IL
 have m1:cR 20 [.vsl [bp (fC,eV [65,65,65,65])] none]=some za.enc:=v8 [(fC,eV [65,65,65,65])] (by simp)
 have m2:cR 20 [.vsl [bp (fC,eV (pr seed))] none]=some (mapOf [(fC,eV (pr seed))]).enc:=v8 [(fC,eV (pr seed))] (by simp)
 have m3:=r_List (wa seed n) (by rw [wa,aq,iB]; simp [lim]; omega)
 have m4:cR 20 [.vsl [bp (eO,V.mk 4 0 [] (wa seed n) [])] none]=some (pW seed n).enc:=v8 [(eO,V.mk 4 0 [] (wa seed n) [])] (by simp)
 have hs:=RZ seed
 have hl:(db seed).length=32:=by simp [db]
 have hp:=R0 hl
 have AX:(gu aB (db seed)).length=32:=by rw [gu,aX]
 have hq:=r_put (gu aB (db seed)) aa
 rw [show kB (gu aB (db seed))=pr seed from rfl] at hq
 have qj:wa seed n=List.replicate n za ++ [mapOf [(fC,eV (pr seed))]]:=rfl
 generalize wa seed n=R at*
 generalize V.mk 4 0 [] R []=RV at*
 generalize pW seed n=Z at*
 generalize mapOf [(fC,eV (pr seed))]=O at*
 generalize za=A at*
 generalize pr seed=pt at*
 generalize gu aB (db seed)=P at*
 generalize db seed=sd at*
 refine aG (F:=F176) rfl ?_
 simp only [bN] at hs hp hq
 simp only [KQ,Ez,F176,ax,az,seval,VX,ae,hs,hp,hq,aC,bF]
 refine aP (S:=Nat×AV) (fun p=> [(1, .int .i64 (n:Int)),(4, .ptr 0 0),(5, .vsl (af P) none),(7,p.2),(8, .int .i64 (p.1:Int))]) (fun p=>n - p.1)
  (fun p σ=>Gr LV σ p.2 (List.replicate p.1 A)/\p.1<=n/\look σ.m 0=some (.own [.int .i64 0, .int .i64 0, .str [], .nils, .nils])/\1<=σ.next/\∀len sz c,p.2≠ .sl 0 0 len sz c) ?_ (0, .vsl [] (some 0)) _ ⟨Gr.nil0 LV _,by simp,rfl,aD _,by intro len sz c e; cases e⟩
 rintro b ⟨j,v⟩ σ ⟨hg,hj,h0,BJ,hv⟩ ih
 simp only at hg hj h0 BJ hv ih ⊢
 have da: ∀x:V,aF σ 5 80 v [.int .i64 x.kind, .int .i64 x.n, .str x.s, .vsl (x.l.map V.enc) none, .vsl (x.m.map bp) none] 1=some (.sl σ.next 0 (List.replicate j A ++ [x]).length 5 none,cZ LV σ v (List.replicate j A) [x]):=fun x=>by
  have:=hg.push (a:=x) (bytes:=80) aa (by simp [aY]; omega)
  rw [show (LV.f x).cells=_ from V.enc_cells x] at this
  exact this
 have jm: ∀x:V,lenOf (.vsl [x.enc] (some 1))=some 1:=fun _=>rfl
 have ll: ∀(σ':ag) (x:V),rowOf σ' 5 (.vsl [x.enc] (some 1))=some [.int .i64 x.kind, .int .i64 x.n, .str x.s, .vsl (x.l.map V.enc) none, .vsl (x.m.map bp) none]:=fun σ' x=>by rw [V.enc_eq]; rfl
 have BN: ∀x:V,look (cZ LV σ v (List.replicate j A) [x]).m 0=some (.own [.int .i64 0, .int .i64 0, .str [], .nils, .nils]):=fun x=>by
  have:=iu (m:= [x]) hg (b:=0) aa hv
  unfold ag.get at this
  rw [this]; exact h0
 have tW:=fun x:V=>hg.next (m:= [x]) (by simp)
 by_cases aR:j < n
 ·have aK:=pD aR
  have hwr:=cL aR aa
  simp only [B8Fa,az,seval,VX,ae,aK,hwr,a3,m1,da,jm,ll]
  have hrep:List.replicate (j+1) A=List.replicate j A ++ [A]:=List.replicate_succ'
  refine ih (j+1, .sl σ.next 0 (List.replicate j A ++ [A]).length 5 none) _ _ (by simp; omega) ⟨by simp only [hrep]; exact Gr.own (tW A),by simp; omega,BN A,by rw [gG]; omega,by intro len sz c e; simp only [AV.sl.injEq] at e; omega⟩ ?_
  simp only [az,seval]
 ·have aK:=pE (Nat.not_lt.1 aR)
  have hjn:j=n:=by omega
  subst hjn
  have hk:=BN O
  obtain ⟨di,_,_,_⟩:=tW O
  have fV:σ.next≠0:=by omega
  have hR:List.replicate j A ++ [O]=R:=qj.symm
  rw [hR] at di
  have happO:=da O
  rw [hR] at happO
  generalize cZ LV σ v (List.replicate j A) [O]=S at*
  have hfz:S.freeze1 σ.next=S.set σ.next (.frz (LV.cells R)):=by
   unfold ag.freeze1; rw [di]
  have Te:eE { next:=S.next,m:=(σ.next,jP.frz (LV.cells R)) ::S.m } (.sl σ.next 0 R.length 5 none) (some 0)=some (.vsl (R.map V.enc) none):=QO (L:=LV) (by
   unfold ag.get; simp [look])
  have hk2:look ((σ.next,jP.frz (LV.cells R)) ::S.m) 0=some (.own [.int .i64 0, .int .i64 0, .str [], .nils, .nils]):=by
   simp only [look]; rw [if_neg fV]; exact hk
  simp only [B8Fa,az,seval,T9,@K3,@FL,@BS,@zM,@MI,hfz,Te,VX,ae,aK,a3,m2,m3,m4,hq,happO,jm,ll,aC,bF,hk,hk2]
  done
def oK:V:=V.mk 5 0 [] [] [(fC,eV [65,65,65,65])]
def mC (p:Bs) (n:Nat):V:=V.mk 5 0 [] [] [(eO,V.mk 4 0 [] (List.replicate n oK ++ [V.mk 5 0 [] [] [(fC,eV p)]]) [])]
theorem IP (seed:UInt8) (n:Nat):pW seed n=mC (pr seed) n:=by
 unfold pW mC wa
 rw [show za=oK by kernel_rfl,show mapOf [(fC,eV (pr seed))]=V.mk 5 0 [] [] [(fC,eV (pr seed))] by kernel_rfl]
 generalize List.replicate n oK ++ [V.mk 5 0 [] [] [(fC,eV (pr seed))]]=l
 kernel_rfl
theorem qV {s:Bs} (h:vu s=true):(eV s).fine=true:=by
 rw [eV,V.fine,if_neg (by decide),if_neg (by decide),if_neg (by decide),if_pos rfl,h]; rfl
theorem mV {m:List Mem} (h:iN none m=true):(V.mk 5 0 [] [] m).fine=true:=by
 rw [V.fine,if_neg (by decide),if_neg (by decide),if_neg (by decide),if_neg (by decide),if_neg (by decide),if_pos rfl,h]; rfl
theorem Zi {l:List V} (h:gS l=true):(V.mk 4 0 [] l []).fine=true:=by
 rw [V.fine,if_neg (by decide),if_neg (by decide),if_neg (by decide),if_neg (by decide),if_pos rfl,h]; rfl
theorem BZ: ∀ {a b:List V},gS a=true->gS b=true->gS (a ++b)=true
 | [],_,_,h=>h
 | x ::a,b,h,k=>by
  rw [gS,ak] at h
  rw [List.cons_append,gS,h.1,BZ h.2 k]; rfl
theorem TY {p:Bs} (h:vu p=true) (n:Nat):(mC p n).fine=true:=by
 have k1:vu fC=true:=by kernel_rfl
 have k2:vu eO=true:=by kernel_rfl
 have ho:oK.fine=true:=by kernel_rfl
 have hr: ∀n,gS (List.replicate n oK)=true:=by
  intro n
  induction n with
  | zero=>rfl
  | succ n ih=>rw [List.replicate_succ,gS,ho,ih]; rfl
 have hx:(V.mk 5 0 [] [] [(fC,eV p)]).fine=true:=mV (by rw [dX,k1,qV h]; rfl)
 unfold mC
 exact mV (by rw [dX,k2,Zi (BZ (hr n) (by rw [gS,hx]; rfl))]; rfl)
theorem Zt (p:Bs) {n:Nat} (h:n < 6):decide ((mC p n).dep<=50)=true:=by
 rcases (show n=0∨n=1∨n=2∨n=3∨n=4∨n=5 by omega) with rfl | rfl | rfl | rfl | rfl | rfl <;> kernel_rfl
theorem Rc {p:Bs} (h:vu p=true) {n:Nat} (hn:n < 6):said (mC p n)=mC p n:=by
 have g:(mC p n).good=true:=by rw [V.good,TY h,Zt p hn]; rfl
 rw [said,g]; rfl
theorem Sa {p:Bs} (h:vu p=true) {k:aw} (hk:gC p=some k) {n:Nat} (hn:n < 6):pU (mC p n)=(List.replicate n [0,0,0] ++ [k]).take 4:=by
 rw [pU,Rc h hn]
 have e1:bR (mC p n) fC=([],false):=by kernel_rfl
 have e2:iR (mC p n) eO=List.replicate n oK ++ [V.mk 5 0 [] [] [(fC,eV p)]]:=by kernel_rfl
 have e3:bR oK fC=([65,65,65,65],true):=by kernel_rfl
 have e4:bR (V.mk 5 0 [] [] [(fC,eV p)]) fC=(p,true):=by kernel_rfl
 have e5:gC [65,65,65,65]=some [0,0,0]:=by kernel_rfl
 have s1: ∀acc,jv acc (mC p n)=acc:=fun acc=>by rw [jv,e1,if_neg (by simp)]
 have s2: ∀acc,jv acc oK=if acc.length < 4 then acc ++ [[0,0,0]] else acc:=fun acc=>by
  rw [jv,Pc,e3,e5]; simp
 have s3: ∀acc,jv acc (V.mk 5 0 [] [] [(fC,eV p)])=if acc.length < 4 then acc ++ [k] else acc:=fun acc=>by
  rw [jv,Pc,e4,hk]; simp
 rw [e2,List.foldl_cons,s1]
 rcases (show n=0∨n=1∨n=2∨n=3∨n=4∨n=5 by omega) with rfl | rfl | rfl | rfl | rfl | rfl <;> simp [List.replicate,s2,s3]
end Go.Ab
