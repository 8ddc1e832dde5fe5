/- What functions of the program, and of the library, answer. Conditions: none. -/
import Derived.Test.YtgfeimceppggcaaGreatDoorLaw8
import Derived.Test.YtgfeimceppggcaaGreatDoorLaw11
import Derived.Test.YtgfeimceppggcaaGreatDoorLaw10
import Derived.Test.YtgfeimceppggcaaGreatDoorLaw9
set_option linter.unusedVariables false
set_option linter.unusedSimpArgs false
set_option linter.defProp false
set_option linter.unnecessarySimpa false
namespace Go.Ab
set_option maxRecDepth 100000
set_option maxHeartbeats 1000000
def Zk:=J @IW.eq_1 (J @C6.eq_1 (J @Lo.eq_1 (@Zb.eq_1)))
def I4:=J @C4.eq_1 (J @xj.eq_1 (J @C5.eq_1 (J @xi.eq_1 (J @Ln.eq_1 (@TY.eq_1)))))
def T7:=J @C4.eq_1 (J @xj.eq_1 (J @C5.eq_1 (J @xi.eq_1 (@TY.eq_1))))
def B1Ff:= @F219.eq_1
theorem Gl:((List.range 64).all fun j=>WS ((dj cF (run cF gU 300) (.fn 167 [] []) [H6, .int .u8 j] .empty).bind (fun x=>rbE x.2 x.1)) (Jv j))=true:=by kernel_rfl
theorem Vl {j:Nat} (h:j < 64):cR 167 [H6, .int .u8 j]=some (.int .u8 (Jv j)):=
 cQ 300 (Kd (bj.1 Gl j (List.mem_range.2 h)))
def Oa (c:Nat):Nat->Nat->Nat
 | 0,_=>64
 | n+1,j=>if Jv j=c then j else Oa c n (j+1)
def jk (c:UInt8):Nat:=Oa c.toNat 64 0
theorem Qh (c:Nat): ∀n j:Nat,j+n=64->Oa c n j<=64
 | 0,j,h=>aE _
 | n+1,j,h=>by
  unfold Oa
  split
  ·omega
  ·exact Qh c n (j+1) aa
theorem J1 (c:UInt8):jk c<=64:=Qh _ 64 0 rfl
theorem Qf {c j:Nat} (h:Jv j=c) (hj:j < 64):Oa c (64 - j) j=j:=by
 obtain ⟨n,hn⟩ : ∃n,64 - j=n+1:=⟨63 - j,by omega⟩
 rw [hn]; unfold Oa; rw [if_pos h]
theorem J2 {c j:Nat} (h: ¬Jv j=c) (hj:j < 64):Oa c (64 - j) j=Oa c (64 - (j+1)) (j+1):=by
 obtain ⟨n,hn⟩ : ∃n,64 - j=n+1:=⟨63 - j,by omega⟩
 rw [hn,show 64 - (j+1)=n by omega]
 show (if Jv j=c then j else Oa c n (j+1))=_
 rw [if_neg h]
theorem Qg {c j:Nat} (hj:64<=j):Oa c (64 - j) j=64:=by rw [show 64 - j=0 by omega]; rfl
theorem Pu (c:UInt8):cR 163 [H6, .int .u8 c.toNat]=some (.int .u8 (jk c)):=by
 refine aC (F:=Zb) rfl ?_
 unfold H6
 simp only [IW,C6,Zb,ay,ax,seval]
 refine dC (S:=Nat) (fun j=> [(1, .int .u8 c.toNat),(2, .vptr [.int .u8 43, .int .u8 47] 0),(5, .int .u8 (j:Int))]) (fun _=> .empty) (fun j=>64 - j) (fun j=>Oa c.toNat (64 - j) j=jk c) ?_ 0 rfl
 intro b j hj ih
 by_cases aN:j < 64
 ·have bD:=Vl aN
  unfold H6 at bD
  have aA:decide ((j:Int) < 64)=true:=by simp; omega
  have hw:=wsucc8 aN
  simp only [Zk,ax,seval,ae,aA,bD]
  by_cases hs:Jv j=c.toNat
  ·have hb:((Jv j:Int) == (c.toNat:Int))=true:=by simp [hs]
   simp only [Zk,ax,seval,ae,hb]
   rw [←hj,Qf hs aN]
  ·have hb:((Jv j:Int) == (c.toNat:Int))=false:=by simp; omega
   simp only [Zk,ax,seval,ae,hb,hw]
   exact ih (j+1) _ _ aa (by rw [←J2 hs aN]; exact hj) rfl rfl
 ·have aA:decide ((j:Int) < 64)=false:=by simp; omega
  simp only [Zk,ax,seval,aA]
  rw [←hj,Qg aa]; rfl
def gx:Nat->Nat->List Nat->Option (aG)
 | n,c, []=>if n < 6/\c=0 then some [] else none
 | n,c,v ::vs=>if v < 64 then (if 2<=n then (gx (n - 2) ((c*64+v) % 2 ^ (n - 2)) vs).map (UInt8.ofNat ((c*64+v) / 2 ^ (n - 2)) :: ·) else gx (n+6) (c*64+v) vs) else none
def iN (s:Bs):Option (aG):=gx 0 0 (s.map jk)
def pA:Option (aG)->AV
 | some l=> .tup [cx l, .int .i64 0]
 | none=> .tup [.vsl [] none, .int .i64 2]
theorem O0 (m:Nat) {v:Nat} (hv:v < 64) :
  ∃l':Nat,IntKind.wrap .u64 ((BitVec.ofInt (IntKind.bits .u64) (sh6 (m:Int)) ||| BitVec.ofInt (IntKind.bits .u64) (IntKind.wrap .u64 (v:Int))).toNat:Int)=(l':Int)/\l' % 4096=m % 64*64+v:=by
 refine ⟨m*64 % 2 ^ 64+v,?_,by omega⟩
 have e1:sh6 (m:Int)=((m*64 % 2 ^ 64:Nat):Int):=by
  simp [sh6,IntKind.wrap,IntKind.bits,IntKind.signed]
 have e2:(IntKind.wrap .u64 (v:Int))=((v:Nat):Int):=by
  simp [IntKind.wrap,IntKind.bits,IntKind.signed]; omega
 rw [e1,e2]
 have e3:(BitVec.ofInt (IntKind.bits .u64) ((m*64 % 2 ^ 64:Nat):Int) ||| BitVec.ofInt (IntKind.bits .u64) ((v:Nat):Int)).toNat=(m*64 % 2 ^ 64) ||| v:=by
  show (BitVec.ofInt 64 ((m*64 % 2 ^ 64:Nat):Int) ||| BitVec.ofInt 64 ((v:Nat):Int)).toNat=_
  rw [BitVec.toNat_or,BitVec.ofInt_natCast,BitVec.ofInt_natCast,BitVec.toNat_ofNat,BitVec.toNat_ofNat,Nat.mod_mod,aO (show v < 2 ^ 64 by omega)]
 rw [e3]
 have e4:((m*64 % 2 ^ 64) ||| v)=m*64 % 2 ^ 64+v:=by
  rw [show m*64 % 2 ^ 64=(m % 2 ^ 58) <<< 6 by rw [Nat.shiftLeft_eq]; omega,←Nat.shiftLeft_add_eq_or_of_lt aa]
 rw [e4]
 simp only [IntKind.wrap,IntKind.bits,IntKind.signed,aX,if_false,Bool.false_and]
 omega
theorem OZ (m k:Nat) (hk:k<=64):U0 (m:Int) k=((m / 2 ^ k:Nat):Int):=by
 unfold U0
 rw [show min ((k:Nat):Int).toNat (IntKind.bits .u64)=k from by rw [Int.toNat_natCast]; exact Nat.min_eq_left hk,Int.fdiv_eq_ediv_of_nonneg _ (by exact Int.le_of_lt (Int.pow_pos (by decide)))]
 simp
theorem Sx {α:Type} {l:List α} {j:Nat} {c:α} (h:l[j]? =some c):l.drop j=c ::l.drop (j+1):=by
 obtain ⟨h1,h2⟩:=bA.1 h
 rw [List.drop_eq_getElem_cons h1,h2]
structure HSt where
 j:Nat
 ob:aD
 out:aG
 left:Nat
 n:Nat
def fH:AV:= .fn 163 [H6] []
theorem callH (c:UInt8) (σ:ag):fZ cF gU false fH [.int .u8 c.toNat] σ=some (.int .u8 (jk c),σ):=
 gl (args':= [.int .u8 c.toNat]) rfl rfl (by have h:=Pu c; unfold cR at h; exact h) rfl
def HInv (s:Bs) (t:HSt) (σ:ag):Prop:=t.j<=s.length/\(t.n=0∨t.n=2∨t.n=4∨t.n=6)/\t.out.length<=t.j/\nL σ 1 t.ob t.out.length (af t.out)/\
 (gx t.n (t.left % 2 ^ t.n) ((s.drop t.j).map jk)).map (t.out ++ ·)=iN s
def NY (s:Bs) (r:AV) (σ:ag):Prop:=rbE σ r=some (pA (iN s))
theorem E8 {s:Bs} {σ:ag} (h:iN s=none):NY s (.tup [.nils, .int .i64 2]) σ:=by rw [NY,h]; rfl
theorem xJ {σ:ag} {ob:aD} {l:aG} {e:Int} (h:nL σ 1 ob l.length (af l)):rbE σ (.tup [iA 1 ob l.length, .int .i64 e])=some (.tup [cx l, .int .i64 e]):=by
 cases ob with
 | none=>
  obtain ⟨h1,h2⟩:=h
  have:l= []:=dW h1
  subst this; rfl
 | some b=>
  obtain ⟨h1,h2,h3,h4⟩:=h
  have hb:look σ.m b=some (.own (af l)):=h1
  have k1:rb σ 23 (iA 1 (some b) l.length)=some (cx l):=by
   show rb σ 23 (.sl b 0 l.length 1 _)=_
   rw [show 23=22+1 from rfl,nX hb (by rw [aU]; omega) (aK _) (nh _),List.drop_zero,aQ (by rw [aU]; omega)]
  have k2:rb σ 23 (.int .i64 e)=some (.int .i64 e):=cj rfl
  have nc:(AV.tup [iA 1 (some b) l.length, .int .i64 e]).closed=false:=rfl
  have e1:rb σ bK (.tup [iA 1 (some b) l.length, .int .i64 e])=some (.tup [cx l, .int .i64 e]):=by
   show rb σ (23+1) _=_
   rw [rb,if_neg (by rw [nc]; decide)]
   simp only [dt,k1,k2]
  unfold rbE
  rw [e1]
  simp only [Option.map_some,AV.er,dD,bS,gM]
theorem Xs (s:Bs) (hb:s.length < lim): ∃r σ',cf cF gU (.fn 164 [] []) [.str s,fH] .empty=some (r,σ')/\NY s r σ':=by
 unfold lim at hb
 refine Fx (F:=TY) rfl (first:= []) (caps:= []) ?_
 simp only [C4,xj,xi,TY,ay,ax,seval,VX]
 refine aL (S:=HSt) (fun t=> [(0, .str s),(1,fH),(6,iA 1 t.ob t.out.length),(7, .int .u64 (t.left:Int)),(8, .int .u64 (t.n:Int)),(12, .int .i64 s.length),(13, .int .i64 (t.j:Int))]) (fun t=>s.length - t.j) (HInv s) ?_ ⟨0,none, [],0,0⟩ .empty ⟨by simp, .inl rfl,by simp,⟨rfl,rfl⟩,by simp [iN]⟩
 rintro b ⟨j,ob,out,left,n⟩ σ ⟨h1,h2,h3,h4,h6⟩ ih
 simp only at h1 h2 h3 h4 h6
 by_cases aN:j < s.length
 ·obtain ⟨c,hc⟩:=bM aN
  have aA:=lS aN
  have fa:=lK hc
  have bD:=callH c σ
  have hw:=cd aN aa
  have hle:=J1 c
  have EZ:s.drop j=c ::s.drop (j+1):=Sx hc
  rw [EZ,List.map_cons] at h6
  by_cases hv:jk c=64
  ·have he:((jk c:Int) == 64)=true:=by simp [hv]
   have hbad:iN s=none:=by rw [←h6,gx,if_neg aa]; rfl
   simp only [T7,ax,seval,VX,aA,fa,bD,he]
   exact ⟨_,rfl,E8 hbad⟩
  ·have he:((jk c:Int) == 64)=false:=by simp; omega
   obtain ⟨l',zC,hl6⟩:=O0 left (v:=jk c) aa
   have hw8:IntKind.wrap .u64 ((n:Int)+6)=((n+6:Nat):Int):=by
    have:n<=6:=by omega
    simp [IntKind.wrap,IntKind.bits,IntKind.signed]; omega
   rw [gx,if_pos aa] at h6
   simp only [T7,ax,seval,VX,aA,fa,bD,he,shl_6,zC,hw8,hw]
   by_cases h8:2<=n
   ·rw [if_pos h8] at h6
    have hg:decide (((n+6:Nat):Int)≥8)=true:=by simp; omega
    have hw9:IntKind.wrap .u64 (((n+6:Nat):Int) - 8)=((n - 2:Nat):Int):=by
     have:n<=6:=by omega
     simp [IntKind.wrap,IntKind.bits,IntKind.signed]; omega
    have hz:IntKind.wrap .u8 (U0 l' (n - 2))=((UInt8.ofNat (((left % 2 ^ n)*64+jk c) / 2 ^ (n - 2))).toNat:Int):=by
     rw [dF,OZ _ _ aa,kY]
     rcases (by omega:n=2∨n=4∨n=6) with hn | hn | hn <;> subst hn <;> simp only [Nat.reduceSub,Nat.reducePow] <;> omega
    have rJ:l' % 2 ^ (n - 2)=((left % 2 ^ n)*64+jk c) % 2 ^ (n - 2):=by
     rcases (by omega:n=2∨n=4∨n=6) with hn | hn | hn <;> subst hn <;> simp only [Nat.reduceSub,Nat.reducePow] <;> omega
    obtain ⟨σ2,dI,yn⟩:=MA (c:=UInt8.ofNat (((left % 2 ^ n)*64+jk c) / 2 ^ (n - 2))) h4 aa
    generalize UInt8.ofNat (((left % 2 ^ n)*64+jk c) / 2 ^ (n - 2))=z at*
    have jc:lenOf (.vsl [AV.int .u8 (z.toNat:Int)] (some 1))=some 1:=rfl
    have nN:rowOf σ 1 (.vsl [AV.int .u8 (z.toNat:Int)] (some 1))=some [AV.int .u8 (z.toNat:Int)]:=rfl
    simp only [T7,ax,seval,VX,hg,hw9,hw,shr_N,hz,jc,nN,dI]
    refine ih ⟨j+1,some σ.next,out ++ [z],l',n - 2⟩ _ _ (by simp only; omega) ⟨aN,by simp only; omega,by simp only [az,List.length_cons,List.length_nil]; omega,yn,?_⟩ rfl
    simp only
    rw [rJ,←h6,Option.map_map]
    congr 1
    funext x
    simp
   ·rw [if_neg h8] at h6
    have Z8:n=0:=by omega
    subst Z8
    have hg:decide (((0+6:Nat):Int)≥8)=false:=rfl
    simp only [T7,ax,seval,VX,hg,hw]
    refine ih ⟨j+1,ob,out,l',6⟩ _ _ (by simp only; omega) ⟨aN, .inr (.inr (.inr rfl)),by simp only; omega,h4,?_⟩ rfl
    simp only
    have kU:l' % 2 ^ 6=left % 2 ^ 0*64+jk c:=by simp only [Nat.reducePow]; omega
    rw [kU]; exact h6
 ·have aA:=lT (Nat.not_lt.1 aN)
  have hj:j=s.length:=by omega
  subst hj
  rw [List.drop_length,List.map_nil,gx] at h6
  simp only [T7,ax,seval,VX,aA]
  rcases h2 with hn | hn | hn | hn <;> subst hn
  ·have hg:decide (((0:Nat):Int)≥6)=false:=rfl
   have hs:aY .shl .u64 1 ((0:Nat):Int)=some (.int .u64 1):=rfl
   have oS:aY .shl .u64 1 0=some (.int .u64 1):=rfl
   have hm:IntKind.wrap .u64 0=0:=rfl
   have hd:(left:Int) % 2 ^ 0=((left % 1:Nat):Int):=by simp
   have ha:IntKind.wrap .u64 ((BitVec.ofInt (IntKind.bits .u64) (left:Int) &&& BitVec.ofInt (IntKind.bits .u64) 0).toNat:Int)=((left % 1:Nat):Int):=(Cd (Int.natCast_nonneg left) 0 (by decide)).trans hd
   by_cases hz:left % 1=0
   ·have fX:(((left % 1:Nat):Int) != 0)=false:=by rw [hz]; rfl
    rw [if_pos ⟨by decide,hz⟩] at h6
    simp only [I4,ax,seval,VX,hg,hs,oS,hm,ha,fX]
    refine ⟨_,rfl,?_⟩
    rw [NY,←h6]
    simp only [Option.map_some,bm,pA]
    exact xJ h4
   ·have fX:(((left % 1:Nat):Int) != 0)=true:=by rw [bne_iff_ne]; omega
    rw [if_neg (fun c=>hz c.2)] at h6
    simp only [I4,ax,seval,VX,hg,hs,oS,hm,ha,fX]
    exact ⟨_,rfl,E8 h6.symm⟩
  ·have hg:decide (((2:Nat):Int)≥6)=false:=rfl
   have hs:aY .shl .u64 1 ((2:Nat):Int)=some (.int .u64 4):=rfl
   have oS:aY .shl .u64 1 2=some (.int .u64 4):=rfl
   have hm:IntKind.wrap .u64 3=3:=rfl
   have hd:(left:Int) % 2 ^ 2=((left % 4:Nat):Int):=by simp
   have ha:IntKind.wrap .u64 ((BitVec.ofInt (IntKind.bits .u64) (left:Int) &&& BitVec.ofInt (IntKind.bits .u64) 3).toNat:Int)=((left % 4:Nat):Int):=(Cd (Int.natCast_nonneg left) 2 (by decide)).trans hd
   by_cases hz:left % 4=0
   ·have fX:(((left % 4:Nat):Int) != 0)=false:=by rw [hz]; rfl
    rw [if_pos ⟨by decide,hz⟩] at h6
    simp only [I4,ax,seval,VX,hg,hs,oS,hm,ha,fX]
    refine ⟨_,rfl,?_⟩
    rw [NY,←h6]
    simp only [Option.map_some,bm,pA]
    exact xJ h4
   ·have fX:(((left % 4:Nat):Int) != 0)=true:=by rw [bne_iff_ne]; omega
    rw [if_neg (fun c=>hz c.2)] at h6
    simp only [I4,ax,seval,VX,hg,hs,oS,hm,ha,fX]
    exact ⟨_,rfl,E8 h6.symm⟩
  ·have hg:decide (((4:Nat):Int)≥6)=false:=rfl
   have hs:aY .shl .u64 1 ((4:Nat):Int)=some (.int .u64 16):=rfl
   have oS:aY .shl .u64 1 4=some (.int .u64 16):=rfl
   have hm:IntKind.wrap .u64 15=15:=rfl
   have hd:(left:Int) % 2 ^ 4=((left % 16:Nat):Int):=by simp
   have ha:IntKind.wrap .u64 ((BitVec.ofInt (IntKind.bits .u64) (left:Int) &&& BitVec.ofInt (IntKind.bits .u64) 15).toNat:Int)=((left % 16:Nat):Int):=(Cd (Int.natCast_nonneg left) 4 (by decide)).trans hd
   by_cases hz:left % 16=0
   ·have fX:(((left % 16:Nat):Int) != 0)=false:=by rw [hz]; rfl
    rw [if_pos ⟨by decide,hz⟩] at h6
    simp only [I4,ax,seval,VX,hg,hs,oS,hm,ha,fX]
    refine ⟨_,rfl,?_⟩
    rw [NY,←h6]
    simp only [Option.map_some,bm,pA]
    exact xJ h4
   ·have fX:(((left % 16:Nat):Int) != 0)=true:=by rw [bne_iff_ne]; omega
    rw [if_neg (fun c=>hz c.2)] at h6
    simp only [I4,ax,seval,VX,hg,hs,oS,hm,ha,fX]
    exact ⟨_,rfl,E8 h6.symm⟩
  ·have hg:decide (((6:Nat):Int)≥6)=true:=rfl
   rw [if_neg aa] at h6
   simp only [I4,ax,seval,VX,hg]
   exact ⟨_,rfl,E8 h6.symm⟩
theorem Pz (s:Bs) (hb:s.length < lim):cR 164 [.str s,fH]=some (pA (iN s)):=by
 obtain ⟨r,σ',h1,h2⟩:=Xs s hb
 show dO cF gU (.fn 164 [] []) _=_
 unfold dO
 rw [h1]; exact h2
theorem PB (s:Bs) (hb:s.length < lim):cR 219 [.str s]=some (pA (iN s)):=by
 have h1:=Pz s hb
 have hg:gU 4= [.int .u8 43, .int .u8 47]:=rfl
 simp only [fH,H6] at h1
 refine aC (F:=F219) rfl ?_
 cases h:iN s with
 | none=>
  rw [h] at h1
  simp only [pA] at h1 ⊢
  simp only [B1Ff,ax,seval,VX,ae,hg,h1]
 | some l=>
  rw [h] at h1
  simp only [pA,cx] at h1 ⊢
  simp only [B1Ff,ax,seval,VX,ae,hg,h1,aK,bS]
def U2Fa:=J @xm.eq_1 (J @xl.eq_1 (J @xk.eq_1 (@N5.eq_1)))
def U2Fb:=J @xm.eq_1 (J @xl.eq_1 (@N5.eq_1))
abbrev rN:ai:= [.str [], .int .i64 0, .int .i64 0, .str [], .nils, .nils]
structure Zi (l:List Mem) (p:Mem->Bool) (b0:Nat) (σ0:ag) (j:Nat) (kept iC:List Mem) (σ:ag):Prop where
 row:look σ.m b0=some (.own (dL.cells (kept ++iC ++l.drop j)))
 len:kept.length+iC.length=j
 le:j<=l.length
 kept_eq:kept=(l.take j).filter fun x=> !p x
 nx:σ0.next<=σ.next
 old: ∀b,b < σ0.next->b≠b0->σ.get b=σ0.get b
 b0:b0 < σ0.next
theorem Gi {b n i:Nat} (h:i<=n):slice3 6 (.sl b 0 n 6 none) (some (some (i:Int))) (some none) (some none)=some (.sl b (i*6) (n - i) 6 none):=by
 have hb:bounds n (some (i:Int)) none=some (i,n):=by simp [bounds]; omega
 simp only [slice3,dd,hb,if_true,Option.map_none,Nat.zero_add]
theorem Gj {b n i:Nat} (h:i<=n):slice3 6 (.sl b 0 n 6 none) (some none) (some (some (i:Int))) (some none)=some (.sl b 0 i 6 none):=by
 have hb:bounds n none (some (i:Int))=some (0,i):=by simp [bounds]; omega
 simp only [slice3,dd,hb,if_true,Option.map_none,Nat.zero_add,Nat.zero_mul,Nat.sub_zero]
theorem QE {b n j:Nat} {σ:ag} (h:j < n):idxOf 6 none (.sl b 0 n 6 none) (.int .i64 (j:Int))=some (.ptr b (j*6)):=by
 have h2:((j:Int) < (n:Int)):=by omega
 simp [Go.Ab.idxOf,h2]
theorem Nz (kept iC D:List Mem) (x:Mem): ∃Kc,splice (dL.cells (kept ++iC ++x ::D)) (kept.length*6) (bx x).cells=dL.cells ((kept ++ [x]) ++Kc ++D)/\Kc.length=iC.length:=by
 cases iC with
 | nil=>
  refine ⟨[],?_,rfl⟩
  have:splice (dL.cells (kept ++x ::D) ++ []) (kept.length*6) (bx x).cells=dL.cells (kept ++x ::D) ++ []:=xE dL kept D x x []
  simpa using this
 | cons y iC=>
  refine ⟨iC ++ [x],?_,by simp⟩
  have:splice (dL.cells (kept ++y ::(iC ++x ::D)) ++ []) (kept.length*6) (bx x).cells=dL.cells (kept ++x ::(iC ++x ::D)) ++ []:=xE dL kept (iC ++x ::D) y x []
  simpa using this
theorem Sz {l:List Mem} {f:AV} {p:Mem->Bool} {b0:Nat} {σ0:ag} {k:List Item} {Q:Fr->ag->Prop} (hf:f.closed=true) (mU:f.er=f) (hlen:l.length < lim) (hp: ∀e∈l,dO cF gU f [bx e]=some (.bool (p e)))
  {j:Nat} {kept iC:List Mem} {σ:ag} (h:Zi l p b0 σ0 j kept iC σ)
  (hk: ∀(kept iC:List Mem) (σ:ag) (fr:Fr),Zi l p b0 σ0 l.length kept iC σ->(look fr 0).getD .undef= .sl b0 0 l.length 6 none->(look fr 5).getD .undef= .int .i64 (kept.length:Int)->Ex cF gU k fr σ Q) :
  Ex cF gU (.code xk :: .inLoop [0,1,5,6] xk :: .inBlock 0 ::k) [(0, .sl b0 0 l.length 6 none),(1,f),(5, .int .i64 (kept.length:Int)),(6, .int .i64 (j:Int))] σ Q:=by
 unfold lim at hlen
 refine aL (S:=Nat×List Mem×List Mem) (fun s=> [(0, .sl b0 0 l.length 6 none),(1,f),(5, .int .i64 (s.2.1.length:Int)),(6, .int .i64 (s.1:Int))]) (fun s=>l.length - s.1)
  (fun s σ=>Zi l p b0 σ0 s.1 s.2.1 s.2.2 σ) ?_ (j,kept,iC) σ h
 rintro b ⟨j,kept,iC⟩ σ h ih
 simp only at h ih ⊢
 have E5:=h.b0
 have ES:=h.nx
 have fX:(σ.next=b0)=False:=by simp; omega
 by_cases aN:j < l.length
 ·obtain ⟨x,hx⟩:=bM aN
  have aA:=lS aN
  have j9:=h.row
  have Ue:=hp x (bH hx)
  rw [drop_cons hx] at j9
  have Xc:kept.length<=j:=by have:=h.len; omega
  have bQ:=QE (b:=b0) (σ:=σ) aN
  have lB:=QE (b:=b0) (n:=l.length) (σ:=σ) (j:=kept.length) aa
  have Z6:dG (dL.cells (kept ++iC ++x ::l.drop (j+1))) (j*6) (some 6)=some (bx x):=by
   have:=O9 dL (by simp [dL]) (kept ++iC) (l.drop (j+1)) x []
   have hl:(kept ++iC).length=j:=by simp; exact h.len
   rw [hl] at this
   simpa [dL] using this
  have hw:=cd aN aa
  have vM:=cd (j:=kept.length) (n:=l.length) aa aa
  obtain ⟨Kc,hspl,Xe⟩:=Nz kept iC (l.drop (j+1)) x
  have gH:(bx x).cells.length=6:=by simp [bJ]
  have hle:kept.length*6+6<=(dL.cells (kept ++iC ++x ::l.drop (j+1))).length:=by
   rw [dL.cells_len]
   have:(kept ++iC ++x ::l.drop (j+1)).length=l.length:=by simp; have:=h.len; omega
   rw [this]
   show kept.length*6+6<=l.length*6
   omega
  have dx:(bx x).cells.all AV.one=true:=dL.one x
  have tq:(l.take (j+1)).filter (fun x=> !p x)=kept ++(if p x then [] else [x]):=by
   rw [List.take_add_one,hx,List.filter_append,h.kept_eq]
   cases hpx':p x <;> simp [hpx']
  have hzl:(6:Nat)<= [AV.str [],AV.int .i64 0,AV.int .i64 0,AV.str [],AV.nils,AV.nils].length:=by simp
  have hspl0:splice [AV.str [],AV.int .i64 0,AV.int .i64 0,AV.str [],AV.nils,AV.nils] 0 (bx x).cells=(bx x).cells:=by simp [splice,bJ]
  cases Ak:p x with
  | true=>
   rw [Ak] at Ue
   simp only [U2Fa,ax,seval,VX,ae,aA,bQ,j9,Z6,hf,mU,Ue,hw,fX]
   refine ih (j+1,kept,iC ++ [x]) _ _ (by simp; omega) ⟨?_,by have:=h.len; simp; omega,aN,?_,by show σ0.next<=σ.next+1; omega,?_,E5⟩ (by simp only [ax,seval])
   ·show look ((σ.next,_) ::(σ.next,_) ::σ.m) b0=_
    simp only [look,fX,if_false,j9]
    simp
   ·simp only [tq,Ak,if_true,bm]
   ·intro b hb Aq
    show look ((σ.next,_) ::(σ.next,_) ::σ.m) b=_
    have hnb:(σ.next=b)=False:=by simp; omega
    simp only [look,hnb,if_false]
    exact h.old b hb Aq
  | false=>
   rw [Ak] at Ue
   simp only [bJ] at hspl dx hle
   simp only [U2Fa,ax,seval,VX,ae,aA,bQ,lB,j9,Z6,hf,mU,Ue,hw,vM,fX,hspl,dx,hle]
   refine ih (j+1,kept ++ [x],Kc) _ _ (by simp; omega) ⟨?_,by have:=h.len; simp; omega,aN,?_,by show σ0.next<=σ.next+1; omega,?_,E5⟩ (by simp only [ax,seval,az])
   ·show look ((b0,_) ::(σ.next,_) ::(σ.next,_) ::σ.m) b0=_
    simp only [look,if_true]
    exact congrArg (fun c=>some (jS.own c)) hspl
   ·simp only [tq,Ak,aX,if_false]
   ·intro b hb Aq
    show look ((b0,_) ::(σ.next,_) ::(σ.next,_) ::σ.m) b=_
    have hnb:(σ.next=b)=False:=by simp; omega
    have hnb2:(b0=b)=False:=by simp; exact fun hh=>Aq hh.symm
    simp only [look,hnb,hnb2,if_false]
    exact h.old b hb Aq
 ·have aA:=lT (Nat.not_lt.1 aN)
  have hj:j=l.length:=by have:=h.le; omega
  simp only [U2Fa,ax,seval,aA]
  subst hj
  exact hk kept iC σ _ h (by simp only [ax,seval]) (by simp only [ax,seval])
theorem yD {α:Type} {p:α->Bool} {l:List α} {i:Nat} (h:l.findIdx? p=some i):bI p l 0=(i:Int):=by
 unfold bI; rw [List.drop_zero,h]; rfl
theorem BI {α:Type} {p:α->Bool} {l:List α} (h:l.findIdx? p=none):bI p l 0= -1:=by
 unfold bI; rw [List.drop_zero,h]
theorem SS (l:List Mem) (f:AV) (p:Mem->Bool) (hf:f.closed=true) (mU:f.er=f) (hlen:l.length < lim) (hp: ∀e∈l,dO cF gU f [bx e]=some (.bool (p e)))
  (σ:ag) (b0:Nat) (yn:σ.get b0=some (.own (dL.cells l))) (E5:b0 < σ.next) :
  ∃σ',cf cF gU (.fn 155 [] []) [.sl b0 0 l.length 6 none,f] σ=some (.sl b0 0 (l.filter fun x=> !p x).length 6 none,σ')/\(∃rest,σ'.get b0=some (.own (dL.cells (l.filter fun x=> !p x) ++rest)))/\σ.next<=σ'.next/\∀b,b < σ.next->b≠b0->σ'.get b=σ.get b:=by
 have hi:=D7 l f p hf mU (by unfold lim at hlen; unfold cJ; omega) hp
 have bD:fZ cF gU false (.fn 161 [] []) [.sl b0 0 l.length 6 none,f] σ=some (.int .i64 (bI p l 0),σ):=NK (L:=dL) (l:=l) (by simp [ag.cells,yn]) hf mU hi rfl
 have sL:=hlen
 unfold lim at sL
 suffices hh: ∃r σ',cf cF gU (.fn 155 [] []) [.sl b0 0 l.length 6 none,f] σ=some (r,σ')/\(r= .sl b0 0 (l.filter fun x=> !p x).length 6 none/\(∃rest,σ'.get b0=some (.own (dL.cells (l.filter fun x=> !p x) ++rest)))/\σ.next<=σ'.next/\∀b,b < σ.next->b≠b0->σ'.get b=σ.get b) by
  obtain ⟨r,σ',h1,rfl,h2⟩:=hh
  exact ⟨σ',h1,h2⟩
 refine Fx (F:=N5) rfl (first:= []) (caps:= []) ?_
 cases hq:l.findIdx? p with
 | none=>
  rw [BI hq] at bD
  have hall:l.filter (fun x=> !p x)=l:=by
   rw [List.findIdx?_eq_none_iff] at hq
   rw [List.filter_eq_self]
   intro x hx
   simp [hq x hx]
  simp only [U2Fb,ax,seval,bD]
  refine ⟨_,rfl,?_⟩
  rw [hall]
  exact ⟨rfl, [],by rw [bm]; exact yn⟩
 | some i=>
  rw [yD hq] at bD
  obtain ⟨hil,hpi,Xp⟩:=List.findIdx?_eq_some_iff_getElem.1 hq
  have hx:l[i]? =some l[i]:=bo hil
  have hne1:((i:Int) == -1)=false:=by simp
  have hw:=cd hil aa
  have hk0:(l.take (i+1)).filter (fun x=> !p x)=l.take i:=by
   rw [List.take_add_one,hx,List.filter_append]
   have h1:(l.take i).filter (fun x=> !p x)=l.take i:=by
    rw [List.filter_eq_self]
    intro x F1
    obtain ⟨j,hj,rfl⟩:=List.mem_iff_getElem.1 F1
    simp only [bE] at hj
    rw [List.getElem_take]
    have:=Xp j aa
    simp [this]
   rw [h1]; simp [hpi]
  have h0:Zi l p b0 σ (i+1) (l.take i) [l[i]] σ:=by
   refine ⟨?_,by simp; omega,hil,hk0.symm,aE _,fun _ _ _=>rfl,E5⟩
   have:l.take i ++ [l[i]] ++l.drop (i+1)=l:=by
    have e:l.take i ++ [l[i]]=l.take (i+1):=by rw [List.take_add_one,hx]; rfl
    rw [e]; exact ep (i+1) l
   rw [this]
   exact yn
  have Xc:(l.take i).length=i:=by simp; omega
  have aaa:=fun {k Q}=>Sz (k:=k) (Q:=Q) hf mU hlen hp h0
  rw [Xc] at aaa
  simp only [U2Fb,ay,ax,seval,bD,hne1,hw]
  refine aaa ?_
  intro kept iC σ' fr hI h0' h5'
  have j9:=hI.row
  rw [bn (aE _),bm] at j9
  have hkle:kept.length<=l.length:=by have:=hI.len; omega
  have vk:=Gi (b:=b0) hkle
  have oS:=Gj (b:=b0) hkle
  have hclr:oD σ' 6 rN (.sl b0 (kept.length*6) (l.length - kept.length) 6 none)=some (.tup [],σ'.set b0 (.own (dL.cells kept ++rep (l.length - kept.length) rN))):=by
   have hown':σ'.owned b0=some (dL.cells (kept ++iC)):=by
    have:σ'.get b0=some (.own (dL.cells (kept ++iC))):=j9
    simp [ag.owned,this]
   have gH:=dL.cells_len (kept ++iC)
   have Oi:=dL.cells_len kept
   have Xe:(kept ++iC).length=l.length:=by rw [az]; exact hI.len
   have eA:dL.sz=6:=rfl
   have hrl:(rep (l.length - kept.length) rN).length=(l.length - kept.length)*6:=by unfold rep; rw [gS]; rfl
   rw [Xe,eA] at gH
   rw [eA] at Oi
   unfold oD
   simp only [hown']
   rw [if_pos ⟨by trivial,by rfl,by omega,by rw [gH]; omega,by rfl⟩]
   have:splice (dL.cells (kept ++iC)) (kept.length*6) (rep (l.length - kept.length) rN)=dL.cells kept ++rep (l.length - kept.length) rN:=by
    unfold splice
    rw [fW.cells_append,←Oi,List.take_left,bn (by rw [az,hrl]; rw [fW.cells_append,az] at gH; omega),bm]
   rw [this]
  have QO: ∀L:List Nat,keep L fr=L.map fun t=>(t,fr.get t):=fun _=>rfl
  simp only [U2Fb,ax,seval,h0',h5',vk,oS,hclr]
  have hke:=hI.kept_eq
  rw [aQ (aE _)] at hke
  rw [←hke]
  refine ⟨_,rfl,rfl,⟨rep (l.length - kept.length) rN,rfl⟩,hI.nx,?_⟩
  intro b hb Aq
  rw [if_neg (fun hh=>Aq hh.symm)]
  exact hI.old b hb Aq
def U3Fc:= @F145.eq_1
theorem NO (c:aD) (σ:ag):nC cF gU .split (.fn 38 [] []) [.vsl [] c] σ=some (.vsl [] (some 0),σ):=by
 have E4:both cF gU (.fn 38 [] []) σ=true:=XT 100 (by kernel_rfl) (by kernel_rfl)
 simp only [nC,dP,if_true,E4]
theorem NN (x:Mem) (l:List Mem) (c:aD) (σ:ag) (hb:(x ::l).length < lim) :
  nC cF gU .split (.fn 38 [] []) [.vsl ((x ::l).map bx) c] σ=some (.sl σ.next 0 (x ::l).length 6 none,σ.alloc (dL.cells (x ::l))):=by
 unfold lim at hb
 have nN: ∀σ',rowOf σ' 6 (.vsl ((x ::l).map bx) c)=some (dL.cells (x ::l)):=fun σ'=>dL.rowOf σ' (x ::l) c
 have ha:aJ σ 6 96 (.vsl [] (some 0)) (dL.cells (x ::l)) (l.length+1)=some (.sl σ.next 0 (l.length+1) 6 none,σ.alloc (dL.cells (x ::l))):=
  app00 aa aa (by unfold bg; simp at hb; omega) (dL.cells_len (x ::l)) (dL.cells_one _) aa
 have hn:dP [.vsl ((x ::l).map bx) c]=false:=rfl
 simp only [nC,hn,aX,if_false]
 refine gy (F:=F38) rfl (first:= []) (caps:= []) ?_
 simp only [List.map_cons] at nN
 simp only [F38,ax,seval,VX,MR,nN,ha]
theorem NM (f:AV) (hf:f.closed=true) (mU:f.er=f) (σ:ag):cf cF gU (.fn 155 [] []) [.vsl [] (some 0),f] σ=some (.vsl [] (some 0),σ):=by
 have hi:=D7 [] f (fun _=>false) hf mU (by simp [cJ]) (fun _ h=>by cases h)
 have bD:fZ cF gU false (.fn 161 [] []) [.vsl [] (some 0),f] σ=some (.int .i64 (-1),σ):=by
  rw [sV rfl (by simp [aB,AV.closed,hf])]
  simp only [dT,AV.er,mU]
  have:dO cF gU (.fn 161 [] []) [.vsl [] none,f]=some (.int .i64 (-1)):=hi
  rw [this]; rfl
 refine gy (F:=N5) rfl (first:= []) (caps:= []) ?_
 simp only [xm,xl,N5,ax,seval,bD]
def mV (v:V) (p:Bs->Bool):V:=if v.kind=5 then V.mk v.kind v.n v.s v.l (v.m.filter fun x=> !p x.1) else v
theorem Gv (f:AV) (p:Bs->Bool) (hf:f.closed=true) (mU:f.er=f) (k:Bs) (hp:dO cF gU f [.str k]=some (.bool (p k))) (v:V) :
  dO cF gU (.fn 154 [] [.vptr [f] 0]) [bx (k,v)]=some (.bool (p k)):=by
 refine yR (F:=F154) rfl (first:= []) (caps:= [.vptr [f] 0]) ?_
 simp only [F154,ax,seval,VX,ae,hf,mU,hp]
theorem LU (v:V) (f:AV) (p:Bs->Bool) (hf:f.closed=true) (mU:f.er=f) (hk:f.known=true) (hc:f.cells= [f]) (hlen:v.m.length < lim) (hp: ∀k,dO cF gU f [.str k]=some (.bool (p k))) :
  cR 145 [v.enc,f]=some (mV v p).enc:=by
 refine aC (F:=F145) rfl ?_
 obtain ⟨r,hr⟩ : ∃r,r=(mV v p).enc:=⟨_,rfl⟩
 rw [←hr]
 unfold mV at hr
 cases h5:v.kind == 5 with
 | false=>
  have hk5:v.kind≠5:=by simpa using h5
  rw [if_neg hk5] at hr
  simp only [U3Fc,ax,seval,VX,ae,h5,hk,hc,hr]
 | true=>
  have hk5:v.kind=5:=by simpa using h5
  rw [if_pos hk5] at hr
  have h154: ∀e∈v.m,dO cF gU (.fn 154 [] [.vptr [f] 0]) [bx e]=some (.bool (p e.1)):=fun e _=>Gv f p hf mU e.1 (hp e.1) e.2
  have hfc:(AV.fn 154 [] [.vptr [f] 0]).closed=true:=by simp [AV.closed,aB,hf]
  have hfee:(AV.fn 154 [] [.vptr [f] 0]).er= .fn 154 [] [.vptr [f] 0]:=by simp only [AV.er,dT,mU]
  obtain ⟨σ0,hσ⟩ : ∃σ0:ag,σ0=⟨2, [(1, .own [.int .i64 0, .int .i64 0, .str [], .nils, .nils]),(0, .own [.int .i64 v.kind, .int .i64 v.n, .str v.s, .vsl (v.l.map V.enc) none, .vsl (v.m.map bx) none])]⟩:=⟨_,rfl⟩
  cases hm:v.m with
  | nil=>
   rw [hm] at hσ hr
   have c1:=NO none σ0
   have c2:=NM _ hfc hfee σ0
   rw [hσ] at c1 c2
   simp only [List.map_nil] at c1 c2
   simp only [U3Fc,ax,seval,VX,ae,h5,hk,hc,hm,List.map_nil,c1,c2]
   rw [hr,hk5]; rfl
  | cons x m=>
   have sL:=hlen
   rw [hm] at sL
   have c1:=NN x m none σ0 sL
   rw [←hm] at c1
   have ES:σ0.next=2:=by rw [hσ]
   obtain ⟨σ',d1,⟨rest,d2⟩,d3,d4⟩:=SS v.m _ (fun e=>p e.1) hfc hfee hlen h154 (σ0.alloc (dL.cells v.m)) σ0.next (eJ (σ:=σ0)) (by simp [eH])
   have z0:look σ'.m 0=look σ0.m 0:=(d4 0 (by simp [eH]) aa).trans (gC (σ:=σ0) aa)
   have z1:look σ'.m 1=look σ0.m 1:=(d4 1 (by rw [eH]; omega) aa).trans (gC (σ:=σ0) aa)
   rw [ES] at c1 d1 d2
   simp only [hσ,look,if_true,Nat.succ_ne_self,if_false] at z0 z1
   clear d3 d4
   generalize hσa:σ0.alloc (dL.cells v.m)=σa at c1 d1
   rw [hσ] at c1
   simp only [U3Fc,ax,seval,VX,ae,h5,hk,hc,c1,d1,z0,z1]
   have gH:(AV.vsl (v.l.map V.enc) none).closed=true:=by simp only [AV.closed,oy]
   have hce:(AV.vsl (v.l.map V.enc) none).er= .vsl (v.l.map V.enc) none:=by simp only [AV.er,yH]
   have hb:=fun (σ1:ag) (h2:look σ1.m 2=some (.own (dL.cells (v.m.filter fun x=> !p x.1) ++rest)))=>
    oX.agg (σ:=σ1) (oX.clo (x:= .int .i64 v.kind) rfl (oX.clo (x:= .int .i64 v.n) rfl (oX.clo (x:= .str v.s) rfl (oX.clo (x:= .vsl (v.l.map V.enc) none) gH (oX.rp (L:=dL) (.inr ⟨2,rest,rfl,h2⟩) (oX.nil σ1 23))))))
   simp only [pF,BP,hce] at hb
   rw [hr,V.enc_eq]
   exact hb _ (by simp only [look,Nat.reduceEqDiff,if_false]; exact d2)
theorem VK (keys:List Bs) (hk:keys.length < cJ) (k:Bs):dO cF gU (.fn 144 [] [.vptr [.vsl (keys.map .str) none] 0]) [.str k]=some (.bool (lD keys k)):=by
 have h:=u7 keys k hk
 refine yR (F:=F144) rfl (first:= []) (caps:= [.vptr [.vsl (keys.map .str) none] 0]) ?_
 simp only [F144,ax,seval,VX,ae,h]
def nB (v:V) (keys:List Bs):V:=mV v (lD keys)
theorem r_Drop (v:V) (keys:List Bs) (hlen:v.m.length < lim) (hk:keys.length < cJ):cR 131 [v.enc, .vsl (keys.map .str) none]=some (nB v keys).enc:=by
 have hc:(AV.fn 144 [] [.vptr [.vsl (keys.map .str) none] 0]).closed=true:=by simp only [AV.closed,aB,ou,aV]
 have he:(AV.fn 144 [] [.vptr [.vsl (keys.map .str) none] 0]).er= .fn 144 [] [.vptr [.vsl (keys.map .str) none] 0]:=by simp only [AV.er,dT,yG]
 have h:=LU v _ (lD keys) hc he rfl rfl hlen (VK keys hk)
 refine aC (F:=F131) rfl ?_
 simp only [F131,ax,seval,VX,ae,h]
 unfold nB
 simp
def GM (σ:ag) (v:AV) (l:List Mem):Prop:=(v= .nils/\l= [])∨∃b,v= .sl b 0 l.length 6 none/\look σ.m b=some (.own (dL.cells l))/\b < σ.next/\0 < b
theorem GM.lenL {σ:ag} {v:AV} {l:List Mem} (h:GM σ v l):lenL v=some (.int .i64 l.length):=by
 rcases h with ⟨rfl,rfl⟩ | ⟨b,rfl,_⟩ <;> rfl
def shC (acc:List Mem) (j:Nat) (iC:ai):ai:=dL.cells (acc.take j) ++iC ++dL.cells (acc.drop j)
theorem GM.frame {σ σ':ag} {v:AV} {l:List Mem} (h:GM σ v l) (hn:σ.next<=σ'.next) (hg: ∀b,v= .sl b 0 l.length 6 none->look σ'.m b=look σ.m b):GM σ' v l:=by
 rcases h with h | ⟨b,rfl,h1,h2,h3⟩
 ·exact .inl h
 ·exact .inr ⟨b,rfl,by rw [hg b rfl]; exact h1,by omega,h3⟩
theorem GM.app {σ:ag} {v:AV} {l:List Mem} (h:GM σ v l) (hl:l.length < lim) (hn:0 < σ.next): ∃σ',aJ σ 6 96 v rN 1=some (.sl σ.next 0 (l.length+1) 6 none,σ')/\
  look σ'.m σ.next=some (.own (shC l l.length rN))/\σ'.next=σ.next+1/\look σ'.m 0=look σ.m 0:=by
 unfold lim at hl
 have hc:shC l l.length rN=dL.cells l ++rN:=by
  unfold shC
  rw [aQ (aE _),List.drop_of_length_le (aE _)]
  simp [fW.cells]
 rcases h with ⟨rfl,rfl⟩ | ⟨b,rfl,h1,h2,h3⟩
 ·obtain ⟨σ',a1,a2,a3,a4⟩:=gp (σ:=σ) (sz:=6) (bytes:=96) (n:=0) (k:=1) (ob:=none) (cells:= []) (new:=rN) ⟨rfl,rfl⟩ aa aa (by unfold bg; omega) rfl rfl aa
  refine ⟨σ',a1,?_,a3,a4 0 hn (by simp)⟩
  rw [hc]
  exact a2.1
 ·cases l with
  | nil=>
   refine ⟨(σ.set b .dead).alloc ([] ++rN),?_,?_,rfl,?_⟩
   ·have ho:σ.owned b=some []:=by
     have:σ.get b=some (.own (dL.cells [])):=h1
     simp [ag.owned,this,fW.cells]
    unfold aJ
    simp only [lenOf,ho,List.length_nil]
    simp [bg,AV.one]
   ·rw [hc]; exact eJ (σ:=σ.set b .dead)
   ·have:=gC (σ:=σ.set b .dead) (cs:= [] ++rN) (b:=0) (by rw [pf]; omega)
    exact this.trans (wu aa)
  | cons x l=>
   obtain ⟨σ',a1,a2,a3,a4⟩:=gp (σ:=σ) (sz:=6) (bytes:=96) (n:=(x ::l).length) (k:=1) (ob:=some b) (cells:=dL.cells (x ::l)) (new:=rN) ⟨h1,dL.cells_len _,h2,by simp⟩ aa aa (by unfold bg; omega) rfl rfl aa
   refine ⟨σ',a1,?_,a3,a4 0 hn (by simp; omega)⟩
   rw [hc]
   exact a2.1
end Go.Ab
namespace Go.Ab
set_option maxHeartbeats 1000000
set_option maxRecDepth 100000
def Rd {α:Type} (L:fW α) (σ:ag) (v:AV) (l:List α):Prop:=
 (v= .nils/\l= [])∨(∃b,v= .sl b 0 l.length L.sz none/\σ.cells b=some (L.cells l)/\b < σ.next)∨v= .vsl (l.map L.f) (some l.length)
section
variable {α:Type} {L:fW α} {σ:ag} {v:AV} {l:List α}
theorem BF (σ:ag) (b:Nat):σ.freeze.cells b=σ.cells b:=by
 have e:σ.freeze.get b=(σ.get b).map fun x=>match x with | .own cs=> .frz cs | x=>x:=by
  unfold ag.freeze ag.get
  simp only
  induction σ.m with
  | nil=>rfl
  | cons p l ih=>
   obtain ⟨i,x⟩:=p
   simp only [List.map_cons,look]
   by_cases h:i=b
   ·rw [if_pos h,if_pos h]; rfl
   ·rw [if_neg h,if_neg h]; exact ih
 unfold ag.cells
 rw [e]
 cases σ.get b with
 | none=>rfl
 | some x=>cases x <;> rfl
theorem Rd.freeze (h:Rd L σ v l):Rd L σ.freeze v l:=by
 rcases h with h | ⟨b,rfl,h,h2⟩ | h
 ·exact .inl h
 ·exact .inr (.inl ⟨b,rfl,by rw [BF]; exact h,h2⟩)
 ·exact .inr (.inr h)
theorem Rd.newset (h:Rd L σ v l) (cs cs':ai):Rd L { next:=σ.next+1,m:=(σ.next, .own cs) ::(σ.next, .own cs') ::σ.m } v l:=by
 rcases h with h | ⟨b,rfl,h,h2⟩ | h
 ·exact .inl h
 ·refine .inr (.inl ⟨b,rfl,?_,by simp; omega⟩)
  have:ag.get { next:=σ.next+1,m:=(σ.next, .own cs) ::(σ.next, .own cs') ::σ.m } b=σ.get b:=by
   show look ((σ.next,jS.own cs) ::(σ.next, .own cs') ::σ.m) b=look σ.m b
   simp only [look]; rw [if_neg aa,if_neg aa]
  unfold ag.cells at h ⊢
  rw [this]; exact h
 ·exact .inr (.inr h)
theorem Rd.rb (h:Rd L σ v l): ∃v',Go.Ab.rb σ bK v=some v'/\v'.er= .vsl (l.map L.f) none:=by
 rcases h with ⟨rfl,rfl⟩ | ⟨b,rfl,h,_⟩ | rfl
 ·exact ⟨_,rfl,by simp only [AV.er]; rfl⟩
 ·refine ⟨_,JB (d:=23) h (L.cells_len l) L.pos (L.cells_closed l) (lx (L.cells_one l)),?_⟩
  rw [L.chunks]; simp only [AV.er,L.erMap]
 ·refine ⟨_,cj (by simp only [AV.closed]; exact du fun a _=>L.closed a),?_⟩
  simp only [AV.er,L.erMap]
def Dis (v w:AV):Prop:=∀b o len sz c o' cE j4 c',v= .sl b o len sz c->w≠ .sl b o' cE j4 c'
theorem Dis.symm {v w:AV} (h:Dis v w):Dis w v:=fun _ _ _ _ _ _ _ _ _ h1 h2=>h _ _ _ _ _ _ _ _ _ h2 h1
end
theorem Gr.idxS {σ:ag} {v:AV} {l:List Bs} (h:Gr jR σ v l) {j:Nat} {s:Bs} (hj:l[j]? =some s): ∃p,idxOf 1 none v (.int .i64 (j:Int))=some p/\ec σ p none=some (.str s):=by
 have aN:=ud hj
 have hc: ∀m:List Bs,jR.cells m=m.map AV.str:=by
  intro m; simp only [fW.cells,jR,AV.cells]; induction m with
  | nil=>rfl
  | cons a m ih=>simp [ih]
 rcases h with ⟨rfl,rfl⟩ | ⟨b,rfl,h⟩ | rfl
 ·simp at hj
 ·refine ⟨.ptr b j,?_,?_⟩
  ·simp [idxOf,jR,aN]
  ·have:=h.1
   simp only [ec,ag.cells,this,dG,hc,bO,hj,Option.map_some]
 ·refine ⟨.vptr [.str s] 0,bV (f:=AV.str) hj rfl,rfl⟩
end Go.Ab
namespace Go.Ab
set_option maxRecDepth 100000
def U6Fe:=J @IZ.eq_1 (J @C9.eq_1 (J @Lr.eq_1 (@Ze.eq_1)))
theorem ZK (l:List Bs) (k:Bs) (hlen:l.length < cJ):cR 147 [.vsl (l.map .str) none, .str k]=some (.bool (lD l k)):=by
 unfold cJ at hlen
 refine aC (F:=Ze) rfl ?_
 obtain ⟨r,hr⟩ : ∃r,r=AV.bool (lD l k):=⟨_,rfl⟩
 rw [←hr]
 simp only [IZ,C9,Ze,ay,ax,seval,VX]
 refine dC (S:=Nat) (fun j=> [(0, .vsl (l.map .str) none),(1, .str k),(5, .int .i64 (j:Int))]) (fun _=> .empty) (fun j=>l.length - j) (fun j=>lD (l.drop j) k=lD l k) ?_ 0 rfl
 intro b j hj ih
 by_cases aN:j < l.length
 ·obtain ⟨x,hx⟩:=bM aN
  have bQ:=Bz (c:=none) hx
  have aA:=lS aN
  have hw:=cd aN aa
  rw [drop_cons hx] at hj
  cases hxk:x == k with
  | true=>
   have:lD l k=true:=by
    rw [←hj]; have:k=x:=by simp at hxk; exact hxk.symm
    simp [lD,this]
   rw [this] at hr
   simp only [U6Fe,ax,seval,VX,ae,aA,bQ,hxk,hr]
  | false=>
   have hkx:(k == x)=false:=by simp at hxk ⊢; exact fun h=>hxk h.symm
   simp only [U6Fe,ax,seval,VX,ae,aA,bQ,hxk,hw]
   exact ih (j+1) _ _ aa (by rw [←hj]; simp [lD,hkx]) rfl rfl
 ·have aA:=lT (Nat.not_lt.1 aN)
  rw [bn aa] at hj
  rw [←hj] at hr
  simp only [U6Fe,ax,seval,VX,aA,hr]
  rfl
structure LSt (σ:ag) (v:AV) (acc:List V):Prop where
 one:look σ.m 1=some (.own [.int .i64 4, .int .i64 0, .str [],v, .nils])
 nil:look σ.m 0=some (.own [.int .i64 0, .int .i64 0, .str [], .nils, .nils])
 gr:Gr LV σ v acc
 nx:1 < σ.next
 far: ∀b len sz c,b < 2->v≠ .sl b 0 len sz c
theorem LSt.push {σ:ag} {v:AV} {acc:List V} (h:LSt σ v acc) (hl:acc.length < lim) (x:V) :
  aJ σ 5 80 v x.enc.cells 1=some (.sl σ.next 0 (acc ++ [x]).length 5 none,di LV σ v acc [x])/\look (di LV σ v acc [x]).m 1=some (.own [.int .i64 4, .int .i64 0, .str [],v, .nils])/\
  LSt { next:=(di LV σ v acc [x]).next,m:=(1, .own [.int .i64 4, .int .i64 0, .str [], .sl σ.next 0 (acc ++ [x]).length 5 none, .nils]) ::(di LV σ v acc [x]).m } (.sl σ.next 0 (acc ++ [x]).length 5 none) (acc ++ [x]):=by
 unfold lim at hl
 have ES:=h.nx
 have hn:=fY LV σ v acc [x]
 have g1:look (di LV σ v acc [x]).m 1=look σ.m 1:=gY (m:= [x]) h.gr ES (fun len sz c=>h.far 1 len sz c aa)
 have g0:look (di LV σ v acc [x]).m 0=look σ.m 0:=gY (m:= [x]) h.gr aa (fun len sz c=>h.far 0 len sz c aa)
 have hg:=h.gr.next (m:= [x]) (by simp)
 refine ⟨h.gr.push (a:=x) (bytes:=80) aa (by unfold bg; omega),by rw [g1]; exact h.one,by simp [look],?_,?_,by show 1 < (di LV σ v acc [x]).next; omega,?_⟩
 ·show look ((1,_) ::_) 0=_
  simp only [look]
  rw [if_neg aa,g0]; exact h.nil
 ·exact Gr.own (L:=LV) (hg.frame (by show look ((1,_) ::_) σ.next=look _ σ.next; simp only [look]; rw [if_neg aa]) (aE _))
 ·intro b len sz c hb hv
  simp only [AV.sl.injEq] at hv
  omega
theorem LSt.fin {σ:ag} {v:AV} {acc:List V} (h:LSt σ v acc):rbE { next:=σ.next,m:=(0, .own [.int .i64 4, .int .i64 0, .str [],v, .nils]) ::σ.m } (.agg [.int .i64 4, .int .i64 0, .str [],v, .nils])=some (V.mk 4 0 [] acc []).enc:=by
 have hg:Gr LV { next:=σ.next,m:=(0, .own [.int .i64 4, .int .i64 0, .str [],v, .nils]) ::σ.m } v acc:=by
  rcases h.gr with g | ⟨b,rfl,g⟩ | g
  ·exact .inl g
  ·refine .inr (.inl ⟨b,rfl,g.frame ?_ (aE _)⟩)
   have hb:b≠0:=by rintro rfl; exact h.far 0 _ _ _ aa rfl
   show look ((0,_) ::_) b=look _ b
   simp only [look]; rw [if_neg (fun hh=>hb hh.symm)]
  ·exact .inr (.inr g)
 have:=oX.agg (oX.clo (x:= .int .i64 4) rfl (oX.clo (x:= .int .i64 0) rfl (oX.clo (x:= .str []) rfl (oX.gr hg (oX.clo (x:= .nils) rfl (oX.nil _ 23))))))
 simp only [pF,BP,BQ] at this
 rw [V.enc_eq]
 exact this
def U7Fe:=J @Dd.eq_1 (J @Dc.eq_1 (J @Ls.eq_1 (@Zf.eq_1)))
def U7Ff:=J @Dd.eq_1 (J @Dc.eq_1 (@Zf.eq_1))
def mi (v:V) (keys:List Bs) (b:Bool):V:=if v.kind=5 then V.mk 5 0 [] [] (v.m.filter fun x=>lD keys x.1 == b) else v
structure KSt (σ:ag) (v:AV) (acc:List Mem):Prop where
 nil:look σ.m 0=some (.own [.int .i64 0, .int .i64 0, .str [], .nils, .nils])
 gr:Gr dL σ v acc
 nx:0 < σ.next
 far: ∀len sz c,v≠ .sl 0 0 len sz c
theorem KSt.push {σ:ag} {v:AV} {acc:List Mem} (h:KSt σ v acc) (hl:acc.length < lim) (x:Mem) :
  aJ σ 6 96 v (bx x).cells 1=some (.sl σ.next 0 (acc ++ [x]).length 6 none,di dL σ v acc [x])/\KSt (di dL σ v acc [x]) (.sl σ.next 0 (acc ++ [x]).length 6 none) (acc ++ [x]):=by
 unfold lim at hl
 have ES:=h.nx
 have hn:=fY dL σ v acc [x]
 have g0:look (di dL σ v acc [x]).m 0=look σ.m 0:=gY (m:= [x]) h.gr aa h.far
 refine ⟨h.gr.push (a:=x) (bytes:=96) aa (by unfold bg; omega),by rw [g0]; exact h.nil,Gr.own (h.gr.next (m:= [x]) (by simp)),by omega,?_⟩
 intro len sz c hv
 simp only [AV.sl.injEq] at hv
 omega
theorem KSt.fin5 {σ:ag} {v:AV} {acc:List Mem} (h:KSt σ v acc) (cs:ai):rbE { next:=σ.next,m:=(0, .own cs) ::σ.m } (.agg [.int .i64 5, .int .i64 0, .str [], .nils,v])=some (V.mk 5 0 [] [] acc).enc:=by
 have hg:Gr dL { next:=σ.next,m:=(0, .own cs) ::σ.m } v acc:=by
  rcases h.gr with g | ⟨b,rfl,g⟩ | g
  ·exact .inl g
  ·refine .inr (.inl ⟨b,rfl,g.frame ?_ (aE _)⟩)
   have hb:b≠0:=by rintro rfl; exact h.far _ _ _ rfl
   show look ((0,_) ::_) b=look _ b
   simp only [look]; rw [if_neg (fun hh=>hb hh.symm)]
  ·exact .inr (.inr g)
 have:=oX.agg (oX.clo (x:= .int .i64 5) rfl (oX.clo (x:= .int .i64 0) rfl (oX.clo (x:= .str []) rfl (oX.clo (x:= .nils) rfl (oX.gr hg (oX.nil _ 23))))))
 simp only [pF,BP,BQ] at this
 rw [V.enc_eq]
 exact this
theorem Wy (x:Mem):lenOf (.vsl [bx x] (some 1))=some 1:=rfl
theorem Wx (x:Mem) (σ:ag):rowOf σ 6 (.vsl [bx x] (some 1))=some (bx x).cells:=by
 have:=dL.rowOf σ [x] (some 1)
 simpa [fW.cells,dL] using this
theorem r_Keep (v:V) (keys:List Bs) (b:Bool) (hk:keys.length < cJ) (hm:v.m.length < lim):cR 133 [v.enc, .vsl (keys.map .str) none, .bool b]=some (mi v keys b).enc:=by
 have dZ:=hm
 unfold lim at dZ
 refine aC (F:=Zf) rfl ?_
 obtain ⟨r,hr⟩ : ∃r,r=(mi v keys b).enc:=⟨_,rfl⟩
 rw [←hr]
 unfold mi at hr
 cases h5:v.kind != 5 with
 | true=>
  have hk5:v.kind≠5:=by simpa using h5
  rw [if_neg hk5] at hr
  simp only [U7Ff,ax,seval,VX,ae,h5,hr]
 | false=>
  have hk5:v.kind=5:=by simpa using h5
  rw [if_pos hk5] at hr
  simp only [U7Ff,ay,ax,seval,VX,ae,h5]
  refine aL (S:=Nat×List Mem×AV) (fun s=> [(1, .vsl (keys.map .str) none),(2, .bool b),(3, .vptr [.int .i64 v.kind, .int .i64 v.n, .str v.s, .vsl (v.l.map V.enc) none, .vsl (v.m.map bx) none] 0),(6, .ptr 0 0),(7,s.2.2),(8, .int .i64 (s.1:Int))])
   (fun s=>v.m.length - s.1) (fun s σ=>KSt σ s.2.2 s.2.1/\s.2.1.length<=s.1/\s.2.1 ++(v.m.drop s.1).filter (fun x=>lD keys x.1 == b)=v.m.filter (fun x=>lD keys x.1 == b)) ?_ (0, [], .nils) _ ⟨⟨rfl,Gr.nil dL _,by simp,fun _ _ _ h=>by cases h⟩,by simp,rfl⟩
  rintro bd ⟨j,acc,w⟩ σ ⟨h,hai,hf⟩ ih
  simp only at h hai hf ih ⊢
  by_cases aN:j < v.m.length
  ·obtain ⟨x,hx⟩:=bM aN
   have aA:=lS aN
   have hw:=cd aN aa
   have bQ:=Kf (c:=none) hx
   have hh:=ZK keys x.1 hk
   rw [drop_cons hx,List.filter_cons] at hf
   obtain ⟨p1,p2⟩:=h.push (by unfold lim; omega) x
   have jc:=Wy x
   have nN:=Wx x
   simp only [bJ] at p1 nN
   cases hb:lD keys x.1 == b with
   | true=>
    rw [hb] at hf
    simp only [if_true] at hf
    simp only [U7Fe,ax,seval,VX,ae,aA,bQ,hh,hb,jc,nN,p1,hw]
    exact ih (j+1,acc ++ [x],_) _ _ (by simp; omega) ⟨p2,by simp; omega,by simpa using hf⟩ (by simp only [ax,seval])
   | false=>
    rw [hb] at hf
    simp only [aX,if_false] at hf
    simp only [U7Fe,ax,seval,VX,ae,aA,bQ,hh,hb,hw]
    exact ih (j+1,acc,w) _ _ (by simp; omega) ⟨h,by simp; omega,hf⟩ (by simp only [ax,seval])
  ·have aA:=lT (Nat.not_lt.1 aN)
   rw [List.drop_of_length_le aa,List.filter_nil,bm] at hf
   have h0:=h.nil
   have hp:=h.gr.plain
   have Xl:=h.fin5 [.int .i64 5, .int .i64 0, .str [], .nils,w]
   simp only [U7Fe,ax,seval,VX,ae,aA,h0,hp.1,hp.2.1,hp.2.2.1]
   rw [Xl,hr,hf]
end Go.Ab
namespace Go.Ab
set_option maxHeartbeats 1000000
set_option maxRecDepth 100000
section
variable (e:Ev)
end
end Go.Ab
namespace Go.Ab
set_option maxRecDepth 100000
abbrev dm:Bs:= [115,105,103,110,97,116,117,114,101,115]
abbrev B3:Type:=aG×Nat×Nat
def js (s:B3) (b:Nat):B3:=if s.2.1=7 then (s.1 ++ [UInt8.ofNat (2*s.2.2+b)],0,0) else (s.1,s.2.1+1,2*s.2.2+b)
def gz (s:B3) (v:Nat):Nat->B3
 | 0=>s
 | i+1=>js (gz s v i) (mr v i)
theorem bit_lt (v i:Nat):mr v i < 2:=bb _ (by decide)
theorem S7 {d:aG} {n c v:Nat} (hn:n=0∨n=2∨n=4∨n=6) (hc:c < 2 ^ n) (hv:v < 64) :
  gz (d,n,c) v 6=if 2<=n then (d ++ [UInt8.ofNat ((c*64+v) / 2 ^ (n - 2))],n - 2,(c*64+v) % 2 ^ (n - 2)) else (d,n+6,c*64+v):=by
 rcases hn with rfl | rfl | rfl | rfl
 ·simp only [gz,js,mr,Nat.reduceEqDiff,Nat.reduceAdd,Nat.reduceSub,Nat.reducePow,Nat.reduceLeDiff,if_false]
  congr 2; omega
 ·simp only [gz,js,mr,Nat.reduceEqDiff,Nat.reduceAdd,Nat.reduceSub,Nat.reducePow,Nat.reduceLeDiff,if_false,if_true]
  rw [show 2*(2*(2*(2*(2*(2*c+v / 32 % 2)+v / 16 % 2)+v / 8 % 2)+v / 4 % 2)+v / 2 % 2)+v / 1 % 2=(c*64+v) / 1 by omega,show (c*64+v) % 1=0 by omega]
 ·simp only [gz,js,mr,Nat.reduceEqDiff,Nat.reduceAdd,Nat.reduceSub,Nat.reducePow,Nat.reduceLeDiff,if_false,if_true]
  rw [show 2*(2*(2*(2*c+v / 32 % 2)+v / 16 % 2)+v / 8 % 2)+v / 4 % 2=(c*64+v) / 4 by omega,show 2*(2*0+v / 2 % 2)+v / 1 % 2=(c*64+v) % 4 by omega]
 ·simp only [gz,js,mr,Nat.reduceEqDiff,Nat.reduceAdd,Nat.reduceSub,Nat.reducePow,Nat.reduceLeDiff,if_false,if_true]
  rw [show 2*(2*c+v / 32 % 2)+v / 16 % 2=(c*64+v) / 16 by omega,show 2*(2*(2*(2*0+v / 8 % 2)+v / 4 % 2)+v / 2 % 2)+v / 1 % 2=(c*64+v) % 16 by omega]
def cG (N:Nat) (s:B3):aG:=if s.1.length < N then s.1 ++UInt8.ofNat (s.2.2*2 ^ (8 - s.2.1)) ::List.replicate (N - s.1.length - 1) 0 else s.1
def Wp (N p:Nat) (s:B3):Prop:=p=8*s.1.length+s.2.1/\s.2.1 < 8/\s.2.2 < 2 ^ s.2.1/\s.1.length<=N/\(s.1.length=N->s.2.2=0)
theorem Fz {N p:Nat} {s:B3} (h:Wp N p s):(cG N s).length=N:=by
 obtain ⟨_,_,_,h4,_⟩:=h
 unfold cG
 split
 ·simp only [az,List.length_cons,iV]; omega
 ·omega
theorem Ca (N:Nat):cG N ([],0,0)=List.replicate N 0:=by
 unfold cG
 cases N with
 | zero=>rfl
 | succ N=>simp [List.replicate_succ]
theorem bit0 {N p:Nat} {s:B3} (h:Wp N p s) (hN:p < 8*N+7):Wp N (p+1) (js s 0)/\cG N (js s 0)=cG N s:=by
 obtain ⟨d,n,c⟩:=s
 obtain ⟨h1,h2,h3,h4,h5⟩:=h
 simp only at h1 h2 h3 h4 h5
 by_cases h7:n=7
 ·subst h7
  have aN:d.length < N:=by omega
  have e:js (d,7,c) 0=(d ++ [UInt8.ofNat (2*c+0)],0,0):=rfl
  rw [e]
  refine ⟨⟨?_,by show 0 < 8; decide,by show 0 < 2 ^ 0; decide,?_,fun _=>rfl⟩,?_⟩
  ·show p+1=8*(d ++ [_]).length+0; simp only [az,List.length_cons,List.length_nil]; omega
  ·show (d ++ [_]).length<=N; simp only [az,List.length_cons,List.length_nil]; omega
  ·unfold cG
   simp only [az,List.length_cons,List.length_nil]
   rw [if_pos aN]
   by_cases F2:d.length+(0+1) < N
   ·rw [if_pos F2,show N - d.length - 1=N - (d.length+(0+1)) - 1+1 by omega,List.replicate_succ]
    simp [Nat.mul_comm]
   ·rw [if_neg F2,show N - d.length - 1=0 by omega]
    simp [Nat.mul_comm]
 ·have e:js (d,n,c) 0=(d,n+1,2*c+0):=by unfold js; rw [if_neg h7]
  rw [e]
  refine ⟨⟨by show p+1=8*d.length+(n+1); omega,by show n+1 < 8; omega,by show 2*c+0 < 2 ^ (n+1); rw [Nat.pow_succ]; omega,h4,fun k=>by have:=h5 k; show 2*c+0=0; omega⟩,?_⟩
  unfold cG
  simp only
  split
  ·have:(2*c+0)*2 ^ (8 - (n+1))=c*2 ^ (8 - n):=by
    rw [show 8 - n=8 - (n+1)+1 by omega,Nat.pow_succ,Nat.add_zero,Nat.mul_comm 2 c,Nat.mul_assoc,Nat.mul_comm 2]
   rw [this]
  ·rfl
theorem bit1 {N p:Nat} {s:B3} (h:Wp N p s) (hN:s.1.length < N):Wp N (p+1) (js s 1)/\(cG N s).take s.1.length ++ [UInt8.ofNat ((2*s.2.2+1)*2 ^ (7 - s.2.1))] ++(cG N s).drop (s.1.length+1)=cG N (js s 1)/\
  (cG N s)[s.1.length]? =some (UInt8.ofNat (s.2.2*2 ^ (8 - s.2.1))):=by
 obtain ⟨d,n,c⟩:=s
 obtain ⟨h1,h2,h3,h4,h5⟩:=h
 simp only at h1 h2 h3 h4 h5 hN ⊢
 have hb:cG N (d,n,c)=d ++UInt8.ofNat (c*2 ^ (8 - n)) ::List.replicate (N - d.length - 1) 0:=by unfold cG; rw [if_pos hN]
 have iD:(cG N (d,n,c))[d.length]? =some (UInt8.ofNat (c*2 ^ (8 - n))):=by rw [hb,fK (aE _),Nat.sub_self]; rfl
 have hp: ∀y,(cG N (d,n,c)).take d.length ++ [y] ++(cG N (d,n,c)).drop (d.length+1)=d ++y ::List.replicate (N - d.length - 1) 0:=fun y=>by
  have hdr: ∀(a:UInt8) (r:aG),(d ++a ::r).drop (d.length+1)=r:=fun a r=>by
   rw [List.append_cons d a r]; exact List.drop_left' (by rw [az]; rfl)
  rw [hb,List.take_left' rfl,hdr,bf]; rfl
 rw [hp]
 refine ⟨?_,?_,iD⟩
 ·by_cases h7:n=7
  ·subst h7
   have e:js (d,7,c) 1=(d ++ [UInt8.ofNat (2*c+1)],0,0):=rfl
   rw [e]
   refine ⟨?_,by show 0 < 8; decide,by show 0 < 2 ^ 0; decide,?_,fun _=>rfl⟩
   ·show p+1=8*(d ++ [_]).length+0; simp only [az,List.length_cons,List.length_nil]; omega
   ·show (d ++ [_]).length<=N; simp only [az,List.length_cons,List.length_nil]; omega
  ·have e:js (d,n,c) 1=(d,n+1,2*c+1):=by unfold js; rw [if_neg h7]
   rw [e]
   exact ⟨by show p+1=8*d.length+(n+1); omega,by show n+1 < 8; omega,by show 2*c+1 < 2 ^ (n+1); rw [Nat.pow_succ]; omega,h4,fun k=>by have:d.length=N:=k; omega⟩
 ·by_cases h7:n=7
  ·subst h7
   have e:js (d,7,c) 1=(d ++ [UInt8.ofNat (2*c+1)],0,0):=rfl
   rw [e]
   unfold cG
   simp only [az,List.length_cons,List.length_nil]
   by_cases F2:d.length+(0+1) < N
   ·rw [if_pos F2,show N - d.length - 1=N - (d.length+(0+1)) - 1+1 by omega,List.replicate_succ]
    simp
   ·rw [if_neg F2,show N - d.length - 1=0 by omega]
    simp
  ·have e:js (d,n,c) 1=(d,n+1,2*c+1):=by unfold js; rw [if_neg h7]
   rw [e]
   unfold cG
   simp only
   rw [if_pos hN,show 8 - (n+1)=7 - n by omega]
theorem or_bit {n c:Nat} (hn:n < 8) (hc:c < 2 ^ n):IntKind.wrap .u8 ((BitVec.ofInt (IntKind.bits .u8) ((UInt8.ofNat (c*2 ^ (8 - n))).toNat:Int) ||| BitVec.ofInt (IntKind.bits .u8) (sh8 (7 - n))).toNat:Int)=((UInt8.ofNat ((2*c+1)*2 ^ (7 - n))).toNat:Int):=by
 have k:((List.range 8).all fun n=>(List.range (2 ^ n)).all fun c=>IntKind.wrap .u8 ((BitVec.ofInt (IntKind.bits .u8) ((UInt8.ofNat (c*2 ^ (8 - n))).toNat:Int) ||| BitVec.ofInt (IntKind.bits .u8) (sh8 (7 - n))).toNat:Int) == ((UInt8.ofNat ((2*c+1)*2 ^ (7 - n))).toNat:Int))=true:=by kernel_rfl
 exact eq_of_beq (bj.1 (bj.1 k n (List.mem_range.2 hn)) c (List.mem_range.2 hc))
theorem S1 {n i v:Nat} (hn:n=2∨n=4∨n=6) (h1:8<=i+n) (hi:i < 6) (hb:mr v i=1) (c:Nat):(c*64+v) % 2 ^ (n - 2)≠0:=by
 have:i=2∨i=3∨i=4∨i=5:=by omega
 unfold mr at hb
 rcases hn with rfl | rfl | rfl <;> rcases this with rfl | rfl | rfl | rfl <;> simp only [Nat.reduceSub,Nat.reducePow,Nat.reduceAdd,Nat.reduceLeDiff] at h1 hb ⊢ <;> omega
theorem Xr {n c v:Nat} (hv:v < 64) (vs:List Nat) (d:aG) (hn:n=0∨n=2∨n=4∨n=6) (hc:c < 2 ^ n) :
  (gx n c (v ::vs)).map (d ++ ·)=(gx (gz (d,n,c) v 6).2.1 (gz (d,n,c) v 6).2.2 vs).map ((gz (d,n,c) v 6).1 ++ ·):=by
 rw [S7 hn hc hv,gx,if_pos hv]
 split
 ·rw [Option.map_map]
  congr 1
  funext l
  simp
 ·rfl
theorem gx_bad {n c v:Nat} (h: ¬v < 64) (vs:List Nat):gx n c (v ::vs)=none:=by rw [gx,if_neg h]
def AR:=J @Da.eq_1 (J @xr.eq_1 (J @xq.eq_1 (J @xp.eq_1 (J @xn.eq_1 (J @Db.eq_1 (@TZ.eq_1))))))
def Ts:=J @Da.eq_1 (J @xr.eq_1 (J @xq.eq_1 (J @xn.eq_1 (J @Db.eq_1 (@TZ.eq_1)))))
def KQ:=J @IY.eq_1 (J @C8.eq_1 (J @Lq.eq_1 (@Zd.eq_1)))
theorem U2:((List.range 64).all fun j=>WS ((dj cF (run cF gU 300) (.fn 158 [] []) [.int .i64 j, .bool false] .empty).bind (fun x=>rbE x.2 x.1)) (Jv j))=true:=by kernel_rfl
theorem r_sgS {j:Nat} (h:j < 64):cR 158 [.int .i64 j, .bool false]=some (.int .u8 (Jv j)):=
 cQ 300 (Kd (bj.1 U2 j (List.mem_range.2 h)))
theorem r_sixS (c:UInt8):cR 152 [.int .u8 c.toNat, .bool false]=some (.int .i64 (if jk c=64 then -1 else jk c)):=by
 refine aC (F:=Zd) rfl ?_
 simp only [IY,C8,Zd,ay,ax,seval]
 refine dC (S:=Nat) (fun j=> [(0, .int .u8 c.toNat),(1, .bool false),(5, .int .i64 (j:Int))]) (fun _=> .empty) (fun j=>64 - j) (fun j=>Oa c.toNat (64 - j) j=jk c) ?_ 0 rfl
 intro b j hj ih
 by_cases aN:j < 64
 ·have bD:=r_sgS aN
  have aA:decide ((j:Int) < 64)=true:=by simp; omega
  have hw:=cd aN aa
  simp only [KQ,ax,seval,ae,aA,bD]
  by_cases hs:Jv j=c.toNat
  ·have hb:((Jv j:Int) == (c.toNat:Int))=true:=by simp [hs]
   simp only [KQ,ax,seval,ae,hb]
   rw [←hj,Qf hs aN,if_neg aa]
  ·have hb:((Jv j:Int) == (c.toNat:Int))=false:=by simp; omega
   simp only [KQ,ax,seval,ae,hb,hw]
   exact ih (j+1) _ _ aa (by rw [←J2 hs aN]; exact hj) rfl rfl
 ·have aA:decide ((j:Int) < 64)=false:=by simp; omega
  simp only [KQ,ax,seval,aA]
  rw [←hj,Qg aa,if_pos rfl]
def CI (σ:ag) (N:Nat) (S:B3):Prop:=N=0∨look σ.m 0=some (.own (af (cG N S)))
theorem Hu {s:Bs} {N j v:Nat} {XN:AV} (hL:s.length < 100000000000) (hN:N=6*s.length / 8) (hj:j < s.length) (hv:v < 64) (hX:lenL XN=some (.int .i64 (N:Int))) (hXs:0 < N->XN= .sl 0 0 N 1 none)
  {S0:B3} (hS0:Wp N (6*j) S0) {K:List Item} {Q:Fr->ag->Prop} {σ:ag} (hσ:CI σ N S0)
  (hk: ∀σ' l,CI σ' N (gz S0 v 6)->Wp N (6*j+6) (gz S0 v 6)->Ex cF gU K ((0, .str s) ::(1, .bool false) ::(6,XN) ::(7, .int .i64 (j:Int)) ::l) σ' Q)
  (he: ∀i,i < 6->mr v i=1->8*N<=6*j+i->∀fr' σ',(look fr' 4).getD .undef= .nils->(look fr' 5).getD .undef= .int .i64 2->Q fr' σ') :
  Ex cF gU (.code xp :: .inLoop [0,1,6,7,8,9] xp :: .inBlock 2 ::K) [(0, .str s),(1, .bool false),(6,XN),(7, .int .i64 (j:Int)),(8, .int .i64 (v:Int)),(9, .int .i64 0)] σ Q:=by
 refine aL (S:=Nat) (fun i=> [(0, .str s),(1, .bool false),(6,XN),(7, .int .i64 (j:Int)),(8, .int .i64 (v:Int)),(9, .int .i64 (i:Int))]) (fun i=>6 - i)
  (fun i σ=>i<=6/\CI σ N (gz S0 v i)/\Wp N (6*j+i) (gz S0 v i)) ?_ 0 σ ⟨by decide,hσ,hS0⟩
 rintro b i σ ⟨h1,h2,h3⟩ ih
 by_cases hi:i < 6
 ·have aA:decide ((i:Int) < 6)=true:=by simp; omega
  have vi:IntKind.wrap .i64 (6*(j:Int))=((6*j:Nat):Int):=by rw [←Zp (x:=6*j) aa]; simp
  have vM:IntKind.wrap .i64 (((6*j:Nat):Int)+(i:Int))=((6*j+i:Nat):Int):=by rw [←Zp (x:=6*j+i) aa]; simp
  have hw3:IntKind.wrap .i64 (5 - (i:Int))=((5 - i:Nat):Int):=by rw [←Zp (x:=5 - i) aa]; congr 1; omega
  have hw:=cd hi aa
  have od:=UZ hv hi
  have hx:v / 2 ^ (5 - i) < 64:=Nat.lt_of_le_of_lt (Nat.div_le_self _ _) hv
  have ha:=Yy _ hx
  have hbl:=bit_lt v i
  have tr:gz S0 v (i+1)=js (gz S0 v i) (mr v i):=rfl
  by_cases hb:mr v i=0
  ·have hz:(((v / 2 ^ (5 - i) % 2:Nat):Int) == 0)=true:=by unfold mr at hb; rw [hb]; rfl
   obtain ⟨k1,k2⟩:=bit0 h3 aa
   rw [hb] at tr
   rw [←tr] at k1 k2
   simp only [AR,ax,seval,VX,aA,vi,vM,hw3,hw,od,ha,hz]
   refine ih (i+1) _ _ aa ⟨by omega,?_,k1⟩ rfl
   unfold CI at h2 ⊢
   rw [k2]; exact h2
  ·have Oj:mr v i=1:=by omega
   have hz:(((v / 2 ^ (5 - i) % 2:Nat):Int) == 0)=false:=by unfold mr at hb; rw [cc]; omega
   have hq:IntKind.wrap .i64 (((6*j+i:Nat):Int).tdiv 8)=(((6*j+i) / 8:Nat):Int):=Zp (x:=(6*j+i) / 8) aa
   have hr:(((6*j+i:Nat):Int).tmod 8)=(((6*j+i) % 8:Nat):Int):=rfl
   have hs:IntKind.wrap .i64 (7 - (((6*j+i) % 8:Nat):Int))=((7 - (6*j+i) % 8:Nat):Int):=by rw [←Zp (x:=7 - (6*j+i) % 8) aa]; congr 1; omega
   by_cases hp:N<=(6*j+i) / 8
   ·have hg:decide ((((6*j+i) / 8:Nat):Int)≥(N:Int))=true:=by simp; omega
    simp only [AR,ax,seval,VX,aA,vi,vM,hw3,hw,od,ha,hz,hq,hX,hg]
    exact he i hi Oj aa _ _ rfl rfl
   ·have hg:decide ((((6*j+i) / 8:Nat):Int)≥(N:Int))=false:=by simp; omega
    have hXe:=hXs aa
    have qc:look σ.m 0=some (.own (af (cG N (gz S0 v i)))):=h2.resolve_left aa
    have h3':=h3
    obtain ⟨p1,p2,p3,p4,p5⟩:=h3'
    have hd:(6*j+i) / 8=(gz S0 v i).1.length:=by omega
    have hm:(6*j+i) % 8=(gz S0 v i).2.1:=by omega
    obtain ⟨k1,k2,k3⟩:=bit1 h3 aa
    rw [Oj] at tr
    rw [←tr] at k1 k2
    have hor:=or_bit p2 p3
    have hlen:=Fz h3
    rw [hd] at hq hg hp
    rw [hm] at hr hs
    generalize gz S0 v i=S at*
    have bQ:idxOf 1 none XN (.int .i64 ((S.1.length:Nat):Int))=some (.ptr 0 S.1.length):=by
     rw [hXe]; simp [idxOf]; omega
    have hxc:(af (cG N S))[S.1.length]? =some (.int .u8 ((UInt8.ofNat (S.2.2*2 ^ (8 - S.2.1))).toNat:Int)):=by rw [af,bO,k3]; rfl
    have hle:(S.1.length+1<=(af (cG N S)).length)=True:=by rw [eq_iff_iff,iff_true,aU,hlen]; omega
    have ka:(af (cG N S)).take S.1.length ++ [.int .u8 ((UInt8.ofNat ((2*S.2.2+1)*2 ^ (7 - S.2.1))).toNat:Int)] ++(af (cG N S)).drop (S.1.length+1)=af (cG N (gz S0 v (i+1))):=by
     rw [←k2]; simp [af]
    simp only [AR,ax,seval,VX,ae,aA,vi,vM,hw3,hw,od,ha,hz,hq,hX,hg,hr,hs,bQ,qc,hxc,shl_8,hor,hle,ka]
    exact ih (i+1) _ _ aa ⟨by omega, .inr (by simp [look]),k1⟩ rfl
 ·have aA:decide ((i:Int) < 6)=false:=by simp; omega
  have h6:i=6:=by omega
  subst h6
  simp only [AR,ax,seval,VX,aA]
  exact hk _ _ h2 h3
theorem Ee {s:Bs} (hL:s.length < 100000000000):cR 141 [.str s, .bool false]=some (pA (iN s)):=by
 generalize hN:6*s.length / 8=N
 obtain ⟨XN,σ0,hm,hX,hXs,hσ⟩ : ∃XN σ0,j7 ⟨0, []⟩ 1 1 [.int .u8 0] (N:Int)=some (XN,σ0)/\lenL XN=some (.int .i64 (N:Int))/\(0 < N->XN= .sl 0 0 N 1 none)/\CI σ0 N ([],0,0):=by
  by_cases h0:N=0
  ·subst h0
   exact ⟨.vsl [] (some 0),⟨0, []⟩,rfl,rfl,fun h=>absurd h (by decide), .inl rfl⟩
  ·refine ⟨.sl 0 0 N 1 none,⟨1, [(0, .own (List.replicate N (.int .u8 0)))]⟩,?_,rfl,fun _=>rfl, .inr ?_⟩
   ·have hr:rep N [AV.int .u8 0]=List.replicate N (AV.int .u8 0):=by
     unfold rep
     have: ∀n,(List.range n).flatMap (fun _=> [AV.int .u8 0])=List.replicate n (AV.int .u8 0):=fun n=>by
      induction n with
      | zero=>rfl
      | succ n ih=>rw [List.range_succ,List.flatMap_append,ih,List.replicate_succ']; rfl
     exact this N
    unfold j7
    rw [if_pos ⟨by omega,by unfold bg; simp; omega,rfl,by decide,by decide⟩,if_neg aa,Int.toNat_natCast,hr]; rfl
   ·rw [Ca]; simp [look,af]
 have QN:IntKind.wrap .i64 (6*(s.length:Int))=((6*s.length:Nat):Int):=by rw [←Zp (x:=6*s.length) aa]; simp
 have QM:IntKind.wrap .i64 (((6*s.length:Nat):Int).tdiv 8)=(N:Int):=by rw [←hN]; exact Zp (x:=6*s.length / 8) aa
 refine aC (F:=TZ) rfl ?_
 simp only [Da,xr,xq,xn,TZ,ay,ax,seval,VX,QN,QM,hm]
 refine aL (S:=Nat×B3) (fun q=> [(0, .str s),(1, .bool false),(6,XN),(7, .int .i64 (q.1:Int))]) (fun q=>s.length - q.1)
  (fun q σ=>q.1<=s.length/\CI σ N q.2/\Wp N (6*q.1) q.2/\(q.2.2.1=0∨q.2.2.1=2∨q.2.2.1=4∨q.2.2.1=6)/\iN s=(gx q.2.2.1 q.2.2.2 ((s.drop q.1).map jk)).map (q.2.1 ++ ·)) ?_ (0,([],0,0)) _
  ⟨Nat.zero_le _,hσ,⟨rfl,by decide,by decide,Nat.zero_le _,fun _=>rfl⟩, .inl rfl,by simp [iN]⟩
 rintro b ⟨j,d,n,c⟩ σ ⟨h1,h2,h3,h4,h5⟩ ih
 simp only at h1 h2 h3 h4 h5 ih
 by_cases aN:j < s.length
 ·obtain ⟨a,ha⟩:=bM aN
  have aA:=lS aN
  have fa:=oH (k:= .i64) ha
  have bD:=r_sixS a
  have hw:=cd aN aa
  have hle:=J1 a
  have hdr:s.drop j=a ::s.drop (j+1):=drop_cons ha
  rw [hdr,List.map_cons] at h5
  by_cases hv:jk a=64
  ·rw [if_pos hv] at bD
   rw [gx_bad aa,Option.map_none] at h5
   rw [h5]
   simp only [Ts,ax,seval,VX,aA,fa,bD]
   rfl
  ·rw [if_neg hv] at bD
   have oT:decide ((jk a:Int) < 0)=false:=by simp
   have hv6:jk a < 64:=by omega
   simp only [Ts,ay,ax,seval,VX,aA,fa,bD,oT]
   refine Hu (j:=j) (v:=jk a) hL hN.symm aN hv6 hX hXs h3 h2 (fun σ' l hσ' zA=> ?_) (fun i hi hb hp fr' σ' q4 q5=> ?_)
   ·rw [Xr hv6 _ _ h4 h3.2.2.1] at h5
    have h4':(gz (d,n,c) (jk a) 6).2.1=0∨(gz (d,n,c) (jk a) 6).2.1=2∨(gz (d,n,c) (jk a) 6).2.1=4∨(gz (d,n,c) (jk a) 6).2.1=6:=by
     rw [S7 h4 h3.2.2.1 hv6]
     rcases h4 with rfl | rfl | rfl | rfl <;> simp
    simp only [Ts,ax,seval,VX,hw]
    exact ih (j+1,gz (d,n,c) (jk a) 6) _ _ (by show s.length - (j+1) < s.length - j; omega) ⟨aN,hσ',zA,h4',h5⟩ rfl
   ·obtain ⟨p1,p2,p3,p4,p5⟩:=h3
    simp only at p1 p2 p3 p4 p5
    have Xe:j+1=s.length:=by omega
    have Al:iN s=none:=by
     rw [h5,Xe,List.drop_length,List.map_nil,gx,if_pos hv6]
     split
     ·have hl:=S1 (n:=n) (i:=i) (v:=jk a) aa aa hi hb c
      rw [gx,if_neg (fun h=>hl h.2)]; rfl
     ·rw [gx,if_neg aa]; rfl
    rw [Al]
    show (match (some [(look fr' 4).getD .undef,(look fr' 5).getD .undef] :Option (ai)) with | some [v]=>some v | some vs=>some (AV.tup vs) | none=>none).bind (rbE σ')=_
    rw [q4,q5]; rfl
 ·have aA:=lT (Nat.not_lt.1 aN)
  have Xe:j=s.length:=by omega
  subst Xe
  obtain ⟨p1,p2,p3,p4,p5⟩:=h3
  simp only at p1 p2 p3 p4 p5
  have Xn:d.length=N:=by omega
  have kU:=p5 Xn
  subst kU
  rw [List.drop_length,List.map_nil] at h5
  have yp:Int.tmod (s.length:Int) 4=((s.length % 4:Nat):Int):=rfl
  have hmw:IntKind.wrap .i64 ((s.length % 4:Nat):Int)=((s.length % 4:Nat):Int):=Zp (x:=s.length % 4) aa
  by_cases h41:s.length % 4=1
  ·have he:(((s.length % 4:Nat):Int) == 1)=true:=by rw [h41]; rfl
   have Al:iN s=none:=by rw [h5,gx,if_neg aa]; rfl
   rw [Al]
   simp only [AR,ax,seval,VX,aA,yp,hmw,he]
   rfl
  ·have he:(((s.length % 4:Nat):Int) == 1)=false:=by rw [cc]; omega
   have EN:iN s=some d:=by rw [h5,gx,if_pos ⟨by omega,rfl⟩]; simp
   rw [EN]
   have hR:rbE σ (.tup [XN, .int .i64 0])=some (.tup [cx d, .int .i64 0]):=by
    by_cases h0:N=0
    ·have hd0:d= []:=dW aa
     have Z0:XN= .vsl [] (some 0):=by
      rw [h0] at hm
      have:j7 ⟨0, []⟩ 1 1 [.int .u8 0] ((0:Nat):Int)=some (.vsl [] (some 0),⟨0, []⟩):=rfl
      rw [this] at hm
      cases hm; rfl
     rw [Z0,hd0]; rfl
    ·have qc:=h2.resolve_left h0
     have F4:cG N (d,n,0)=d:=by unfold cG; rw [if_neg (by show ¬d.length < N; omega)]
     rw [F4] at qc
     have hx:rb σ 23 (.sl 0 0 N 1 none)=some (cx d):=by
      rw [nX qc (by rw [aU]; omega) (aK _) (nh _),List.drop_zero,aQ (by rw [aU]; omega)]
     have hy:rb σ 23 (.int .i64 0)=some (.int .i64 0):=rfl
     have ht:rb σ 24 (.tup [.sl 0 0 N 1 none, .int .i64 0])=some (.tup [cx d, .int .i64 0]):=by
      have e:rb σ 24 (.tup [.sl 0 0 N 1 none, .int .i64 0])=(match dt (rb σ 23) [.sl 0 0 N 1 none, .int .i64 0] with
       | some cs'=>some (.tup cs')
       | none=>none):=rfl
      rw [e]
      simp only [dt,hx,hy]
     rw [hXs aa]
     unfold rbE
     rw [show bK=24 from rfl,ht,Option.map_some]
     simp only [AV.er,dD,gM,jr,bS]
   simp only [AR,ax,seval,VX,aA,yp,hmw,he,hR,pA]
def B3Fb:=J @IT.eq_1 (J @CV.eq_1 (J @Lk.eq_1 (@Y6.eq_1)))
def B3Fe:=J @IS.eq_1 (J @CU.eq_1 (J @Lj.eq_1 (@Y5.eq_1)))
theorem Ko: ∀l:List Bs,dT (l.map AV.str)=l.map AV.str
 | []=>rfl
 | x ::l=>by rw [List.map_cons,dD,Ko l]; rfl
theorem yu: ∀l:List (aG),dT (l.map fun s=>cx s)=l.map fun s=>cx s
 | []=>rfl
 | x ::l=>by rw [List.map_cons,dD,yu l,jr,bS]
theorem Me (l:List (Bs)) (f:AV) (p:Bs->Bool) (hf:f.closed=true) (mU:f.er=f) (hlen:l.length < cJ) (hp: ∀v∈l,dO cF gU f [AV.str v]=some (.bool (p v))) :
  cR 220 [.vsl (l.map AV.str) none,f]=some (.int .i64 (bI p l 0)):=by
 unfold cJ at hlen
 have gH:aB (l.map AV.str)=true:=by
  rw [hZ]; intro x hx; obtain ⟨y,_,rfl⟩:=List.mem_map.1 hx; rfl
 have Nb:dT (l.map AV.str)=l.map AV.str:=Ko l
 refine aC (F:=Y6) rfl ?_
 simp only [IT,CV,Y6,ay,ax,seval,VX]
 refine dC (S:=Nat) (fun j=> [(0, .vsl (l.map AV.str) none),(1,f),(7, .int .i64 l.length),(8, .int .i64 (j:Int))]) (fun _=> .empty) (fun j=>l.length - j) (fun j=>bI p l j=bI p l 0) ?_ 0 rfl
 intro b j hj ih
 by_cases aN:j < l.length
 ·obtain ⟨v,hv⟩:=bM aN
  have bQ:=bV (f:=AV.str) (sz:=1) (c:=none) hv rfl
  have bD:=hp v (bH hv)
  have aA:=lS aN
  simp only [B3Fb,ax,seval,VX,ae,aA,bQ,hf,mU,bD,AV.cells,aK,bS,AV.closed]
  split
  ·rename_i Ak
   rw [←hj,iH hv Ak]
  ·rename_i Ak
   refine ih (j+1) _ _ aa ?_ ?_ rfl
   ·rw [←g8 hv (by simpa using Ak)]; exact hj
   ·rw [cd aN aa]
    simp only [ax,seval]
 ·have aA:=lT (Nat.not_lt.1 aN)
  simp only [B3Fb,ax,seval,VX,aA]
  rw [←hj,iI aa]
theorem VE (l:List (Bs)) (f:AV) (p:Bs->Bool) (hf:f.closed=true) (mU:f.er=f) (hlen:l.length < cJ) (hp: ∀v∈l,dO cF gU f [AV.str v]=some (.bool (p v))) :
  cR 194 [.vsl (l.map AV.str) none,f]=some (.bool (l.any p)):=by
 have gH:aB (l.map AV.str)=true:=by
  rw [hZ]; intro x hx; obtain ⟨y,_,rfl⟩:=List.mem_map.1 hx; rfl
 have Nb:dT (l.map AV.str)=l.map AV.str:=Ko l
 refine aC (F:=F194) rfl ?_
 simp only [F194,ax,seval,VX,hf,mU,gH,Nb,Me l f p hf mU hlen hp,kN]
theorem Mf (l:List (aG)) (f:AV) (p:aG->Bool) (hf:f.closed=true) (mU:f.er=f) (hlen:l.length < cJ) (hp: ∀v∈l,dO cF gU f [(fun s=>cx s) v]=some (.bool (p v))) :
  cR 223 [.vsl (l.map (fun s=>cx s)) none,f]=some (.int .i64 (bI p l 0)):=by
 unfold cJ at hlen
 have gH:aB (l.map (fun s=>cx s))=true:=by
  rw [hZ]; intro x hx; obtain ⟨y,_,rfl⟩:=List.mem_map.1 hx; simp only [AV.closed,aK]
 have Nb:dT (l.map (fun s=>cx s))=l.map (fun s=>cx s):=yu l
 refine aC (F:=Y5) rfl ?_
 simp only [IS,CU,Y5,ay,ax,seval,VX]
 refine dC (S:=Nat) (fun j=> [(0, .vsl (l.map (fun s=>cx s)) none),(1,f),(7, .int .i64 l.length),(8, .int .i64 (j:Int))]) (fun _=> .empty) (fun j=>l.length - j) (fun j=>bI p l j=bI p l 0) ?_ 0 rfl
 intro b j hj ih
 by_cases aN:j < l.length
 ·obtain ⟨v,hv⟩:=bM aN
  have bQ:=bV (f:=(fun s=>cx s)) (sz:=1) (c:=none) hv rfl
  have bD:=hp v (bH hv)
  have aA:=lS aN
  simp only [B3Fe,ax,seval,VX,ae,aA,bQ,hf,mU,bD,AV.cells,aK,bS,AV.closed]
  split
  ·rename_i Ak
   rw [←hj,iH hv Ak]
  ·rename_i Ak
   refine ih (j+1) _ _ aa ?_ ?_ rfl
   ·rw [←g8 hv (by simpa using Ak)]; exact hj
   ·rw [cd aN aa]
    simp only [ax,seval]
 ·have aA:=lT (Nat.not_lt.1 aN)
  simp only [B3Fe,ax,seval,VX,aA]
  rw [←hj,iI aa]
theorem VF (l:List (aG)) (f:AV) (p:aG->Bool) (hf:f.closed=true) (mU:f.er=f) (hlen:l.length < cJ) (hp: ∀v∈l,dO cF gU f [(fun s=>cx s) v]=some (.bool (p v))) :
  cR 222 [.vsl (l.map (fun s=>cx s)) none,f]=some (.bool (l.any p)):=by
 have gH:aB (l.map (fun s=>cx s))=true:=by
  rw [hZ]; intro x hx; obtain ⟨y,_,rfl⟩:=List.mem_map.1 hx; simp only [AV.closed,aK]
 have Nb:dT (l.map (fun s=>cx s))=l.map (fun s=>cx s):=yu l
 refine aC (F:=F222) rfl ?_
 simp only [F222,ax,seval,VX,hf,mU,gH,Nb,Mf l f p hf mU hlen hp,kN]
def N8:=J @CZ.eq_1 (J @xh.eq_1 (J @xg.eq_1 (J @C0.eq_1 (J @xf.eq_1 (J @CY.eq_1 (@TX.eq_1))))))
def stepT (acc:List Bs) (y:Mem):List Bs:=if y.2.kind=3/\acc.length < 4 then acc ++ [y.2.s] else acc
def kI (acc:List Bs) (x:Mem):List Bs:=if x.2.kind=5 then x.2.m.foldl stepT acc else acc
def o7 (x:V):List Bs:=(cH x dm).1.m.foldl kI []
theorem LI {acc:List Bs} (y:Mem) (h:acc.length<=4):(stepT acc y).length<=4:=by
 unfold stepT; split
 ·simp; omega
 ·exact h
theorem uu: ∀(l:List Mem) {acc:List Bs},acc.length<=4->(l.foldl stepT acc).length<=4
 | [],_,h=>h
 | y ::l,acc,h=>uu l (LI y h)
theorem LK {acc:List Bs} (x:Mem) (h:acc.length<=4):(kI acc x).length<=4:=by
 unfold kI; split
 ·exact uu _ h
 ·exact h
theorem Bq {T:V} {y:Mem} (h:y∈T.m):y.2.sz<=T.sz:=by
 have key: ∀l:List Mem,y∈l->y.2.sz<=vU l:=by
  intro l
  induction l with
  | nil=>intro h; cases h
  | cons x l ih=>
   intro h
   obtain ⟨k,v⟩:=x
   rcases List.mem_cons.1 h with e | e
   ·subst e; simp [vU]; omega
   ·have:=ih e; simp [vU]; omega
 have:=key _ h
 cases T; simp [V.sz,V.m] at*; omega
theorem Be (x:V) (hb:x.sz < cJ):cR 192 [x.enc]=some (.vsl ((o7 x).map .str) none):=by
 have ht:=tT x dm hb
 have eA:=kS x dm
 unfold o7
 generalize (cH x dm).2=ok at ht
 generalize hT:(cH x dm).1=T at*
 refine aC (F:=TX) rfl ?_
 have hl:T.m.length < cJ:=by have:=gW T; omega
 unfold cJ at hl hb
 simp only [CZ,xh,xg,C0,xf,TX,ay,ax,seval,VX,ae,ht]
 refine aL (S:=Nat×List Bs×AV) (fun p=> [(5,p.2.2),(16, .vsl (T.m.map bx) none),(17, .int .i64 T.m.length),(18, .int .i64 (p.1:Int))]) (fun p=>T.m.length - p.1)
  (fun p σ=>Gr jR σ p.2.2 p.2.1/\p.2.1.length<=4/\(T.m.drop p.1).foldl kI p.2.1=T.m.foldl kI []) ?_ (0, [], .nils) _ ⟨?_,by simp,rfl⟩
 ·rintro b ⟨j,acc,v⟩ σ ⟨hg,hlen,hj⟩ ih
  simp only at hg hlen hj ih ⊢
  by_cases aN:j < T.m.length
  ·obtain ⟨y,hy⟩:=bM aN
   have bQ:=bV (f:=bx) (sz:=6) (c:=none) hy (by simp [bJ])
   have aA:=lS aN
   have hw:=cd aN aa
   have hn:=hg.newset
   rw [drop_cons hy,List.foldl_cons] at hj
   by_cases h5:y.2.kind=5
   ·have q5:(y.2.kind != 5)=false:=by simp [h5]
    have hyl:y.2.m.length < 4611686018427387904:=by
     have h1:=gW y.2
     have h2:=Bq (bH hy)
     omega
    rw [show kI acc y=y.2.m.foldl stepT acc from by rw [kI,if_pos h5]] at hj
    simp only [CZ,xh,xg,xf,CY,TX,ay,ax,seval,VX,ae,aA,bQ,q5]
    refine aL (S:=Nat×List Bs×AV) (fun p=> [(5,p.2.2),(16, .vsl (T.m.map bx) none),(17, .int .i64 T.m.length),(18, .int .i64 (j:Int)),(28, .vsl (y.2.m.map bx) none),(29, .int .i64 y.2.m.length),(30, .int .i64 (p.1:Int))]) (fun p=>y.2.m.length - p.1)
     (fun p σ=>Gr jR σ p.2.2 p.2.1/\p.2.1.length<=4/\(y.2.m.drop p.1).foldl stepT p.2.1=y.2.m.foldl stepT acc) ?_ (0,acc,v) _ ⟨hn _ _,hlen,rfl⟩
    rintro b2 ⟨k,ju,v2⟩ σ2 ⟨Xk,Kl,hk⟩ ir
    simp only at Xk Kl hk ir ⊢
    by_cases qc:k < y.2.m.length
    ·obtain ⟨z,hz⟩:=bM qc
     have lB:=bV (f:=bx) (sz:=6) (c:=none) hz (by simp [bJ])
     have yw:=lS qc
     have vM:=cd qc aa
     have BC:=Xk.newset
     rw [drop_cons hz,List.foldl_cons] at hk
     by_cases h3:z.2.kind=3
     ·have q3:(z.2.kind == 3)=true:=by simp [h3]
      by_cases h4:ju.length < 4
      ·have q4:decide ((ju.length:Int) < 4)=true:=by simp; omega
       have ui:=Xk.lenL
       have dI: ∀a b,aJ _ 1 16 v2 [.str z.2.s] 1=some _:=fun a b=>(BC a b).push (a:=z.2.s) (bytes:=16) aa (by unfold bg; omega)
       have jc:lenOf (.vsl [.str z.2.s] (some 1))=some 1:=rfl
       have nN: ∀σ',rowOf σ' 1 (.vsl [.str z.2.s] (some 1))=some [.str z.2.s]:=fun _=>rfl
       rw [show stepT ju z=ju ++ [z.2.s] from by rw [stepT,if_pos ⟨h3,h4⟩]] at hk
       simp only [N8,ax,seval,VX,ae,yw,lB,q3,q4,vM,dI,jc,nN,ui]
       exact ir (k+1,ju ++ [z.2.s],_) _ _ (by simp; omega) ⟨Gr.own ((BC _ _).next (by simp)),by simp; omega,by simpa using hk⟩ (by simp only [ax,seval]; rfl)
      ·have q4:decide ((ju.length:Int) < 4)=false:=by simp; omega
       rw [show stepT ju z=ju from by rw [stepT,if_neg (fun c=>h4 c.2)]] at hk
       simp only [N8,ax,seval,VX,ae,yw,lB,q3,q4,vM,Xk.lenL]
       exact ir (k+1,ju,v2) _ _ (by simp; omega) ⟨BC _ _,Kl,hk⟩ (by simp only [ax,seval])
     ·have q3:(z.2.kind == 3)=false:=by simp [h3]
      rw [show stepT ju z=ju from by rw [stepT,if_neg (fun c=>h3 c.1)]] at hk
      simp only [N8,ax,seval,VX,ae,yw,lB,q3,vM]
      exact ir (k+1,ju,v2) _ _ (by simp; omega) ⟨BC _ _,Kl,hk⟩ (by simp only [ax,seval])
    ·have yw:=lT (Nat.not_lt.1 qc)
     rw [bn aa] at hk
     have hk2:ju=y.2.m.foldl stepT acc:=hk
     simp only [N8,ax,seval,VX,ae,yw,hw]
     exact ih (j+1,ju,v2) _ _ (by simp; omega) ⟨Xk,Kl,by rw [hk2]; exact hj⟩ (by simp only [ax,seval])
   ·have q5:(y.2.kind != 5)=true:=by simp [h5]
    rw [show kI acc y=acc from by rw [kI,if_neg h5]] at hj
    simp only [N8,ax,seval,VX,ae,aA,bQ,hw,q5]
    exact ih (j+1,acc,v) _ _ (by simp; omega) ⟨hn _ _,hlen,hj⟩ (by simp only [ax,seval])
  ·have aA:=lT (Nat.not_lt.1 aN)
   rw [bn aa] at hj
   have Xf:acc=T.m.foldl kI []:=hj
   have W3:=hg.rbE
   simp only [N8,ax,seval,VX,aA,W3,Xf]
   rfl
 ·exact Gr.nil jR _
theorem Gr.idxA {α:Type} {L:fW α} {σ:ag} {v:AV} {l:List α} (h:Gr L σ v l) (hs:L.sz≠1) {j:Nat} {a:α} (hj:l[j]? =some a): ∃p,idxOf L.sz none v (.int .i64 (j:Int))=some p/\ec σ p (some L.sz)=some (L.f a):=by
 have aN:=ud hj
 have hag:=L.agg a
 rw [if_neg hs] at hag
 obtain ⟨cs,lC⟩:=hag
 have hl:=L.len a
 rw [lC] at hl
 simp only [AV.cells] at hl
 rcases h with ⟨rfl,rfl⟩ | ⟨b,rfl,h⟩ | rfl
 ·simp at hj
 ·refine ⟨.ptr b (j*L.sz),?_,?_⟩
  ·have h2:((j:Int) < (l.length:Int)):=by omega
   simp [Go.Ab.idxOf,h2]
  ·have h1:=h.1
   have e: ∀(l:List α) (j:Nat),l[j]? =some a->(L.cells l).drop (j*L.sz)=cs ++L.cells (l.drop (j+1)):=by
    intro l
    induction l with
    | nil=>intro j hj; simp at hj
    | cons x l ih=>
     intro j hj
     have hx:=L.len x
     have e1:L.cells (x ::l)=(L.f x).cells ++L.cells l:=by simp [fW.cells]
     cases j with
     | zero=>
      simp only [List.getElem?_cons_zero,ah] at hj
      subst hj
      rw [e1,lC,Nat.zero_mul]; rfl
     | succ j=>
      simp only [List.getElem?_cons_succ] at hj
      rw [e1,List.drop_append,hx]
      have e2:(j+1)*L.sz - L.sz=j*L.sz:=by rw [Nat.add_mul]; omega
      have e3:(L.f x).cells.drop ((j+1)*L.sz)= []:=bn (by rw [hx,Nat.add_mul]; omega)
      rw [e2,e3,ih j hj]
      simp
   have h3:=e l j hj
   have h4:=L.cells_len l
   have h5:j*L.sz+L.sz<=(L.cells l).length:=by
    rw [h4]
    calc j*L.sz+L.sz=(j+1)*L.sz:=by rw [Nat.add_mul]; omega
     _<=l.length*L.sz:=Nat.mul_le_mul_right _ aN
   simp only [ec,ag.cells,h1,dG]
   rw [if_pos h5,h3,List.take_append_of_le_length aa,aQ aa,lC]
 ·refine ⟨.vptr (L.f a).cells 0,bV (f:=L.f) hj (L.len a),?_⟩
  simp only [ec,lC,AV.cells,dG]
  rw [if_pos aa,List.drop_zero,aQ aa]
def Zj:=J @IV.eq_1 (J @C1.eq_1 (J @Ll.eq_1 (@Y8.eq_1)))
abbrev eN:Bs:= [112,117,98,108,105,99,95,107,101,121,115]
abbrev kG:Bs:= [112,117,98,108,105,99,95,107,101,121]
def YL:fW (aG) where
 f:=fun s=>cx s
 sz:=1
 pos:=by decide
 len _:=rfl
 closed s:=by simp only [AV.closed,aK]
 er s:=by simp only [AV.er,bS]
 one _:=rfl
 agg _:=rfl
def WR (x:V):aG:=(iN (bu x kG).1).getD []
def ma (acc:List (aG)) (x:V):List (aG):=if (bu x kG).2=true/\acc.length < 4 then acc ++ [WR x] else acc
def se (t:V):List (aG):=(said t ::ed (said t) eN).foldl ma []
theorem getE_b (o:Option (aG)): ∃e:Int,pA o= .tup [cx (o.getD []), .int .i64 e]:=by
 cases o with
 | none=>exact ⟨2,rfl⟩
 | some l=>exact ⟨0,rfl⟩
def farW (v w:AV):Prop:=∀b len sz c cE j4 c',w= .sl b 0 len sz c->v≠ .sl b 0 cE j4 c'
theorem keepW {σ:ag} {w v:AV} {L:List V} {acc m:List (aG)} (h:Gr LV σ w L) (hv:Gr YL σ v acc) (hd:farW v w):Gr LV (di YL σ v acc m) w L:=by
 rcases h with ⟨rfl,rfl⟩ | ⟨b,rfl,h1,h2,h3,h4⟩ | rfl
 ·exact .inl ⟨rfl,rfl⟩
 ·refine .inr (.inl ⟨b,rfl,?_,h2,?_,h4⟩)
  ·rw [gY hv h3 (fun len sz c e=>by
    rcases hv with ⟨rfl,_⟩ | ⟨b',rfl,_⟩ | rfl
    ·cases e
    ·cases e; exact hd b _ _ _ _ _ _ rfl rfl
    ·cases e)]
   exact h1
  ·rw [fY]; omega
 ·exact .inr (.inr rfl)
theorem gr_lt {α:Type} {L:fW α} {σ:ag} {w:AV} {l:List α} (h:Gr L σ w l) {b len sz:Nat} {c:aD} (e:w= .sl b 0 len sz c):b < σ.next:=by
 rcases h with ⟨rfl,_⟩ | ⟨b',rfl,_,_,h3,_⟩ | rfl
 ·cases e
 ·cases e; exact h3
 ·cases e
theorem app_V (X:V) (L:List V) (hL:L.length < lim): ∃(w:ag->AV) (S:ag->ag),(∀σ,aJ σ 5 80 (.vsl [X.enc] (some 1)) (LV.cells L) L.length=some (w σ,S σ))/\(∀σ,Gr LV (S σ) (w σ) (X ::L))/\∀σ,σ.next<=(S σ).next:=by
 unfold lim at hL
 cases L with
 | nil=>
  refine ⟨fun _=> .vsl [X.enc] (some 1),fun σ=>σ,fun σ=> ?_,fun σ=>Gr.lit LV σ [X],fun σ=>aE _⟩
  unfold aJ
  simp [lenOf,fW.cells,bg]
 | cons y L=>
  exact ⟨_,_,fun σ=>Gr.app (m:=y ::L) (bytes:=80) (Gr.lit LV σ [X]) (by decide) (by simp [bg] at*; omega) (by simp),fun σ=>Gr.own (Gr.next (Gr.lit LV σ [X]) (by simp)),fun σ=>by rw [fY]; omega⟩
theorem r_pubs (t:V) (hb:t.sz < lim):cR 191 [t.enc]=some (.vsl ((se t).map fun s=>cx s) none):=by
 have Nf:t.sz < cJ:=by unfold cJ lim at*; omega
 have hs:=tV t Nf
 have hss:=jU t
 unfold se
 generalize said t=X at*
 have hi:=JN X eN aa
 have hisz:=Ai X eN
 have hL:(ed X eN).length < lim:=by
  have h1:=sO X eN
  have h2:=ph (gO X eN).1
  have h3:(ed X eN).length<=(gO X eN).1.l.length:=by
   unfold ed; split
   ·exact aE _
   ·exact Nat.zero_le _
  omega
 generalize ed X eN=L at*
 refine aC (F:=Y8) rfl ?_
 have jc:lenOf (.vsl (L.map V.enc) none)=some L.length:=by simp [lenOf]
 have nN: ∀σ,rowOf σ 5 (.vsl (L.map V.enc) none)=some (LV.cells L):=fun σ=>LV.rowOf σ L none
 obtain ⟨w,S,hap,hgw,ES⟩:=app_V X L hL
 have hMsz: ∀x∈X ::L,x.sz < lim:=fun x hx=>by
  rcases List.mem_cons.1 hx with e | e
  ·subst e; omega
  ·have:=hisz x e; omega
 have hMl:(X ::L).length<=lim:=by rw [List.length_cons]; omega
 generalize hM:X ::L=M at*
 have hlw:=fun σ=>(hgw σ).lenL
 simp only [IV,C1,Y8,ay,ax,seval,VX,ae,hs,hi,jc,nN,hap,hlw]
 generalize ({ next:=1,m:= [(0,jS.own [.int .i64 X.kind, .int .i64 X.n, .str X.s, .vsl (X.l.map V.enc) none, .vsl (X.m.map bx) none]),(0,jS.own [.int .i64 t.kind, .int .i64 t.n, .str t.s, .vsl (t.l.map V.enc) none, .vsl (t.m.map bx) none])] }:ag)=σ0
 have hg0:=hgw σ0
 generalize w σ0=W at*
 generalize S σ0=σ1 at*
 clear hap hgw hlw ES jc nN hs hi hss hisz
 unfold lim at hMl
 refine aL (S:=Nat×List (aG)×AV) (fun p=> [(3,p.2.2),(16,W),(17, .int .i64 M.length),(18, .int .i64 (p.1:Int))]) (fun p=>M.length - p.1)
  (fun p σ=>Gr LV σ W M/\Gr YL σ p.2.2 p.2.1/\farW p.2.2 W/\p.2.1.length<=4/\(M.drop p.1).foldl ma p.2.1=M.foldl ma []) ?_ (0, [], .nils) _ ⟨hg0,Gr.nil YL _,(by intro _ _ _ _ _ _ _ _ e; cases e),by simp,rfl⟩
 rintro b ⟨j,acc,v⟩ σ ⟨hw,hg,hf,hlen,hj⟩ ih
 simp only at hw hg hf hlen hj ih ⊢
 by_cases aN:j < M.length
 ·obtain ⟨y,hy⟩:=bM aN
  obtain ⟨q,Ud,W5⟩:=hw.idxA (by decide) hy
  have Ud:idxOf 5 none W (.int .i64 (j:Int))=some q:=Ud
  have W5:ec σ q (some 5)=some y.enc:=W5
  have aA:=lS aN
  have hwr:=cd aN aa
  have hysz:=hMsz y (bH hy)
  have EM:=iF y kG (by unfold cJ lim at*; omega)
  have htl:=jB y kG
  have hG:=PB (bu y kG).1 aa
  obtain ⟨e,he⟩:=getE_b (iN (bu y kG).1)
  rw [he] at hG
  have hkb:(iN (bu y kG).1).getD []=WR y:=rfl
  rw [hkb] at hG
  have hn:=hg.newset
  have hwn:=hw.newset
  rw [drop_cons hy,List.foldl_cons] at hj
  have Hl:ma acc y=if (bu y kG).2=true/\acc.length < 4 then acc ++ [WR y] else acc:=rfl
  rw [Hl] at hj
  generalize WR y=kb at*
  generalize (bu y kG).1=s at*
  have ui:=hg.lenL
  cases zA:(bu y kG).2 with
  | false=>
   rw [zA] at EM hj
   rw [if_neg (by simp)] at hj
   simp only [Zj,ax,seval,VX,ae,aA,Ud,W5,EM,hwr]
   exact ih (j+1,acc,v) _ _ (by simp; omega) ⟨hwn _ _,hn _ _,hf,hlen,hj⟩ (by simp only [ax,seval])
  | true=>
   rw [zA] at EM hj
   by_cases h4:acc.length < 4
   ·rw [if_pos ⟨rfl,h4⟩] at hj
    have q4:decide ((acc.length:Int) < 4)=true:=by simp; omega
    have dI: ∀a b,aJ _ 1 24 v [cx kb] 1=some _:=fun a b=>(hn a b).push (a:=kb) (bytes:=24) aa (by unfold bg; omega)
    have hlo1:lenOf (.vsl [cx kb] (some 1))=some 1:=rfl
    have hro1: ∀σ',rowOf σ' 1 (.vsl [cx kb] (some 1))=some [cx kb]:=fun _=>rfl
    simp only [cx] at hG dI hlo1 hro1
    simp only [Zj,ax,seval,VX,ae,aA,Ud,W5,EM,hwr,ui,q4,hG,dI,hlo1,hro1]
    exact ih (j+1,acc ++ [kb],_) _ _ (by simp; omega) ⟨keepW (hwn _ _) (hn _ _) hf,Gr.own ((hn _ _).next (by simp)),(by
     intro b len sz c cE j4 c' e h
     have:=gr_lt hw e
     have h2:σ.next+1=b:=by cases h; rfl
     omega),by simp; omega,hj⟩ (by simp only [ax,seval]; rfl)
   ·rw [if_neg (fun c=>h4 c.2)] at hj
    have q4:decide ((acc.length:Int) < 4)=false:=by simp; omega
    simp only [Zj,ax,seval,VX,ae,aA,Ud,W5,EM,hwr,ui,q4]
    exact ih (j+1,acc,v) _ _ (by simp; omega) ⟨hwn _ _,hn _ _,hf,hlen,hj⟩ (by simp only [ax,seval])
 ·have aA:=lT (Nat.not_lt.1 aN)
  rw [bn aa] at hj
  have Xf:acc=M.foldl ma []:=hj
  have W3:=hg.rbE
  simp only [Zj,ax,seval,VX,aA,W3,Xf]
  rfl
def B6Fa:= @F193.eq_1
abbrev fP2 (msg:Bs) (sig:aG):AV:= .fn 221 [] [.vptr [.str msg] 0, .vptr [cx sig] 0]
abbrev fP1 (gN:List (aG)) (msg:Bs):AV:= .fn 193 [] [.vptr [.vsl (gN.map fun s=>cx s) none] 0, .vptr [.str msg] 0]
def n6 (gN:List (aG)) (msg:Bs) (s:Bs):Bool:=match iN s with
 | some sig=>gN.any fun pub=>qA cO pub msg sig
 | none=>false
theorem Pb {σ:ag} {b d:Nat} {cs:ai} (h:look σ.m b=some (.own cs)) (hc:aB cs=true):rb σ (d+1) (.ptr b 0)=some (.vptr cs 0):=by
 have hb:σ.cells b=some cs:=by unfold ag.cells ag.get; rw [h]
 rw [rb,if_neg (by simp [AV.closed])]
 simp only [hb,cP hc]
theorem Pd {σ:ag} {d f:Nat} {c c':ai} (h:dt (rb σ d) c=some c') (nc:aB c=false):rb σ (d+1) (.fn f [] c)=some (.fn f [] c'):=by
 rw [rb,if_neg (by simp [AV.closed,nc])]
 simp only [dt,h]
theorem SI {σ:ag} {b:Nat} {gN:List (aG)} {msg:Bs} {sig:aG} {st r:Bool} (h:look σ.m b=some (.own [cx sig])) (hA:cR 222 [.vsl (gN.map fun s=>cx s) none,fP2 msg sig]=some (.bool r)) :
  fZ cF gU st (.fn 222 [] []) [.vsl (gN.map fun s=>cx s) none, .fn 221 [] [.vptr [.str msg] 0, .ptr b 0]] σ=some (.bool r,σ):=by
 have hc:aB (gN.map fun s=>cx s)=true:=du fun a _=>YL.closed a
 have k1:dt (rb σ 23) [.vptr [.str msg] 0, .ptr b 0]=some [.vptr [.str msg] 0, .vptr [cx sig] 0]:=by
  simp only [dt,cj (show (AV.vptr [.str msg] 0).closed=true from rfl),show (23:Nat)=22+1 from rfl,Pb h (show aB [cx sig]=true from by simp only [aB,AV.closed,aK,aV])]
 refine gl (args':= [.vsl (gN.map fun s=>cx s) none,fP2 msg sig]) rfl ?_ ?_ rfl
 ·simp only [dt,cj (show (AV.vsl (gN.map fun s=>cx s) none).closed=true from by simp only [AV.closed,hc]),show bK=23+1 from rfl,Pd k1 rfl]
 ·rw [show dT [AV.vsl (gN.map fun s=>cx s) none,fP2 msg sig]= [AV.vsl (gN.map fun s=>cx s) none,fP2 msg sig] from by simp only [dD,gM,jr,yu,AV.er,bS]]
  exact hA
theorem r_p221 {msg:Bs} (hm:msg.length < 1099511000000) (sig pub:aG):dO cF gU (fP2 msg sig) [cx pub]=some (.bool (qA cO pub msg sig)):=by
 rw [vA]
 show cR 221 [cx pub, .vptr [.str msg] 0, .vptr [cx sig] 0]=_
 have h:=PE (pub:=pub) (sig:=sig) hm
 refine aC (F:=F221) rfl ?_
 simp only [cx] at h ⊢
 simp only [F221,ax,seval,VX,ae,aK,bS,h]
 done
theorem r_p193 {gN:List (aG)} {msg:Bs} (hm:msg.length < 1099511000000) (hp:gN.length < cJ) (s:Bs) (hs:s.length < lim):dO cF gU (fP1 gN msg) [.str s]=some (.bool (n6 gN msg s)):=by
 rw [vA]
 show cR 193 [.str s, .vptr [.vsl (gN.map fun s=>cx s) none] 0, .vptr [.str msg] 0]=_
 have hG:=PB s hs
 have gH:aB (gN.map fun s=>cx s)=true:=du fun a _=>YL.closed a
 have Nb:=yu gN
 unfold n6
 refine aC (F:=F193) rfl ?_
 cases hg:iN s with
 | none=>
  rw [hg] at hG
  simp only [pA] at hG
  simp only [B6Fa,ax,seval,VX,ae,hG,gH,Nb]
  done
 | some sig=>
  rw [hg] at hG
  simp only [pA] at hG
  have hA:=VF gN (fP2 msg sig) (fun pub=>qA cO pub msg sig) (by simp only [AV.closed,aB,aK,aV]) (by simp only [AV.er,dD,gM,bS]) hp (fun v _=>r_p221 hm sig v)
  have hC:=fun (σ:ag) (h:look σ.m 0=some (.own [cx sig]))=>SI (st:=false) h hA
  simp only [cx] at hG hC gH Nb ⊢
  simp only [B6Fa,ax,seval,VX,ae,hG,gH,Nb,hC,aK,bS]
  done
def B7Fa:= @Y9.eq_1
def nZ (m t:V) (msg:Bs):Bool:=(bT m).2 && (o7 (bT m).1).any (n6 (se t) msg)
theorem OR {n:Nat} {acc:List Bs} {y:Mem} (h: ∀s∈acc,s.length<=n) (hy:y.2.sz<=n): ∀s∈stepT acc y,s.length<=n:=by
 intro s hs
 unfold stepT at hs
 split at hs
 ·rcases List.mem_append.1 hs with k | k
  ·exact h s k
  ·simp only [List.mem_singleton] at k
   subst k
   have:=y.2.sz_eq
   omega
 ·exact h s hs
theorem yB {n:Nat}: ∀(l:List Mem) {acc:List Bs},(∀s∈acc,s.length<=n)->(∀y∈l,y.2.sz<=n)->∀s∈l.foldl stepT acc,s.length<=n
 | [],_,h,_=>h
 | y ::l,acc,h,hl=>yB l (OR h (hl y (by simp))) (fun z hz=>hl z (by simp [hz]))
theorem Fc {n:Nat}: ∀(l:List Mem) {acc:List Bs},(∀s∈acc,s.length<=n)->(∀y∈l,y.2.sz<=n)->∀s∈l.foldl kI acc,s.length<=n
 | [],_,h,_=>h
 | y ::l,acc,h,hl=>Fc l (by
   unfold kI; split
   ·exact yB _ h (fun z hz=>Nat.le_trans (Bq hz) (hl y (by simp)))
   ·exact h) (fun z hz=>hl z (by simp [hz]))
theorem LD (x:V): ∀s∈o7 x,s.length<=x.sz:=by
 have h:=kS x dm
 exact Fc _ (by simp) (fun y hy=>Nat.le_trans (Bq hy) h)
theorem Aw: ∀(l:List Mem) {acc:List Bs},acc.length<=4->(l.foldl kI acc).length<=4
 | [],_,h=>h
 | y ::l,_,h=>Aw l (LK y h)
theorem Au: ∀(l:List V) {acc:List (aG)},acc.length<=4->(l.foldl ma acc).length<=4
 | [],_,h=>h
 | y ::l,acc,h=>Au l (by
   unfold ma; split
   ·simp; omega
   ·exact h)
theorem SJ {σ:ag} {b c:Nat} {ts:List Bs} {gN:List (aG)} {msg:Bs} {st r:Bool} (h:look σ.m b=some (.own [.vsl (gN.map fun s=>cx s) none])) (h':look σ.m c=some (.own [.str msg])) (hA:cR 194 [.vsl (ts.map .str) none,fP1 gN msg]=some (.bool r)) :
  fZ cF gU st (.fn 194 [] []) [.vsl (ts.map .str) none, .fn 193 [] [.ptr b 0, .ptr c 0]] σ=some (.bool r,σ):=by
 have hc:aB (gN.map fun s=>cx s)=true:=du fun a _=>YL.closed a
 have rJ:aB (ts.map AV.str)=true:=du fun a _=>jR.closed a
 have k1:dt (rb σ 23) [.ptr b 0, .ptr c 0]=some [.vptr [.vsl (gN.map fun s=>cx s) none] 0, .vptr [.str msg] 0]:=by
  simp only [dt,show (23:Nat)=22+1 from rfl,Pb h (show aB [AV.vsl (gN.map fun s=>cx s) none]=true from by simp only [aB,AV.closed,hc,aV]),Pb h' rfl]
 refine gl (args':= [.vsl (ts.map .str) none,fP1 gN msg]) rfl ?_ ?_ rfl
 ·simp only [dt,cj (show (AV.vsl (ts.map AV.str) none).closed=true from by simp only [AV.closed,rJ]),show bK=23+1 from rfl,Pd k1 rfl]
 ·rw [show dT [AV.vsl (ts.map AV.str) none,fP1 gN msg]= [AV.vsl (ts.map AV.str) none,fP1 gN msg] from by simp only [dD,gM,jr,Ko,yu,AV.er]]
  exact hA
theorem Ed {m t:V} {msg:Bs} {e:Int} (hbm:m.sz < lim) (E2:t.sz < lim) (hm:msg.length < 1099511000000)
  (hw:(bT m).2=true->cR 190 [(nB (bT m).1 [dm]).enc]=some (.tup [.str msg, .int .i64 e])):cR 172 [m.enc,t.enc]=some (.bool (nZ m t msg)):=by
 have Nf:m.sz < cJ:=by unfold cJ lim at*; omega
 have hs:=DQ m Nf
 have eA:=qW m
 have hp:=r_pubs t E2
 have Oe:(se t).length<=4:=Au _ (by simp)
 unfold nZ
 generalize (bT m).1=X at*
 cases zA:(bT m).2 with
 | false=>
  rw [zA] at hs
  refine aC (F:=Y9) rfl ?_
  simp only [B7Fa,ax,seval,VX,ae,hs,Bool.false_and]
 | true=>
  rw [zA] at hs
  have hw:=hw zA
  have hD:cR 131 [X.enc, .vsl [.str dm] none]=some (nB X [dm]).enc:=r_Drop X [dm] (by have:=gW X; omega) (by simp [cJ])
  have ht:=Be X aa
  have W0:=LD X
  have htl:(o7 X).length<=4:=Aw _ (by simp)
  generalize se t=P at*
  generalize o7 X=T at*
  generalize nB X [dm]=D at*
  have hA:=VE T (fP1 P msg) (n6 P msg) (by simp only [AV.closed,aB,du (fun a (_:a∈P)=>YL.closed a),show (fun s=>cx s)=YL.f from rfl,aV]) (by simp only [AV.er,dD,gM,yu]) (by unfold cJ; omega) (fun s hs=>r_p193 hm (by unfold cJ; omega) s (by have:=W0 s hs; omega))
  have hC:=fun (σ:ag) (h:look σ.m 2=_) (h':look σ.m 1=_)=>SJ (b:=2) (c:=1) (st:=false) (σ:=σ) h h' hA
  refine aC (F:=Y9) rfl ?_
  rw [Bool.true_and]
  simp only [cx] at hp hC ⊢
  simp only [B7Fa,ax,seval,VX,ae,hs,hD,hw,hp,ht,hC]
  done
end Go.Ab
