/- What functions of the program, and of the library, answer. Conditions: none. -/
import Derived.Test.YtgfeimceppggcaaGreatDoorLaw5
import Derived.Test.YtgfeimceppggcaaGreatDoorEx
set_option linter.unusedVariables false
set_option linter.unusedSimpArgs false
set_option linter.defProp false
set_option linter.unnecessarySimpa false
namespace Go.Ab
set_option maxRecDepth 100000
set_option maxHeartbeats 1000000
def xT:Option (K×K)->AV
 | some p=> .tup [aw p.1.val,aw p.2.val, .bool true]
 | none=> .tup [aw 0,aw 0, .bool false]
theorem U1 (n k:Nat) (hk:k < 8):aY .shr .u8 (n:Int) (k:Int)=some (.int .u8 ((n / 2 ^ k:Nat):Int)):=by
 unfold aY
 rw [if_neg aa]
 show some (AV.int .u8 ((n:Int).fdiv (2 ^ (min (k:Int).toNat (IntKind.bits .u8)))))=_
 have e:min (k:Int).toNat (IntKind.bits .u8)=k:=by
  show min k 8=k; omega
 rw [e,show ((2:Int) ^ k)=((2 ^ k:Nat):Int) by simp,Int.fdiv_eq_ediv_of_nonneg _ (Int.natCast_nonneg _),←Int.natCast_ediv]
theorem and8 (n:Nat):IntKind.wrap .u8 ((BitVec.ofInt (IntKind.bits .u8) (n:Int) &&& BitVec.ofInt (IntKind.bits .u8) 1).toNat:Int)=((n % 2:Nat):Int):=by
 show IntKind.wrap .u8 ((BitVec.ofInt 8 (n:Int) &&& BitVec.ofInt 8 1).toNat:Int)=_
 rw [kY,BitVec.toNat_and,show (BitVec.ofInt 8 1).toNat=1 from rfl,Nat.and_one_is_mod,BitVec.ofInt_natCast,BitVec.toNat_ofNat]
 congr 1; omega
theorem r_sbit {s:aG} {i:Nat} (h:s.length=32) (hi:i < 256):cR 284 [bG s, .int .i64 (i:Int)]=some (.bool (decide (bL s / 2 ^ i % 2=1))):=by
 obtain ⟨c,hc⟩ : ∃c,s[i / 8]? =some c:=⟨s[i / 8]'(by omega),bo aa⟩
 have hb:=S3 hc
 have fS:(af s)[i / 8]? =some (.int .u8 (c.toNat:Int)):=by
  rw [af,bO,hc]; rfl
 have vl:=iu (k:= .i64) (n:=32) (b:=0) (j:=i / 8) aa
 have Dk:Int.tdiv (i:Int) 8=((i / 8:Nat):Int):=rfl
 have dZ:Int.tmod (i:Int) 8=((i % 8:Nat):Int):=rfl
 have hq:IntKind.wrap .i64 ((i / 8:Nat):Int)=((i / 8:Nat):Int):=aP aa aa
 have hm:IntKind.wrap .i64 ((i % 8:Nat):Int)=((i % 8:Nat):Int):=aP aa aa
 have h1:decide ((i:Int)≥0)=true:=by simp
 have h2:decide ((i:Int) < 256)=true:=by simp; omega
 have E9:decide ((0:Int)<=(i:Int))=true:=by simp
 have od:=U1 c.toNat (i % 8) (bb _ (by decide))
 have hand:=and8 (c.toNat / 2 ^ (i % 8))
 have dx:(((c.toNat / 2 ^ (i % 8) % 2:Nat):Int) == 1)=decide (c.toNat / 2 ^ (i % 8) % 2=1):=by
  rw [Bool.eq_iff_iff,beq_iff_eq,decide_eq_true_iff]; omega
 refine aC (F:=F284) rfl ?_
 rw [hb]
 simp only [F284,ax,seval,ae,bG,fS,vl,Dk,dZ,hq,hm,h1,E9,h2,od,hand,dx]
theorem zL (b0 b1 b2 b3 b4 b5 b6 b7 b8 b9 fJ fI fG fF fE fD eY fC fB fA fy fx fw fu fe ft fq fk fj fh fg fb:UInt8):bL [b0,b1,b2,b3,b4,b5,b6,b7,b8,b9,fJ,fI,fG,fF,fE,fD,eY,fC,fB,fA,fy,fx,fw,fu,fe,ft,fq,fk,fj,fh,fg,fb &&& 127]=bL [b0,b1,b2,b3,b4,b5,b6,b7,b8,b9,fJ,fI,fG,fF,fE,fD,eY,fC,fB,fA,fy,fx,fw,fu,fe,ft,fq,fk,fj,fh,fg,fb] % 2 ^ 255/\bL [b0,b1,b2,b3,b4,b5,b6,b7,b8,b9,fJ,fI,fG,fF,fE,fD,eY,fC,fB,fA,fy,fx,fw,fu,fe,ft,fq,fk,fj,fh,fg,fb] / 2 ^ 255 % 2=fb.toNat / 128:=by
 have e (c:UInt8):bL [b0,b1,b2,b3,b4,b5,b6,b7,b8,b9,fJ,fI,fG,fF,fE,fD,eY,fC,fB,fA,fy,fx,fw,fu,fe,ft,fq,fk,fj,fh,fg,c]=bL [b0,b1,b2,b3,b4,b5,b6,b7,b8,b9,fJ,fI,fG,fF,fE,fD,eY,fC,fB,fA,fy,fx,fw,fu,fe,ft,fq,fk,fj,fh,fg]+2 ^ 248*c.toNat:=by
  have e1:bL [c]=c.toNat:=by simp [bL]
  rw [show [b0,b1,b2,b3,b4,b5,b6,b7,b8,b9,fJ,fI,fG,fF,fE,fD,eY,fC,fB,fA,fy,fx,fw,fu,fe,ft,fq,fk,fj,fh,fg,c]= [b0,b1,b2,b3,b4,b5,b6,b7,b8,b9,fJ,fI,fG,fF,fE,fD,eY,fC,fB,fA,fy,fx,fw,fu,fe,ft,fq,fk,fj,fh,fg] ++ [c] from rfl,we,e1,show [b0,b1,b2,b3,b4,b5,b6,b7,b8,b9,fJ,fI,fG,fF,fE,fD,eY,fC,fB,fA,fy,fx,fw,fu,fe,ft,fq,fk,fj,fh,fg].length=31 from rfl,show (256:Nat) ^ 31=2 ^ 248 by decide]
 have hl:bL [b0,b1,b2,b3,b4,b5,b6,b7,b8,b9,fJ,fI,fG,fF,fE,fD,eY,fC,fB,fA,fy,fx,fw,fu,fe,ft,fq,fk,fj,fh,fg] < 2 ^ 248:=kR (rk _) (by rw [show [b0,b1,b2,b3,b4,b5,b6,b7,b8,b9,fJ,fI,fG,fF,fE,fD,eY,fC,fB,fA,fy,fx,fw,fu,fe,ft,fq,fk,fj,fh,fg].length=31 from rfl])
 have hc:(fb &&& 127).toNat=fb.toNat % 128:=by
  rw [UInt8.toNat_and]; exact Nat.and_two_pow_sub_one_eq_mod _ 7
 have:=fb.toNat_lt
 rw [e,e,hc]
 omega
theorem lL {p:UInt8->Bool} (h:((List.range 256).all fun n=>p (UInt8.ofNat n))=true) (b:UInt8):p b=true:=by
 have:=bj.1 h b.toNat (List.mem_range.2 b.toNat_lt)
 rwa [UInt8.ofNat_toNat] at this
theorem w_top (b:UInt8):(!(IntKind.wrap .u8 ((BitVec.ofInt (IntKind.bits .u8) (b.toNat:Int) &&& BitVec.ofInt (IntKind.bits .u8) 128).toNat:Int) == 0))=decide (b.toNat / 128=1):=
 eq_of_beq (lL (p:=fun b=>(!(IntKind.wrap .u8 ((BitVec.ofInt (IntKind.bits .u8) (b.toNat:Int) &&& BitVec.ofInt (IntKind.bits .u8) 128).toNat:Int) == 0)) == decide (b.toNat / 128=1)) (by kernel_rfl) b)
theorem rQ (b:UInt8):IntKind.wrap .u8 ((BitVec.ofInt (IntKind.bits .u8) (b.toNat:Int) &&& ~~~ BitVec.ofInt (IntKind.bits .u8) 128).toNat:Int)=((b &&& 127).toNat:Int):=
 eq_of_beq (lL (p:=fun b=>IntKind.wrap .u8 ((BitVec.ofInt (IntKind.bits .u8) (b.toNat:Int) &&& ~~~ BitVec.ofInt (IntKind.bits .u8) 128).toNat:Int) == ((b &&& 127).toNat:Int)) (by kernel_rfl) b)
theorem DZ (X:Nat):cR 308 [aw X]=some (bG (toLE 32 X)):=by
 refine aC (F:=F308) rfl ?_
 rw [F9]
 simp only [bG,af,List.map_cons,List.map_nil]
 simp only [F308,ax,seval,ae,ay,aT,@aP,@bk,@qN,aw,@sh_v,@wr_8,U]
theorem w_from (b0 b1 b2 b3 b4 b5 b6 b7 b8 b9 fJ fI fG fF fE fD eY fC fB fA fy fx fw fu fe ft fq fk fj fh fg fb:UInt8):cR 294 [.agg [.int .u8 (b0.toNat:Int), .int .u8 (b1.toNat:Int), .int .u8 (b2.toNat:Int), .int .u8 (b3.toNat:Int), .int .u8 (b4.toNat:Int), .int .u8 (b5.toNat:Int), .int .u8 (b6.toNat:Int), .int .u8 (b7.toNat:Int), .int .u8 (b8.toNat:Int), .int .u8 (b9.toNat:Int), .int .u8 (fJ.toNat:Int), .int .u8 (fI.toNat:Int), .int .u8 (fG.toNat:Int), .int .u8 (fF.toNat:Int), .int .u8 (fE.toNat:Int), .int .u8 (fD.toNat:Int), .int .u8 (eY.toNat:Int), .int .u8 (fC.toNat:Int), .int .u8 (fB.toNat:Int), .int .u8 (fA.toNat:Int), .int .u8 (fy.toNat:Int), .int .u8 (fx.toNat:Int), .int .u8 (fw.toNat:Int), .int .u8 (fu.toNat:Int), .int .u8 (fe.toNat:Int), .int .u8 (ft.toNat:Int), .int .u8 (fq.toNat:Int), .int .u8 (fk.toNat:Int), .int .u8 (fj.toNat:Int), .int .u8 (fh.toNat:Int), .int .u8 (fg.toNat:Int), .int .u8 (fb.toNat:Int)]]=some (.agg [U (w8 b0 b1 b2 b3 b4 b5 b6 b7),U (w8 b8 b9 fJ fI fG fF fE fD),U (w8 eY fC fB fA fy fx fw fu),U (w8 fe ft fq fk fj fh fg fb)]):=by
 refine aC (F:=F294) rfl ?_
 simp only [F294,ax,seval,ae,ay,aT,@aP,@bk,@qN,@j8,@O2,tF,Wf,rP,iy,U,w8]
theorem JI {s:aG} (h:s.length=32):cR 294 [bG s]=some (aw (bL s)):=by
 match s,h with
 | [b0,b1,b2,b3,b4,b5,b6,b7,b8,b9,fJ,fI,fG,fF,fE,fD,eY,fC,fB,fA,fy,fx,fw,fu,fe,ft,fq,fk,fj,fh,fg,fb],_=>rw [Qs,dS]; exact w_from b0 b1 b2 b3 b4 b5 b6 b7 b8 b9 fJ fI fG fF fE fD eY fC fB fA fy fx fw fu fe ft fq fk fj fh fg fb
theorem r_rBit {s:aG} {i:Nat} (h:s.length=32) (hi:i < 256):cR 311 [bG s, .int .i64 (i:Int)]=some (.bool (decide (bL s / 2 ^ i % 2=1))):=by
 obtain ⟨c,hc⟩ : ∃c,s[i / 8]? =some c:=⟨s[i / 8]'(by omega),bo aa⟩
 have hb:=S3 hc
 have fS:(af s)[i / 8]? =some (.int .u8 (c.toNat:Int)):=by
  rw [af,bO,hc]; rfl
 have vl:=iu (k:= .i64) (n:=32) (b:=0) (j:=i / 8) aa
 have Dk:Int.tdiv (i:Int) 8=((i / 8:Nat):Int):=rfl
 have dZ:Int.tmod (i:Int) 8=((i % 8:Nat):Int):=rfl
 have hq:IntKind.wrap .i64 ((i / 8:Nat):Int)=((i / 8:Nat):Int):=aP aa aa
 have hm:IntKind.wrap .i64 ((i % 8:Nat):Int)=((i % 8:Nat):Int):=aP aa aa
 have h1:decide ((i:Int)≥0)=true:=by simp
 have h2:decide ((i:Int) < 256)=true:=by simp; omega
 have E9:decide ((0:Int)<=(i:Int))=true:=by simp
 have od:=U1 c.toNat (i % 8) (bb _ (by decide))
 have hand:=and8 (c.toNat / 2 ^ (i % 8))
 have dx:(((c.toNat / 2 ^ (i % 8) % 2:Nat):Int) == 1)=decide (c.toNat / 2 ^ (i % 8) % 2=1):=by
  rw [Bool.eq_iff_iff,beq_iff_eq,decide_eq_true_iff]; omega
 refine aC (F:=F311) rfl ?_
 rw [hb]
 simp only [F311,ax,seval,ae,bG,fS,vl,Dk,dZ,hq,hm,h1,E9,h2,od,hand,dx]
def FY:= @F286.eq_1
def Gd (y:Nat):Nat:=aF (cU (aF y y) 1) (vL (eZ (aF (aF y y) uw) 1))
theorem hyL (m:Nat) (h:m < PP):cN m=⟨m,h⟩:=Fin.ext (aO h)
theorem hqL (m:Nat):r7 (Gd m)=(oL ((cN m*cN m - 1)*cY (cN m*cN m*dK+1))).map Fin.val:=by
   rw [DH,Gd,dr,nD,dr,B9,wG,dr,dr,SV,cN_1]
theorem By {X:Nat} (hX:X < aM):vL X < aM:=v8 hX _ 256 1 (by decide+kernel)
theorem U7 {X x:Nat} (h:r7 X=some x):x < PP:=by
 rw [DH,cp] at h
 obtain ⟨a,_,rfl⟩:=h
 exact a.isLt
def Ge (n:Nat):Option (Nat×Nat):=
 if n % 2 ^ 255 < PP then
  match r7 (Gd (n % 2 ^ 255)) with
  | none=>none
  | some x=>if n / 2 ^ 255 % 2=1 then if x=0 then none else some (cU 0 x % PP,n % 2 ^ 255) else some (x,n % 2 ^ 255)
 else none
theorem MQ (x:K):cU 0 x.val % PP=(0 - x).val:=o5 (by rw [nD,XR,oF])
theorem UW (R:Option K) (y:K) (c:Prop) [Decidable c] :(match R.map Fin.val with
  | none=>none
  | some x=>if c then if x=0 then none else some (cU 0 x % PP,y.val) else some (x,y.val))=(match R with
  | none=>(none:Option (K×K))
  | some x=>if c then if x=0 then none else some (0 - x,y) else some (x,y)).map (fun p:K×K=>(p.1.val,p.2.val)):=by
 cases R with
 | none=>rfl
 | some x=>
  have hx:=MQ x
  have hz:x.val=0↔x=0:=⟨fun h=>Fin.ext h,fun h=>by rw [h]; rfl⟩
  simp only [Option.map_some,hx,hz]
  by_cases c1:c
  ·rw [if_pos c1,if_pos c1]
   by_cases c2:x=0
   ·rw [if_pos c2,if_pos c2,Option.map_none]
   ·rw [if_neg c2,if_neg c2,Option.map_some]
  ·rw [if_neg c1,if_neg c1,Option.map_some]
theorem z7 {n:Nat} (h: ¬n % 2 ^ 255 < PP):dA n=none:=dif_neg h
def HE (c:Prop) [Decidable c] (y:K):Option K->Option (K×K)
 | none=>none
 | some x=>if c then if x=0 then none else some (0 - x,y) else some (x,y)
def HC (c:Prop) [Decidable c] (y:Nat):aD->Option (Nat×Nat)
 | none=>none
 | some x=>if c then if x=0 then none else some (cU 0 x % PP,y) else some (x,y)
theorem HD (c:Prop) [Decidable c] (y:K) (R:Option K):(match R with
  | none=>none
  | some x=>if c then if x=0 then none else some (0 - x,y) else some (x,y))=HE c y R:=by cases R <;> rfl
theorem HB (c:Prop) [Decidable c] (y:Nat) (R:aD):(match R with
  | none=>none
  | some x=>if c then if x=0 then none else some (cU 0 x % PP,y) else some (x,y))=HC c y R:=by cases R <;> rfl
theorem XA (c:Prop) [Decidable c] (y:K) (R:Option K):HC c y.val (R.map Fin.val)=(HE c y R).map fun p:K×K=>(p.1.val,p.2.val):=UW R y c
theorem z6 {n:Nat} (h:n % 2 ^ 255 < PP):dA n=HE (n / 2 ^ 255 % 2=1) ⟨n % 2 ^ 255,h⟩ (oL (((⟨n % 2 ^ 255,h⟩ :K)*⟨n % 2 ^ 255,h⟩ - 1)*cY ((⟨n % 2 ^ 255,h⟩ :K)*⟨n % 2 ^ 255,h⟩*dK+1))):=by
 unfold dA
 rw [dif_pos h]
 exact HD _ _ _
theorem Dy {n:Nat} (h:n % 2 ^ 255 < PP):Ge n=HC (n / 2 ^ 255 % 2=1) (n % 2 ^ 255) (r7 (Gd (n % 2 ^ 255))):=by
 unfold Ge
 rw [if_pos h]
 exact HB _ _ _
theorem UX (n:Nat):Ge n=(dA n).map fun p=>(p.1.val,p.2.val):=by
 by_cases h:n % 2 ^ 255 < PP
 ·rw [Dy h,z6 h,hqL,hyL _ h]
  exact XA _ ⟨n % 2 ^ 255,h⟩ _
 ·rw [z7 h,Option.map_none,Ge,if_neg h]
theorem mL (b:UInt8):(IntKind.wrap .u8 ((BitVec.ofInt (IntKind.bits .u8) (b.toNat:Int) &&& BitVec.ofInt (IntKind.bits .u8) 128).toNat:Int) != 0)=decide (b.toNat / 128=1):=w_top b
theorem Qw:(IntKind.u64 == IntKind.u64)=true:=rfl
theorem UH (b0 b1 b2 b3 b4 b5 b6 b7 b8 b9 fJ fI fG fF fE fD eY fC fB fA fy fx fw fu fe ft fq fk fj fh fg fb:UInt8):cR 286 [bG [b0,b1,b2,b3,b4,b5,b6,b7,b8,b9,fJ,fI,fG,fF,fE,fD,eY,fC,fB,fA,fy,fx,fw,fu,fe,ft,fq,fk,fj,fh,fg,fb]]=some (xT (dA (bL [b0,b1,b2,b3,b4,b5,b6,b7,b8,b9,fJ,fI,fG,fF,fE,fD,eY,fC,fB,fA,fy,fx,fw,fu,fe,ft,fq,fk,fj,fh,fg,fb]))):=by
 have W0:=zL b0 b1 b2 b3 b4 b5 b6 b7 b8 b9 fJ fI fG fF fE fD eY fC fB fA fy fx fw fu fe ft fq fk fj fh fg fb
 have zn:([b0,b1,b2,b3,b4,b5,b6,b7,b8,b9,fJ,fI,fG,fF,fE,fD,eY,fC,fB,fA,fy,fx,fw,fu,fe,ft,fq,fk,fj,fh,fg,fb &&& 127] :aG).length=32:=rfl
 have hg:=VA zn
 have zk:=A9 zn
 have hm:bL ([b0,b1,b2,b3,b4,b5,b6,b7,b8,b9,fJ,fI,fG,fF,fE,fD,eY,fC,fB,fA,fy,fx,fw,fu,fe,ft,fq,fk,fj,fh,fg,fb &&& 127] :aG) < aM:=qa zn
 rw [W0.1] at hg zk hm
 have hw:decide (fb.toNat / 128=1)=decide (bL [b0,b1,b2,b3,b4,b5,b6,b7,b8,b9,fJ,fI,fG,fF,fE,fD,eY,fC,fB,fA,fy,fx,fw,fu,fe,ft,fq,fk,fj,fh,fg,fb] / 2 ^ 255 % 2=1):=by rw [W0.2]
 have hE:(dA (bL [b0,b1,b2,b3,b4,b5,b6,b7,b8,b9,fJ,fI,fG,fF,fE,fD,eY,fC,fB,fA,fy,fx,fw,fu,fe,ft,fq,fk,fj,fh,fg,fb])).map (fun p=>(p.1.val,p.2.val))=Ge (bL [b0,b1,b2,b3,b4,b5,b6,b7,b8,b9,fJ,fI,fG,fF,fE,fD,eY,fC,fB,fA,fy,fx,fw,fu,fe,ft,fq,fk,fj,fh,fg,fb]):=(UX _).symm
 have hO:xT (dA (bL [b0,b1,b2,b3,b4,b5,b6,b7,b8,b9,fJ,fI,fG,fF,fE,fD,eY,fC,fB,fA,fy,fx,fw,fu,fe,ft,fq,fk,fj,fh,fg,fb]))=match Ge (bL [b0,b1,b2,b3,b4,b5,b6,b7,b8,b9,fJ,fI,fG,fF,fE,fD,eY,fC,fB,fA,fy,fx,fw,fu,fe,ft,fq,fk,fj,fh,fg,fb]) with
  | some p=> .tup [aw p.1,aw p.2, .bool true]
  | none=> .tup [aw 0,aw 0, .bool false]:=by
  rw [←hE]; cases dA _ <;> rfl
 rw [hO]
 clear hE hO W0
 generalize hn:bL [b0,b1,b2,b3,b4,b5,b6,b7,b8,b9,fJ,fI,fG,fF,fE,fD,eY,fC,fB,fA,fy,fx,fw,fu,fe,ft,fq,fk,fj,fh,fg,fb]=n at*
 have hz:(aw 0)= .agg [.int .u64 0, .int .u64 0, .int .u64 0, .int .u64 0]:=oO
 refine aC (F:=F286) rfl ?_
 by_cases c0:n % 2 ^ 255 < PP
 ·rw [Dy c0]
  rw [decide_eq_true c0] at hg
  generalize n % 2 ^ 255=m at*
  have h1:(1:Nat) < aM:=by decide+kernel
  have hF:uw < aM:=by decide+kernel
  have fc:=D9
  have on:=ZE
  have sq:=cn hm hm
  have sqL:=bp hm hm
  have ov:=cn sqL hF
  have ovL:=bp sqL hF
  have op:=mO ovL h1
  have opL:=eU ovL h1
  have ls:=jj sqL h1
  have lsL:=cS (Y:=1) sqL
  have iv:=Pw opL
  have ivL:=By opL
  have tm:=cn lsL ivL
  have rt:=r_root (bp lsL ivL)
  have hq:Gd m=aF (cU (aF m m) 1) (vL (eZ (aF (aF m m) uw) 1)):=rfl
  rw [←hq] at rt tm
  clear hq
  generalize hR:r7 (Gd m)=R at*
  generalize Gd m=Q at*
  cases R with
  | none=>
   simp only [iW,hz] at rt
   simp only [HC,hz]
   simp only [aw,U,bG,af,List.map_cons,List.map_nil] at hg zk fc on sq ov op ls iv tm rt ⊢
   simp only [FY,ax,seval,ae,fN,fP,Qw,beq_self_eq_true,and_self,Option.isSome_some,@bk,mL,rQ,hw,hg,zk,fc,on,sq,ov,op,ls,iv,tm,rt]
  | some x=>
   have hx:x < aM:=bU (U7 hR) jQ
   have he:=lG (neg:=false) hx (show 0 < aM by decide+kernel)
   have l0:=jj (show 0 < aM by decide+kernel) hx
   have l1:=mN (cS (X:=0) (Y:=x) (by decide+kernel))
   rw [hz] at he l0
   simp only [iW] at rt
   by_cases c1:n / 2 ^ 255 % 2=1
   ·rw [decide_eq_true c1] at hw
    by_cases c2:x=0
    ·rw [decide_eq_true c2] at he
     simp only [HC,c1,c2,if_true,hz]
     simp only [aw,U,bG,af,List.map_cons,List.map_nil] at hg zk fc on sq ov op ls iv tm rt he l0 l1 ⊢
     simp only [FY,ax,seval,ae,fN,fP,Qw,beq_self_eq_true,and_self,Option.isSome_some,@bk,mL,rQ,hw,hg,zk,fc,on,sq,ov,op,ls,iv,tm,rt,he,l0,l1]
    ·rw [decide_eq_false c2] at he
     simp only [HC,c1,c2,if_true,if_false]
     simp only [aw,U,bG,af,List.map_cons,List.map_nil] at hg zk fc on sq ov op ls iv tm rt he l0 l1 ⊢
     simp only [FY,ax,seval,ae,fN,fP,Qw,beq_self_eq_true,and_self,Option.isSome_some,@bk,mL,rQ,hw,hg,zk,fc,on,sq,ov,op,ls,iv,tm,rt,he,l0,l1]
   ·rw [decide_eq_false c1] at hw
    simp only [HC,c1,if_false]
    simp only [aw,U,bG,af,List.map_cons,List.map_nil] at hg zk fc on sq ov op ls iv tm rt he l0 l1 ⊢
    simp only [FY,ax,seval,ae,fN,fP,Qw,beq_self_eq_true,and_self,Option.isSome_some,@bk,mL,rQ,hw,hg,zk,fc,on,sq,ov,op,ls,iv,tm,rt,he,l0,l1]
 ·rw [Ge,if_neg c0]
  rw [decide_eq_false c0] at hg
  simp only [hz]
  simp only [aw,U,bG,af,List.map_cons,List.map_nil] at hg ⊢
  simp only [FY,ax,seval,ae,fN,fP,Qw,beq_self_eq_true,and_self,Option.isSome_some,@bk,mL,rQ,hw,hg]
theorem JE {s:aG} (h:s.length=32):cR 286 [bG s]=some (xT (dA (bL s))):=by
 obtain ⟨b0,b1,b2,b3,b4,b5,b6,b7,b8,b9,fJ,fI,fG,fF,fE,fD,eY,fC,fB,fA,fy,fx,fw,fu,fe,ft,fq,fk,fj,fh,fg,fb,rfl⟩:=Np h
 exact UH b0 b1 b2 b3 b4 b5 b6 b7 b8 b9 fJ fI fG fF fE fD eY fC fB fA fy fx fw fu fe ft fq fk fj fh fg fb
def C18Fa:= @F280.eq_1
theorem cI: ∀s:aG,(af s).all AV.one=true
 | []=>rfl
 | b ::s=>by
  have:=cI s
  unfold af at*
  simp [AV.one,this]
def sP (p:K×K):W4:=⟨p.1.val,p.2.val,1,aF p.1.val p.2.val⟩
theorem FO (x:K):x.val < aM:=bU x.isLt jQ
theorem yC (p:K×K):(sP p).ok:=⟨FO _,FO _,(by decide+kernel:1 < aM),bp (FO _) (FO _)⟩
theorem BH (p:K×K):(sP p).toW=gw p:=by
 simp only [sP,W4.toW,gw,oF,dr,cN_1]
def bad4:W4:=⟨0,0,1,aF 0 0⟩
def sH:Option (K×K)->AV
 | some p=> .tup [.agg (sP p).cells, .bool true]
 | none=> .tup [.agg bad4.cells, .bool false]
theorem GA {s:aG} (h:s.length=32):cR 280 [bG s]=some (sH (dA (bL s))):=by
 have hs:=JE h
 have hl:(af s).length=32:=by rw [af,aH,h]
 have ht:(af s).take 32=af s:=aQ aa
 have on:=ZE
 refine aC (F:=F280) rfl ?_
 generalize dA (bL s)=o at*
 cases o with
 | none=>
  have tm:=cn (show 0 < aM by decide+kernel) (show 0 < aM by decide+kernel)
  simp only [xT] at hs
  simp only [bG,aw] at hs tm on ⊢
  simp only [sH,bad4,W4.cells,oY]
  simp only [C18Fa,ax,seval,ae,hl,ht,aK,bS,hs,on,tm]
 | some p=>
  have tm:=cn (FO p.1) (FO p.2)
  simp only [xT] at hs
  simp only [bG,aw] at hs tm on ⊢
  simp only [sH,sP,W4.cells,oY]
  simp only [C18Fa,ax,seval,ae,hl,ht,aK,bS,hs,on,tm]
theorem JK {w:W4} (hw:w.ok):cR 285 [.vptr w.cells 0]=some (bG (toLE 32 (bY (yY w.toW)))):=by
 obtain ⟨hx,hy,hz,ht⟩:=hw
 have iv:=Pw hz
 have ivL:=By hz
 have mx:=cn hx ivL
 have my:=cn hy ivL
 have hj:=D6 (bp hx ivL) (bp hy ivL)
 have e:aF w.y (vL w.z) % PP+2 ^ 255*(aF w.x (vL w.z) % PP % 2)=bY (yY w.toW):=by
  have e1:aF w.y (vL w.z) % PP=(yY w.toW).2.val:=o5 (by rw [dr,B9]; rfl)
  have e2:aF w.x (vL w.z) % PP=(yY w.toW).1.val:=o5 (by rw [dr,B9]; rfl)
  rw [e1,e2]; rfl
 rw [e] at hj
 clear e
 have hL:=bN 32 (bY (yY w.toW))
 generalize toLE 32 (bY (yY w.toW))=s at*
 have hl:(af s).length=32:=by rw [af,aH,hL]
 have tq:(af s).take 32=af s:=aQ aa
 refine aC (F:=F285) rfl ?_
 unfold W4.cells oY
 generalize w.x=x at*
 generalize w.y=y at*
 generalize w.z=z at*
 generalize w.t=t at*
 simp only [aw,bG] at iv mx my hj ⊢
 simp only [F285,ax,seval,ae,cy,hl,tq,aK,bS,cI,iv,mx,my,hj]
def T6:=J @CS.eq_1 (J @CR.eq_1 (J @Lh.eq_1 (@Y4.eq_1)))
def C19Fb:=J @CS.eq_1 (J @CR.eq_1 (@Y4.eq_1))
theorem gQ (w:W4):w.cells.length=16:=rfl
theorem eS (w:W4):w.cells.take 16=w.cells:=rfl
theorem gP (w:W4):w.cells.all AV.one=true:=rfl
theorem cM (w:W4):aB w.cells=true:=by simp [W4.cells,oY,aB,AV.closed]
theorem jf (w:W4):dT w.cells=w.cells:=by simp only [W4.cells,oY,dD,pF,gM]
theorem qf: ∀s:aG,oQ (af s)=true
 | []=>rfl
 | b ::s=>by
  have:=qf s
  unfold af at*
  simp [oQ,AV.flat,this]
theorem rb_ptr {b d:Nat} {cs:ai} {σ:ag} (hl:look σ.m b=some (.own cs)) (hc:aB cs=true):rb σ (d+1) (.ptr b 0)=some (.vptr cs 0):=by
 have hb:σ.cells b=some cs:=by unfold ag.cells ag.get; rw [hl]
 unfold rb
 simp only [AV.closed,hb,cP hc]
 rfl
theorem EC (f:AV->Option AV) (x:AV):dt f [x]=(f x).map fun y=> [y]:=by
 unfold dt
 cases f x <;> rfl
theorem AK {f b:Nat} {cs:ai} {σ:ag} {r:AV} (hl:look σ.m b=some (.own cs)) (hc:aB cs=true) (he:dT cs=cs) (hr:cR f [.vptr cs 0]=some r) (hf:r.flat=true) :
  fZ cF gU false (.fn f [] []) [.ptr b 0] σ=some (r,σ):=by
 refine gl (args':= [.vptr cs 0]) rfl ?_ ?_ hf
 ·rw [show bK=23+1 from rfl,EC,rb_ptr hl hc]
  rfl
 ·rw [show dT [AV.vptr cs 0]= [.vptr cs 0] by rw [dD,Kv,he,gM]]
  exact hr
def nR (w:W4) (k:Nat):Nat->W4->W4
 | 0,s=>s
 | n+1,s=>nR w k n (if k / 2 ^ n % 2=1 then H5 (BX s) w else BX s)
theorem Du (w:W4) (k:Nat): ∀n s,(nR w k n s).toW=jz w.toW k n s.toW
 | 0,s=>rfl
 | n+1,s=>by
  rw [nR,jz,Du w k n]
  split
  ·rw [Js,Jr]
  ·rw [Jr]
def rM:W4:=⟨0,1,1,0⟩
theorem Oo:rM.ok:=by unfold rM W4.ok; decide+kernel
theorem Un:rM.toW=gJ:=by simp only [rM,W4.toW,gJ,XR,cN_1]
def GD:Option (K×K)->AV
 | some p=> .tup [bG (toLE 32 (bY p)), .bool true]
 | none=> .tup [.agg (List.replicate 32 (.int .u8 0)), .bool false]
theorem OL {p:K×K} (o:On p) {k:Nat} (hk:k < 2 ^ 256):yY (nR (sP p) k 256 rM).toW=cl p k:=by
 rw [Du,BH,Un]
 exact vW (JA (m5 p) o k hk)
theorem JP {k s:aG} (hk:k.length=32) (h:s.length=32):cR 227 [bG k,bG s]=some (GD ((dA (bL s)).map fun p=>cl p (bL k))):=by
 have hs:=GA h
 have hz:=r_zero
 have hl:(af s).length=32:=by rw [af,aH,h]
 have ht:(af s).take 32=af s:=aQ aa
 have qc:(af k).length=32:=by rw [af,aH,hk]
 have tq:(af k).take 32=af k:=aQ aa
 have hon: ∀p,dA (bL s)=some p->On p:=fun p=>sv
 refine aC (F:=Y4) rfl ?_
 generalize dA (bL s)=o at*
 cases o with
 | none=>
  simp only [bG,sH] at hs ⊢
  simp only [Option.map_none,GD,List.replicate]
  simp only [C19Fb,ax,seval,ae,hl,ht,qc,tq,aK,bS,hs,gQ,eS,gP,cM,jf]
 | some p=>
  simp only [bG,sH] at hs ⊢
  have hwk:=yC p
  have hpt:=OL (hon p rfl) (show bL k < 2 ^ 256 from kR (rk k) (by rw [hk]))
  rw [show (W4.mk 0 1 1 0)=rM from rfl] at hz
  generalize sP p=w at*
  simp only [Option.map_some,GD]
  simp only [C19Fb,ax,seval,ae,hl,ht,qc,tq,aK,bS,hs,gQ,eS,gP,cM,jf,hz,ay]
  refine aL (S:=Nat×W4) (fun q=> [(2, .vptr (af k) 0),(4, .ptr 0 0),(6, .ptr 1 0),(8, .fn 281 [] []),(9, .fn 282 [] []),(10, .ptr 2 0),(11, .int .i64 ((q.1:Int) - 1))]) (fun q=>q.1)
   (fun q σ=>look σ.m 2=some (.own q.2.cells)/\look σ.m 1=some (.own w.cells)/\look σ.m 0=some (.own (List.replicate 32 (.int .u8 0)))/\3<=σ.next/\q.2.ok/\q.1<=256/\nR w (bL k) q.1 q.2=nR w (bL k) 256 rM) ?_ (256,rM) _ ?_
  ·rintro b ⟨n,r⟩ σ ⟨g2,g1,g0,ES,hr,hn,hp⟩ ih
   simp only at g2 g1 g0 ES hr hn hp
   cases n with
   | zero=>
    have Of:r=nR w (bL k) 256 rM:=hp
    have hq:=JK hr
    rw [Of,hpt] at hq
    rw [Of] at g2
    have hP:=AK g2 (cM _) (jf _) hq (by simp only [bG,AV.flat,qf])
    have hL:=bN 32 (bY (cl p (bL k)))
    generalize toLE 32 (bY (cl p (bL k)))=v at*
    have ui:(af v).length=32:=by rw [af,aH,hL]
    have Aj:(af v).take 32=af v:=aQ aa
    simp only [bG] at hP ⊢
    simp only [List.replicate] at g0
    simp only [T6,ax,seval,ae,g0,g2,hP,gQ,eS,gP,cM,jf,ui,Aj,aK,bS,cI]
   | succ m=>
    have hc:decide (((m+1:Nat):Int) - 1≥0)=true:=by simp
    have hi:((m+1:Nat):Int) - 1=(m:Int):=by omega
    have kc:decide ((m:Int)≥0)=true:=by simp
    have vi:IntKind.wrap .i64 ((m:Int) - 1)=(m:Int) - 1:=aP aa aa
    obtain ⟨σ1,d1,d2,d3,d4⟩:=SR hr g2 aa
    have hb:=r_sbit (i:=m) hk aa
    by_cases og:bL k / 2 ^ m % 2=1
    ·rw [decide_eq_true og] at hb
     have e1:look σ1.m 1=some (.own w.cells):=by rw [d4 1 aa aa]; exact g1
     obtain ⟨σ2,a1,a2,a3,a4⟩:=c_add (BW hr) hwk d2 aa
     simp only [bG] at hb
     simp only [T6,ax,seval,ae,hi,kc,d1,hb,e1,a1,gQ,eS,gP,cM,jf,qc,tq,aK,bS,vi]
     refine ih (m,H5 (BX r) w) _ _ (aR m) ⟨a2,?_,?_,by omega,KL (BW hr) hwk,by omega,?_⟩ rfl
     ·rw [a4 1 aa aa]; exact e1
     ·rw [a4 0 aa aa,d4 0 aa aa]; exact g0
     ·rw [←hp,nR,if_pos og]
    ·rw [decide_eq_false og] at hb
     simp only [bG] at hb
     simp only [T6,ax,seval,ae,hi,kc,d1,hb,gQ,eS,gP,cM,jf,qc,tq,aK,bS,vi]
     refine ih (m,BX r) _ _ (aR m) ⟨d2,?_,?_,by omega,BW hr,by omega,?_⟩ rfl
     ·rw [d4 1 aa aa]; exact g1
     ·rw [d4 0 aa aa]; exact g0
     ·rw [←hp,nR,if_neg og]
  ·exact ⟨rfl,rfl,rfl,aE _,Oo,aE _,rfl⟩
def D9Fa:=J @IP.eq_1 (J @CQ.eq_1 (J @Le.eq_1 (@Y3.eq_1)))
def Ds (w:Wd):W4:=⟨w.x.val,w.y.val,w.z.val,w.t.val⟩
def wE (w:Wd):AV:= .agg (Ds w).cells
theorem lY (w:W4):w.cells.drop 16= []:=rfl
theorem ZI:cR 297 []=some (aw dK.val):=cQ 100 (by kernel_rfl)
theorem Vr:cR 310 []=some (wE gJ):=cQ 100 (by kernel_rfl)
theorem PA (x y:K):cR 301 [aw x.val,aw y.val]=some (wE (gw (x,y))):=by
 have hm:=ji x y
 have h1:(1:K).val=1:=rfl
 have h4:=Kt
 refine aC (F:=F301) rfl ?_
 unfold wE Ds gw W4.cells oY
 simp only [h1]
 generalize x*y=t at*
 simp only [aw,U,AV.agg.injEq,List.cons.injEq,AV.int.injEq,true_and,and_true] at h4
 obtain ⟨k0,k1,k2,k3⟩:=h4
 simp only [aw] at hm ⊢
 simp only [U,k0,k1,k2,k3] at hm ⊢
 simp only [F301,ax,seval,ae,hm]
theorem Gx (w v:Wd):cR 240 [wE w,wE v]=some (wE (mS w v)):=by
 obtain ⟨x1,y1,z1,t1⟩:=w
 obtain ⟨x2,y2,z2,t2⟩:=v
 have sb:=pU
 have ad:=JJ
 have mu:=ji
 have de:=ZI
 refine aC (F:=F240) rfl ?_
 simp only [wE,Ds,mS,W4.cells,oY]
 generalize dK=d at*
 have hd:t1*t2*d+t1*t2*d=(t1*t2+t1*t2)*d:=by grobner
 simp only [hd]
 simp only [aw,U] at sb ad mu de ⊢
 simp only [F240,ax,seval,ae,sb,ad,mu,de]
def fM (w:Wd) (k:Nat):Nat->Wd->Wd
 | 0,s=>s
 | n+1,s=>fM w k n (if k / 2 ^ n % 2=1 then mS (mS s s) w else mS s s)
theorem xI {w:Wd} {p:K×K} (h:zI w p) (o:On p) (k:Nat): ∀n s,zI s (cl p (k / 2 ^ n))->zI (fM w k n s) (cl p k)
 | 0,s,hs=>by simpa [fM] using hs
 | n+1,s,hs=>by
  rw [fM]
  apply xI h o k n
  have e:k / 2 ^ n=2*(k / 2 ^ (n+1))+k / 2 ^ n % 2:=by
   rw [Nat.pow_succ,←cL]; omega
  have d:=r9 hs hs (kF o _) (kF o _)
  rw [←mul_two o] at d
  split
  ·rename_i hb
   rw [e,hb]
   exact r9 d h (kF o _) o
  ·rename_i hb
   rw [e,show k / 2 ^ n % 2=0 by omega]
   exact d
theorem DL {w:Wd} {p:K×K} (h:zI w p) (o:On p) (k:Nat) (hk:k < 2 ^ 256):zI (fM w k 256 gJ) (cl p k):=
 xI h o k 256 _ (by rw [Nat.div_eq_of_lt hk]; exact DJ)
theorem DW {k:aG} (hk:k.length=32) (w:Wd):cR 239 [bG k,wE w]=some (wE (fM w (bL k) 256 gJ)):=by
 have hz:=Vr
 have qc:(af k).length=32:=by rw [af,aH,hk]
 have tq:(af k).take 32=af k:=aQ aa
 refine aC (F:=Y3) rfl ?_
 simp only [wE,bG] at hz ⊢
 simp only [IP,CQ,Y3,ax,seval,ae,hz,gQ,lY,eS,gP,cM,jf,ay]
 refine aL (S:=Nat×Wd) (fun q=> [(2, .vptr (af k) 0),(3, .vptr (Ds w).cells 0),(4, .ptr 0 0),(5, .ptr 1 0),(6, .int .i64 ((q.1:Int) - 1))]) (fun q=>q.1)
  (fun q σ=>look σ.m 1=some (.own (Ds q.2).cells)/\look σ.m 0=some (.own (List.replicate 16 (.int .u64 0)))/\q.1<=256/\fM w (bL k) q.1 q.2=fM w (bL k) 256 gJ) ?_ (256,gJ) _ ?_
 ·rintro b ⟨n,r⟩ σ ⟨g1,g0,hn,hp⟩ ih
  simp only at g1 g0 hn hp
  cases n with
  | zero=>
   have Of:r=fM w (bL k) 256 gJ:=hp
   rw [Of] at g1
   simp only [List.replicate] at g0
   simp only [D9Fa,ax,seval,ae,g0,g1,gQ,lY,eS,gP,cM,jf]
  | succ m=>
   have hc:decide (((m+1:Nat):Int) - 1≥0)=true:=by simp
   have hi:((m+1:Nat):Int) - 1=(m:Int):=by omega
   have kc:decide ((m:Int)≥0)=true:=by simp
   have vi:IntKind.wrap .i64 ((m:Int) - 1)=(m:Int) - 1:=aP aa aa
   have d1:=Gx r r
   have d2:=Gx (mS r r) w
   have hb:=r_rBit (i:=m) hk aa
   simp only [wE] at d1 d2
   simp only [bG] at hb
   by_cases og:bL k / 2 ^ m % 2=1
   ·rw [decide_eq_true og] at hb
    simp only [D9Fa,ax,seval,ae,hi,kc,g1,d1,d2,hb,gQ,lY,eS,gP,cM,jf,qc,tq,aK,bS,vi]
    refine ih (m,mS (mS r r) w) _ _ (aR m) ⟨rfl,?_,by omega,?_⟩ rfl
    ·simpa [look] using g0
    ·rw [←hp,fM,if_pos og]
   ·rw [decide_eq_false og] at hb
    simp only [D9Fa,ax,seval,ae,hi,kc,g1,d1,hb,gQ,lY,eS,gP,cM,jf,qc,tq,aK,bS,vi]
    refine ih (m,mS r r) _ _ (aR m) ⟨rfl,?_,by omega,?_⟩ rfl
    ·simpa [look] using g0
    ·rw [←hp,fM,if_neg og]
 ·exact ⟨rfl,rfl,aE _,rfl⟩
def FX:= @F233.eq_1
def D10Fc:= @F241.eq_1
theorem OD (b0 b1 b2 b3 b4 b5 b6 b7 b8 b9 fJ fI fG fF fE fD eY fC fB fA fy fx fw fu fe ft fq fk fj fh fg fb:UInt8) {x y z t:K} (hY:cR 308 [aw (y*cY z).val]=some (bG [b0,b1,b2,b3,b4,b5,b6,b7,b8,b9,fJ,fI,fG,fF,fE,fD,eY,fC,fB,fA,fy,fx,fw,fu,fe,ft,fq,fk,fj,fh,fg,fb])) :
  cR 241 [wE ⟨x,y,z,t⟩]=some (bG [b0,b1,b2,b3,b4,b5,b6,b7,b8,b9,fJ,fI,fG,fF,fE,fD,eY,fC,fB,fA,fy,fx,fw,fu,fe,ft,fq,fk,fj,fh,fg,if (x*cY z).val % 2=1 then fb ||| 128 else fb]):=by
 have iv:=Po z
 have mx:=ji x (cY z)
 have my:=ji y (cY z)
 have hb:=pQ (x*cY z).val
 have dx:uI 1=1:=rfl
 refine aC (F:=F241) rfl ?_
 simp only [wE,Ds,W4.cells,oY]
 generalize x*cY z=X at*
 generalize y*cY z=Y at*
 generalize cY z=v at*
 by_cases h:X.val % 2=1
 ·rw [if_pos h]
  rw [decide_eq_true h] at hb
  simp only [aw,U,bG,af,List.map_cons,List.map_nil] at iv mx my hY ⊢
  simp only [D10Fc,ax,seval,ae,@bk,@j8,gK,Jd,dx,hb,iv,mx,my,hY]
 ·rw [if_neg h]
  rw [decide_eq_false h] at hb
  simp only [aw,U,bG,af,List.map_cons,List.map_nil] at iv mx my hY ⊢
  simp only [D10Fc,ax,seval,ae,@bk,@j8,gK,Jd,dx,hb,iv,mx,my,hY]
theorem Pr (w:Wd):cR 241 [wE w]=some (bG (toLE 32 (bY (yY w)))):=by
 obtain ⟨x,y,z,t⟩:=w
 show _=some (bG (toLE 32 ((y*cY z).val+2 ^ 255*((x*cY z).val % 2))))
 have hn:=DZ (y*cY z).val
 have hl:=bN 32 (y*cY z).val
 have hm:(y*cY z).val < PP:=(y*cY z).isLt
 have hv:bL (toLE 32 (y*cY z).val)=(y*cY z).val:=lA 32 _ (bU hm (by decide+kernel))
 have aN:(y*cY z).val < 2 ^ 255:=bU hm (by decide+kernel)
 generalize toLE 32 (y*cY z).val=s at*
 obtain ⟨b0,b1,b2,b3,b4,b5,b6,b7,b8,b9,fJ,fI,fG,fF,fE,fD,eY,fC,fB,fA,fy,fx,fw,fu,fe,ft,fq,fk,fj,fh,fg,fb,rfl⟩:=Np hl
 have hw:=OD b0 b1 b2 b3 b4 b5 b6 b7 b8 b9 fJ fI fG fF fE fD eY fC fB fA fy fx fw fu fe ft fq fk fj fh fg fb (x:=x) (t:=t) hn
 have ht:=Jw b0 b1 b2 b3 b4 b5 b6 b7 b8 b9 fJ fI fG fF fE fD eY fC fB fA fy fx fw fu fe ft fq fk fj fh fg fb (by rw [hv]; exact aN) (decide ((x*cY z).val % 2=1))
 simp only [cD] at ht
 rw [ht,hv] at hw
 have e:(decide ((x*cY z).val % 2=1)).toNat=(x*cY z).val % 2:=by
  by_cases h:(x*cY z).val % 2=1
  ·rw [decide_eq_true h,h]; rfl
  ·rw [decide_eq_false h,show (x*cY z).val % 2=0 by omega]; rfl
 rw [e] at hw
 exact hw
theorem oZ (b:UInt8):IntKind.wrap .u8 ((BitVec.ofInt (IntKind.bits .u8) (b.toNat:Int) &&& BitVec.ofInt (IntKind.bits .u8) 127).toNat:Int)=((b &&& 127).toNat:Int):=
 eq_of_beq (lL (p:=fun b=>IntKind.wrap .u8 ((BitVec.ofInt (IntKind.bits .u8) (b.toNat:Int) &&& BitVec.ofInt (IntKind.bits .u8) 127).toNat:Int) == ((b &&& 127).toNat:Int)) (by kernel_rfl) b)
def zu:Option (K×K)->AV
 | some p=> .tup [wE (gw p), .bool true]
 | none=> .tup [.agg (List.replicate 16 (.int .u64 0)), .bool false]
theorem eqa_K0 (a:K):qP 4 false (aw a.val) (aw 0)=some (.bool (decide (a=0))):=by
 rw [show aw 0=aw (0:K).val from rfl,lG (KT a) (KT 0),if_neg (by decide)]
 have:decide (a.val=(0:K).val)=decide (a=0):=decide_eq_decide.2 ⟨fun h=>Fin.ext h,fun h=>by rw [h]⟩
 rw [this]
theorem Wg (y:K):(y*y - 1)*cY (y*y*dK+1)=(y*y - 1)*cY (dK*(y*y)+1):=by
 have:y*y*dK+1=dK*(y*y)+1:=by generalize dK=d; grobner
 rw [this]
theorem UI (b0 b1 b2 b3 b4 b5 b6 b7 b8 b9 fJ fI fG fF fE fD eY fC fB fA fy fx fw fu fe ft fq fk fj fh fg fb:UInt8):cR 233 [bG [b0,b1,b2,b3,b4,b5,b6,b7,b8,b9,fJ,fI,fG,fF,fE,fD,eY,fC,fB,fA,fy,fx,fw,fu,fe,ft,fq,fk,fj,fh,fg,fb]]=some (zu (dA (bL [b0,b1,b2,b3,b4,b5,b6,b7,b8,b9,fJ,fI,fG,fF,fE,fD,eY,fC,fB,fA,fy,fx,fw,fu,fe,ft,fq,fk,fj,fh,fg,fb]))):=by
 have W0:=zL b0 b1 b2 b3 b4 b5 b6 b7 b8 b9 fJ fI fG fF fE fD eY fC fB fA fy fx fw fu fe ft fq fk fj fh fg fb
 have zn:([b0,b1,b2,b3,b4,b5,b6,b7,b8,b9,fJ,fI,fG,fF,fE,fD,eY,fC,fB,fA,fy,fx,fw,fu,fe,ft,fq,fk,fj,fh,fg,fb &&& 127] :aG).length=32:=rfl
 have zk:=JI zn
 have hm:bL ([b0,b1,b2,b3,b4,b5,b6,b7,b8,b9,fJ,fI,fG,fF,fE,fD,eY,fC,fB,fA,fy,fx,fw,fu,fe,ft,fq,fk,fj,fh,fg,fb &&& 127] :aG) < aM:=qa zn
 rw [W0.1] at zk hm
 have hw:decide (fb.toNat / 128=1)=decide (bL [b0,b1,b2,b3,b4,b5,b6,b7,b8,b9,fJ,fI,fG,fF,fE,fD,eY,fC,fB,fA,fy,fx,fw,fu,fe,ft,fq,fk,fj,fh,fg,fb] / 2 ^ 255 % 2=1):=by rw [W0.2]
 clear W0
 generalize hn:bL [b0,b1,b2,b3,b4,b5,b6,b7,b8,b9,fJ,fI,fG,fF,fE,fD,eY,fC,fB,fA,fy,fx,fw,fu,fe,ft,fq,fk,fj,fh,fg,fb]=n at*
 have hr:=Ba hm
 have hz:(aw 0)= .agg [.int .u64 0, .int .u64 0, .int .u64 0, .int .u64 0]:=oO
 have he:=lG (neg:=true) (bU (bb (n % 2 ^ 255) (show 0 < PP by decide)) jQ) hm
 rw [if_pos rfl] at he
 refine aC (F:=F233) rfl ?_
 by_cases c0:n % 2 ^ 255 < PP
 ·rw [z6 c0,Wg]
  rw [aO c0,decide_eq_true rfl] at he
  rw [aO c0] at hr
  have hy:n % 2 ^ 255=(⟨n % 2 ^ 255,c0⟩ :K).val:=rfl
  generalize (⟨n % 2 ^ 255,c0⟩ :K)=y at*
  rw [hy] at zk he hr
  have sq:=ji y y
  have de:=ZI
  have f1:=pU (y*y) 1
  have f2:=ji dK (y*y)
  have f3:=JJ (dK*(y*y)) 1
  have f4:=Po (dK*(y*y)+1)
  have f5:=ji (y*y - 1) (cY (dK*(y*y)+1))
  have f6:=Vs ((y*y - 1)*cY (dK*(y*y)+1))
  have h1:aw (1:K).val=_:=Kt
  rw [h1] at f1 f3
  clear h1
  generalize hR:oL _=R at*
  generalize (y*y - 1)*cY (dK*(y*y)+1)=q at*
  generalize cY (dK*(y*y)+1)=q1 at*
  generalize dK*(y*y)+1=q2 at*
  generalize dK*(y*y)=q3 at*
  generalize y*y - 1=q4 at*
  generalize y*y=q5 at*
  generalize dK=d at*
  cases R with
  | none=>
   rw [Option.map_none] at f6
   simp only [iW,hz] at f6
   simp only [HE,zu,List.replicate]
   simp only [aw,U,bG,af,List.map_cons,List.map_nil] at zk he hr sq de f1 f2 f3 f4 f5 f6 ⊢
   simp only [FX,ax,seval,ae,@bk,mL,oZ,hw,zk,he,hr,sq,de,f1,f2,f3,f4,f5,f6]
  | some x=>
   have f7:=eqa_K0 x
   have f8:=pU 0 x
   have f9:=PA (0 - x) y
   have f10:=PA x y
   rw [show aw (0:K).val=_ from hz] at f8
   rw [hz] at f7
   rw [Option.map_some] at f6
   simp only [iW] at f6
   generalize F1:0 - x=x' at*
   by_cases c1:n / 2 ^ 255 % 2=1
   ·rw [decide_eq_true c1] at hw
    by_cases c2:x=0
    ·rw [decide_eq_true c2] at f7
     simp only [HE,zu,c1,c2,if_true,List.replicate]
     simp only [c2] at f6 f7
     simp only [aw,U,bG,af,List.map_cons,List.map_nil] at zk he hr sq de f1 f2 f3 f4 f5 f6 f7 ⊢
     simp only [FX,ax,seval,ae,@bk,mL,oZ,hw,zk,he,hr,sq,de,f1,f2,f3,f4,f5,f6,f7]
    ·rw [decide_eq_false c2] at f7
     simp only [HE,zu,c1,c2,if_true,if_false,F1]
     unfold wE at f9 ⊢
     generalize gw (x',y)=fl at*
     simp only [aw,U,bG,af,List.map_cons,List.map_nil] at zk he hr sq de f1 f2 f3 f4 f5 f6 f7 f8 f9 ⊢
     simp only [FX,ax,seval,ae,@bk,mL,oZ,hw,zk,he,hr,sq,de,f1,f2,f3,f4,f5,f6,f7,f8,f9,gQ,lY,eS,gP,cM,jf]
   ·rw [decide_eq_false c1] at hw
    simp only [HE,zu,c1,if_false]
    unfold wE at f10 ⊢
    generalize gw (x,y)=fl at*
    simp only [aw,U,bG,af,List.map_cons,List.map_nil] at zk he hr sq de f1 f2 f3 f4 f5 f6 f10 ⊢
    simp only [FX,ax,seval,ae,@bk,mL,oZ,hw,zk,he,hr,sq,de,f1,f2,f3,f4,f5,f6,f10,gQ,lY,eS,gP,cM,jf]
 ·rw [z7 c0]
  have fX: ¬n % 2 ^ 255 % PP=n % 2 ^ 255:=fun h=>c0 (by rw [←h]; exact bb _ (by decide))
  rw [decide_eq_false fX] at he
  simp only [zu,List.replicate]
  generalize n % 2 ^ 255=m at*
  generalize m % PP=m' at*
  simp only [aw,U,bG,af,List.map_cons,List.map_nil] at zk he hr ⊢
  simp only [FX,ax,seval,ae,@bk,mL,oZ,hw,zk,he,hr]
theorem JG {s:aG} (h:s.length=32):cR 233 [bG s]=some (zu (dA (bL s))):=by
 obtain ⟨b0,b1,b2,b3,b4,b5,b6,b7,b8,b9,fJ,fI,fG,fF,fE,fD,eY,fC,fB,fA,fy,fx,fw,fu,fe,ft,fq,fk,fj,fh,fg,fb,rfl⟩:=Np h
 exact UI b0 b1 b2 b3 b4 b5 b6 b7 b8 b9 fJ fI fG fF fE fD eY fC fB fA fy fx fw fu fe ft fq fk fj fh fg fb
theorem base_n:bL (88 ::List.replicate 31 102)=bY cX:=by decide+kernel
theorem Vu:cR 309 []=some (bG (88 ::List.replicate 31 102)):=cQ 3000 (by kernel_rfl)
theorem Ps {k:aG} (hk:k.length=32):cR 238 [bG k]=some (wE (fM (gw cX) (bL k) 256 gJ)):=by
 have hb:=Vu
 have ho:=JG (s:=88 ::List.replicate 31 102) rfl
 rw [base_n,m9 mf,zu] at ho
 have ht:=DW hk (gw cX)
 have qc:(af k).length=32:=by rw [af,aH,hk]
 have tq:(af k).take 32=af k:=aQ aa
 refine aC (F:=F238) rfl ?_
 have hlB:(af (88 ::List.replicate 31 102)).length=32:=rfl
 have htB:(af (88 ::List.replicate 31 102)).take 32=af (88 ::List.replicate 31 102):=rfl
 generalize (88 ::List.replicate 31 102:aG)=B at*
 generalize fM (gw cX) (bL k) 256 gJ=tw at*
 generalize gw cX=fl at*
 simp only [wE,bG] at hb ho ht ⊢
 simp only [F238,ax,seval,ae,hb,hlB,htB,ho,ht,gQ,lY,eS,gP,cM,jf,qc,tq,aK,bS]
def D11Fa:= @F234.eq_1
def T4:=J @IF.eq_1 (J @Ct.eq_1 (J @KY.eq_1 (@YR.eq_1)))
def uz (n:Nat):ai:= [U (wq n 0),U (wq n 1),U (wq n 2),U (wq n 3),U (wq n 4),U (wq n 5),U (wq n 6),U (wq n 7)]
def T512:Nat:=aM*aM
theorem DY:cR 302 []=some (aw LL):=cQ 100 (by kernel_rfl)
theorem LL_T2:LL < aM:=by decide+kernel
theorem Nv {e j:Nat} (hj:j < 8):(uz e)[j]? =some (U (wq e j)):=by
 have:j=0∨j=1∨j=2∨j=3∨j=4∨j=5∨j=6∨j=7:=by omega
 rcases this with rfl | rfl | rfl | rfl | rfl | rfl | rfl | rfl <;> rfl
theorem or_low {r:Nat} {b:UInt64} (hb:b.toNat < 2):wq (r+r) 0 ||| b=wq (r+r+b.toNat) 0:=by
 apply UInt64.toNat.inj
 have h2:(wq (r+r) 0).toNat=2 ^ 1*(r % 9223372036854775808):=by rw [kZ]; omega
 rw [UInt64.toNat_or,h2,←Nat.two_pow_add_eq_or_of_lt (i:=1) hb,kZ]; omega
theorem F7 {r b i:Nat} (hb:b < 2) (hi:0 < i):wq (r+r) i=wq (r+r+b) i:=by
 apply UInt64.toNat.inj
 rw [kZ,kZ]
 obtain ⟨j,rfl⟩ : ∃j,i=j+1:=⟨i - 1,by omega⟩
 rw [Nat.pow_succ',←cL,←cL]
 rw [show (r+r) / 18446744073709551616=(r+r+b) / 18446744073709551616 by omega]
theorem Yz (x:UInt64):(x &&& 1).toNat < 2:=by
 rw [UInt64.toNat_and,show (1:UInt64).toNat=1 from rfl,Nat.and_one_is_mod]; omega
theorem Pm {N:Nat} (hN:N < T512):cR 360 [.agg (uz N)]=some (aw (N % LL)):=by
 have hT:=KM
 have hL:LL=7237005577332262213973186563042994240857116359379907606001950938285454250989:=rfl
 have ho:=DY
 refine aC (F:=YR) rfl ?_
 simp only [IF,Ct,YR,ax,seval,ay,uz]
 refine aL (S:=Nat) (fun n=> [(1, .ptr 0 0),(2, .ptr 1 0),(3, .ptr 2 0),(4, .int .i64 ((n:Int) - 1))]) (fun n=>n)
  (fun n σ=>look σ.m 2=some (.own (dB (N / 2 ^ n % LL)))/\look σ.m 0=some (.own (uz N))/\look σ.m 1=some (.own [.int .u64 0, .int .u64 0, .int .u64 0, .int .u64 0])/\n<=512/\3<=σ.next) ?_ 512 _ ?_
 ·rintro b n σ ⟨g2,g0,g1,hn,hx⟩ ih
  cases n with
  | zero=>
   rw [Nat.pow_zero,Nat.div_one] at g2
   unfold dB at g2
   simp only [T4,ax,seval,ae,g1,g2,aw]
  | succ m=>
   have hi:((m+1:Nat):Int) - 1=(m:Int):=by omega
   have kc:decide ((m:Int)≥0)=true:=by simp
   have Dk:Int.tdiv (m:Int) 64=((m / 64:Nat):Int):=rfl
   have dZ:Int.tmod (m:Int) 64=((m % 64:Nat):Int):=rfl
   have hq:IntKind.wrap .i64 ((m / 64:Nat):Int)=((m / 64:Nat):Int):=aP aa aa
   have hm:IntKind.wrap .i64 ((m % 64:Nat):Int)=((m % 64:Nat):Int):=aP aa aa
   have vl:=iu (k:= .i64) (n:=8) (b:=0) (j:=m / 64) aa
   have iD:=Nv (e:=N) (j:=m / 64) aa
   have od:=qB (wq N (m / 64)) (m % 64) aa
   have n0: ¬σ.next=0:=by omega
   have n1: ¬σ.next=1:=by omega
   have n2: ¬σ.next=2:=by omega
   have dx:uI 1=1:=rfl
   have og:=S2 N m
   have E4:=Yz (wq N (m / 64) >>> UInt64.ofNat (m % 64))
   have vi:IntKind.wrap .i64 ((m:Int) - 1)=(m:Int) - 1:=aP aa aa
   have hrl:N / 2 ^ (m+1) % LL < LL:=bb _ (by decide)
   have tr:N / 2 ^ m % LL=(N / 2 ^ (m+1) % LL+N / 2 ^ (m+1) % LL+(wq N (m / 64) >>> UInt64.ofNat (m % 64) &&& 1).toNat) % LL:=by
    have e:N / 2 ^ m=2*(N / 2 ^ (m+1))+N / 2 ^ m % 2:=by
     rw [Nat.pow_succ,←cL]; omega
    have e2:N / 2 ^ m % 2=(wq N (m / 64) >>> UInt64.ofNat (m % 64) &&& 1).toNat:=by
     generalize (wq N (m / 64) >>> UInt64.ofNat (m % 64) &&& 1).toNat=c at*
     omega
    rw [e,e2,hL]
    omega
   generalize (wq N (m / 64) >>> UInt64.ofNat (m % 64))=sw at*
   generalize N / 2 ^ (m+1) % LL=r at*
   have hp:=sd (A:=r) (B:=r) aa aa
   rw [aO (show r+r < aM by omega),Nat.div_eq_of_lt (show r+r < aM by omega)] at hp
   have o0:=or_low (r:=r) E4
   have o1:=F7 (r:=r) (i:=1) E4 (by decide)
   have o2:=F7 (r:=r) (i:=2) E4 (by decide)
   have o3:=F7 (r:=r) (i:=3) E4 (by decide)
   generalize hX:r+r+(sw &&& 1).toNat=X at*
   have Z9:=lp (A:=X) (B:=LL) aa LL_T2
   have hu (x:UInt64):IntKind.wrap .u64 ((BitVec.ofInt (IntKind.bits .u64) (x.toNat:Int) ||| BitVec.ofInt (IntKind.bits .u64) ((sw &&& 1).toNat:Int)).toNat:Int)=((x ||| (sw &&& 1)).toNat:Int):=by
    rw [rP,iy]
   have z0:((0:Nat):Int)=0:=rfl
   simp only [U] at od iD
   unfold dB at g2
   by_cases aN:X < LL
   ·rw [if_neg aa,if_pos aN] at Z9
    rw [aO aN] at tr
    generalize X+aM - LL=Y at*
    simp only [aw,U,z0] at hp Z9 ho g2
    simp only [T4,ax,seval,ae,hi,kc,g2,g0,hp,hq,hm,Dk,dZ,vl,iD,od,gK,hu,o0,o1,o2,o3,dx,ho,Z9,vi,@bk,n0,n1,n2]
    refine ih m _ _ (aR m) ⟨?_,?_,?_,by omega,Nat.le_succ_of_le hx⟩ rfl
    ·rw [tr]; simp [look,dB,n2]
    ·simpa [look,n0,n2] using g0
    ·simpa [look,n1,n2] using g1
   ·rw [if_pos aa,if_neg aN] at Z9
    have e:X % LL=X - LL:=by rw [Nat.mod_eq_sub_mod aa,aO aa]
    rw [e] at tr
    generalize X - LL=Y at*
    simp only [aw,U,z0] at hp Z9 ho g2
    simp only [T4,ax,seval,ae,hi,kc,g2,g0,hp,hq,hm,Dk,dZ,vl,iD,od,gK,hu,o0,o1,o2,o3,dx,ho,Z9,vi,@bk,n0,n1,n2]
    refine ih m _ _ (aR m) ⟨?_,?_,?_,by omega,Nat.le_succ_of_le hx⟩ rfl
    ·rw [tr]; simp [look,dB,n2]
    ·simpa [look,n0,n2] using g0
    ·simpa [look,n1,n2] using g1
 ·refine ⟨?_,rfl,rfl,aE _,aE _⟩
  rw [Nat.div_eq_of_lt (kR hN (by decide+kernel)),Nat.zero_mod]
  have:=oO
  simp only [aw,AV.agg.injEq] at this
  unfold dB
  rw [this]; rfl
theorem Vy {s:aG} (h:s.length=32):cR 234 [bG s]=some (.bool (decide (bL s < LL))):=by
 have hf:=JI h
 have ho:=DY
 have hm:=lp (qa h) LL_T2
 have hl:(af s).length=32:=by rw [af,aH,h]
 have ht:(af s).take 32=af s:=aQ aa
 refine aC (F:=F234) rfl ?_
 simp only [bG] at hf ⊢
 by_cases aN:bL s < LL
 ·rw [if_neg aa,if_pos aN] at hm
  rw [decide_eq_true aN]
  simp only [aw,U] at hf ho hm
  simp only [D11Fa,ax,seval,ae,hl,ht,aK,bS,hf,ho,hm]
 ·rw [if_pos aa,if_neg aN] at hm
  rw [decide_eq_false aN]
  simp only [aw,U] at hf ho hm
  simp only [D11Fa,ax,seval,ae,hl,ht,aK,bS,hf,ho,hm]
def C20Fa:= @F228.eq_1
def Lx:= @F230.eq_1
theorem r_Add {a b:aG} (ha:a.length=32) (hb:b.length=32):cR 230 [bG a,bG b]=some (GD ((dA (bL a)).bind fun p=>(dA (bL b)).map fun q=>fU p q)):=by
 have Hm:=GA ha
 have Uc:=GA hb
 have hla:(af a).length=32:=by rw [af,aH,ha]
 have EM:(af a).take 32=af a:=aQ aa
 have hlb:(af b).length=32:=by rw [af,aH,hb]
 have htb:(af b).take 32=af b:=aQ aa
 have hoa: ∀p,dA (bL a)=some p->On p:=fun p=>sv
 have hob: ∀p,dA (bL b)=some p->On p:=fun p=>sv
 refine aC (F:=F230) rfl ?_
 generalize dA (bL a)=oa at*
 generalize dA (bL b)=ob at*
 cases oa with
 | none=>
  cases ob with
  | none=>
   simp only [bG,sH] at Hm Uc ⊢
   simp only [Option.bind_none,Option.bind_some,Option.map_none,GD,List.replicate]
   simp only [Lx,ax,seval,ae,hla,EM,hlb,htb,aK,bS,Hm,Uc,gQ,eS,gP,cM,jf]
  | some q=>
   simp only [bG,sH] at Hm Uc ⊢
   simp only [Option.bind_none,Option.bind_some,Option.map_none,GD,List.replicate]
   simp only [Lx,ax,seval,ae,hla,EM,hlb,htb,aK,bS,Hm,Uc,gQ,eS,gP,cM,jf]
 | some p=>
  cases ob with
  | none=>
   simp only [bG,sH] at Hm Uc ⊢
   simp only [Option.bind_none,Option.bind_some,Option.map_none,GD,List.replicate]
   simp only [Lx,ax,seval,ae,hla,EM,hlb,htb,aK,bS,Hm,Uc,gQ,eS,gP,cM,jf]
  | some q=>
   have hp:=yC p
   have hq:=yC q
   have hpt:=JK (KL hp hq)
   rw [Js,BH,BH,vW (r9 (m5 p) (m5 q) (hoa p rfl) (hob q rfl))] at hpt
   have hL:=bN 32 (bY (fU p q))
   simp only [Option.bind_some,Option.map_some,GD]
   generalize toLE 32 (bY (fU p q))=v at*
   have ui:(af v).length=32:=by rw [af,aH,hL]
   have Aj:(af v).take 32=af v:=aQ aa
   simp only [bG,sH] at Hm Uc ⊢
   obtain ⟨σ2,a1,a2,a3,a4⟩:=c_add (b:=1) (σ:={ next:=3,m:= [(2,jS.own (sP q).cells),(2,jS.own (List.replicate 16 (.int .u64 0))),(1,jS.own (sP p).cells),(1,jS.own (List.replicate 16 (.int .u64 0))),(0,jS.own (List.replicate 32 (.int .u8 0)))] }) hp hq rfl (show 1 < 3 by decide)
   have e0:=a4 0 (show 0 < 3 by decide) (by decide)
   have hP:=AK a2 (cM _) (jf _) hpt (by simp only [bG,AV.flat,qf])
   simp only [bG] at hP
   simp only [List.replicate,look,Nat.reduceBEq,Nat.reduceEqDiff,if_true,if_false,reduceIte] at a1 e0
   simp only [Lx,ax,seval,ae,hla,EM,hlb,htb,aK,bS,cI,Hm,Uc,gQ,eS,gP,cM,jf,a1,a2,e0,hP,ui,Aj]
theorem r_Neg {a:aG} (ha:a.length=32):cR 228 [bG a]=some (GD ((dA (bL a)).map gT)):=by
 have Hm:=JE ha
 have hla:(af a).length=32:=by rw [af,aH,ha]
 have EM:(af a).take 32=af a:=aQ aa
 refine aC (F:=F228) rfl ?_
 generalize dA (bL a)=o at*
 have h0:(0:Nat) < aM:=by decide+kernel
 cases o with
 | none=>
  simp only [bG,xT,aw] at Hm ⊢
  simp only [Option.map_none,GD,List.replicate]
  simp only [C20Fa,ax,seval,ae,hla,EM,aK,bS,Hm]
 | some p=>
  have hl:=jj h0 (FO p.1)
  rw [oO] at hl
  have hj:=D6 (cS (Y:=p.1.val) h0) (FO p.2)
  have e:p.2.val % PP+2 ^ 255*(cU 0 p.1.val % PP % 2)=bY (gT p):=by
   have e1:cU 0 p.1.val % PP=(gT p).1.val:=o5 (by
    rw [nD,XR,oF]; simp only [gT]; grobner)
   rw [e1,aO p.2.isLt]; rfl
  rw [e] at hj
  have hL:=bN 32 (bY (gT p))
  simp only [Option.map_some,GD]
  generalize toLE 32 (bY (gT p))=v at*
  have ui:(af v).length=32:=by rw [af,aH,hL]
  have Aj:(af v).take 32=af v:=aQ aa
  simp only [bG,xT,aw] at Hm hl hj ⊢
  simp only [C20Fa,ax,seval,ae,hla,EM,aK,bS,cI,Hm,hl,hj,ui,Aj]
theorem r_Base:cR 229 []=some (bG (toLE 32 (bY cX))):=by
 have h5:(5:Nat) < aM:=by decide+kernel
 have h4:(4:Nat) < aM:=by decide+kernel
 have e5:aw 5= .agg [.int .u64 5, .int .u64 0, .int .u64 0, .int .u64 0]:=by kernel_rfl
 have e4:aw 4= .agg [.int .u64 4, .int .u64 0, .int .u64 0, .int .u64 0]:=by kernel_rfl
 have iv:=Pw h5
 have tm:=cn h4 (By h5)
 have nm:=ZF (bp h4 (By h5))
 have e:aF 4 (vL 5) % PP=bY cX:=by
  have e1:aF 4 (vL 5) % PP=cX.2.val:=by
   apply o5
   rw [dr,B9,show cY (cN 5)=eE (cN 5) (PP - 2) from rfl,←Bi _ (by decide+kernel)]
   decide+kernel
  rw [e1]; decide+kernel
 rw [e] at nm
 rw [e5] at iv
 rw [e4] at tm
 have hL:=bN 32 (bY cX)
 generalize toLE 32 (bY cX)=v at*
 have ui:(af v).length=32:=by rw [af,aH,hL]
 have Aj:(af v).take 32=af v:=aQ aa
 refine aC (F:=F229) rfl ?_
 simp only [bG,aw] at iv tm nm ⊢
 simp only [F229,ax,seval,ae,aK,bS,cI,iv,tm,nm,ui,Aj]
def C21Fc:= @F378.eq_1
theorem KA {a b:Nat} {F:aq} {l:ai} (ha:cF a=some F) (hb:cF b=some F):cR a l=cR b l:=by
 have:cf cF gU (.fn a [] []) l .empty=cf cF gU (.fn b [] []) l .empty:=by
  have e: ∀n,dj cF (run cF gU n) (.fn a [] []) l .empty=dj cF (run cF gU n) (.fn b [] []) l .empty:=by
   intro n; unfold dj; simp only [ha,hb]
  apply Option.ext; intro x
  rw [dJ,dJ]; simp only [e]
 unfold cR dO; rw [this]
theorem Vk {s:aG} (h:s.length=32):cR 275 [bG s]=some (aw (bL s)):=by
 rw [KA (a:=275) (b:=348) (F:=YV) rfl rfl]; exact A9 h
theorem DP {A B:Nat} (hA:A < aM) (hB:B < aM):cR 277 [aw A,aw B]=some (.tup [aw (if B<=A then A - B else A+aM - B), .bool (decide (A < B))]):=by
 rw [KA (a:=277) (b:=352) (F:=YU) rfl rfl]; exact nY hA hB
theorem R6:aw LL= .agg [.int .u64 6346243789798364141, .int .u64 1503914060200516822, .int .u64 0, .int .u64 1152921504606846976]:=by
 have h0:(wq LL 0).toNat=6346243789798364141:=by decide+kernel
 have h1:(wq LL 1).toNat=1503914060200516822:=by decide+kernel
 have h2:(wq LL 2).toNat=0:=by decide+kernel
 have h3:(wq LL 3).toNat=1152921504606846976:=by decide+kernel
 simp only [aw,U,h0,h1,h2,h3]; rfl
theorem JM:cR 276 []=some (aw LL):=by
 rw [R6]
 refine aC (F:=F276) rfl ?_
 simp only [F276,ax,seval,ae]
theorem LL_T:LL < aM:=by decide+kernel
theorem LL_2:2*LL < aM:=by decide+kernel
theorem r_snum {X:Nat}:cR 379 [aw X]=some (bG (toLE 32 X)):=by
 refine aC (F:=F379) rfl ?_
 rw [F9]
 simp only [bG,af,List.map_cons,List.map_nil]
 simp only [F379,ax,seval,ae,ay,aT,@aP,@bk,@qN,aw,@sh_v,@wr_8,U]
theorem Vn {s:aG} (h:s.length=32):cR 225 [bG s]=some (.bool (decide (bL s < LL))):=by
 have hl:=Vk h
 have ho:=JM
 have hm:=DP (qa h) LL_T
 have hL:(af s).length=32:=by rw [af,aH,h]
 have ht:(af s).take 32=af s:=aQ aa
 refine aC (F:=F225) rfl ?_
 simp only [bG,aw] at hl ho hm ⊢
 simp only [F225,ax,seval,ae,hL,ht,aK,bS,hl,ho,hm]
theorem LB {a b c d bit:UInt64} (hb:bit.toNat<=1) (h:2*v4 a b c d+1 < aM) :
  v4 (a <<< 1 ||| bit) (b <<< 1 ||| a >>> 63) (c <<< 1 ||| b >>> 63) (d <<< 1 ||| c >>> 63)=2*v4 a b c d+bit.toNat:=by
 have e (x y:UInt64) (hy:y.toNat<=1):(x <<< 1 ||| y).toNat=2*x.toNat % 18446744073709551616+y.toNat:=by
  rw [UInt64.toNat_or,UInt64.toNat_shiftLeft,show (1:UInt64).toNat % 64=1 from rfl,Nat.shiftLeft_eq]
  have:=fL x
  have e1:x.toNat*2 ^ 1 % 2 ^ 64=(x.toNat % 2 ^ 63) <<< 1:=by rw [Nat.shiftLeft_eq]; omega
  rw [e1,←Nat.shiftLeft_add_eq_or_of_lt aa,Nat.shiftLeft_eq]
  omega
 have s (x:UInt64):(x >>> 63).toNat=x.toNat / 9223372036854775808:=by
  rw [UInt64.toNat_shiftRight,show (63:UInt64).toNat % 64=63 from rfl,Nat.shiftRight_eq_div_pow]
 have ha:=fL a; have nu:=fL b; have hc:=fL c; have hd:=fL d
 have sa:=s a; have sb:=s b; have sc:=s c
 have e0:=e a bit hb
 have e1:=e b (a >>> 63) aa
 have e2:=e c (b >>> 63) aa
 have e3:=e d (c >>> 63) aa
 unfold v4 aM at*
 rw [e0,e1,e2,e3,sa,sb,sc]
 omega
theorem c_step {b X:Nat} {bit:UInt64} {σ:ag} (hX:X < LL) (hb:bit.toNat<=1) (h:look σ.m b=some (.own (dB X))) (hn:b < σ.next) :
  ∃σ',cf cF gU (.fn 378 [.ptr b 0] []) [U bit] σ=some (.tup [],σ')/\look σ'.m b=some (.own (dB ((2*X+bit.toNat) % LL)))/\σ.next<=σ'.next/\∀j,j < σ.next->j≠b->look σ'.m j=look σ.m j:=by
 obtain ⟨x0,x1,x2,x3,rfl⟩:=lZ (bU hX LL_T)
 have hL:=LL_2
 have hd:=LB (a:=x0) (b:=x1) (c:=x2) (d:=x3) hb aa
 have ho:=JM
 have hT:2*v4 x0 x1 x2 x3+bit.toNat < aM:=by omega
 have hm:=DP hT LL_T
 have dx:((1:UInt64)).toNat=1:=rfl
 have sl (x:UInt64):aY .shl .u64 (x.toNat:Int) 1=some (U (x <<< 1)):=Gm x 1 (by decide)
 have sr (x:UInt64):aY .shr .u64 (x.toNat:Int) 63=some (U (x >>> 63)):=qB x 63 (by decide)
 rw [show aw (2*v4 x0 x1 x2 x3+bit.toNat)= .agg [U (x0 <<< 1 ||| bit),U (x1 <<< 1 ||| x0 >>> 63),U (x2 <<< 1 ||| x1 >>> 63),U (x3 <<< 1 ||| x2 >>> 63)] by rw [←hd,dS]] at hm
 have nu (k:Nat): ¬b=σ.next+k:=by omega
 have E5: ¬b=σ.next:=by omega
 have hb'' (k:Nat): ¬σ.next+k=b:=by omega
 have zE: ¬σ.next=b:=by omega
 refine uC (F:=F378) rfl ?_
 have hF:dB (v4 x0 x1 x2 x3)= [U x0,U x1,U x2,U x3]:=by
  obtain ⟨g0,g1,g2,g3⟩:=OC x0 x1 x2 x3
  rw [dB,g0,g1,g2,g3]
 rw [hF] at h
 rw [R6] at ho hm
 have hsum:=hd
 generalize hN:2*v4 x0 x1 x2 x3+bit.toNat=N at*
 have Oc:dB N= [U (x0 <<< 1 ||| bit),U (x1 <<< 1 ||| x0 >>> 63),U (x2 <<< 1 ||| x1 >>> 63),U (x3 <<< 1 ||| x2 >>> 63)]:=by
  rw [←hsum]
  obtain ⟨g0,g1,g2,g3⟩:=OC (x0 <<< 1 ||| bit) (x1 <<< 1 ||| x0 >>> 63) (x2 <<< 1 ||| x1 >>> 63) (x3 <<< 1 ||| x2 >>> 63)
  rw [dB,g0,g1,g2,g3]
 by_cases hc:N < LL
 ·rw [aO hc,Oc]
  rw [decide_eq_true hc,if_neg aa] at hm
  clear hN hd hsum Oc
  simp only [aw] at hm
  simp only [U] at sl sr h hm ⊢
  simp only [C21Fc,ax,seval,ae,ay,aT,cy,@aP,@bk,h,sl,sr,rP,iy,ho,hm,nu,E5,hb'',zE,Nat.add_assoc,Nat.add_eq_left,Nat.left_eq_add,Nat.add_left_cancel_iff]
  refine ⟨by omega,fun j hj An=> ?_⟩
  have e0: ¬b=j:=fun h=>An h.symm
  have e1 (k:Nat): ¬σ.next+k=j:=by omega
  have e2: ¬σ.next=j:=by omega
  simp only [e0,e1,e2,if_false]
 ·have yp:N % LL=N - LL:=by
   rw [Nat.mod_eq_sub_mod aa,aO aa]
  rw [yp]
  rw [decide_eq_false hc,if_pos aa] at hm
  clear hN hd hsum Oc yp
  simp only [aw] at hm
  unfold dB
  simp only [U] at sl sr h hm ⊢
  simp only [C21Fc,ax,seval,ae,ay,aT,cy,@aP,@bk,h,sl,sr,rP,iy,ho,hm,nu,E5,hb'',zE,Nat.add_assoc,Nat.add_eq_left,Nat.left_eq_add,Nat.add_left_cancel_iff]
  refine ⟨by omega,fun j hj An=> ?_⟩
  have e0: ¬b=j:=fun h=>An h.symm
  have e1 (k:Nat): ¬σ.next+k=j:=by omega
  have e2: ¬σ.next=j:=by omega
  simp only [e0,e1,e2,if_false]
def C22Fa:=J @II.eq_1 (J @Cw.eq_1 (J @K1.eq_1 (@YW.eq_1)))
def zj:List UInt64->Nat
 | []=>0
 | w ::l=>w.toNat+18446744073709551616*zj l
theorem Oz: ∀l,zj l < 2 ^ (64*l.length)
 | []=>by simp [zj]
 | w ::l=>by
  have:=Oz l
  have:=fL w
  rw [zj,List.length_cons,Nat.mul_succ,Nat.pow_add]; omega
theorem Jc: ∀(s:List UInt64) (j:Nat) (c:UInt64),s[j]? =some c->zj s / 2 ^ (64*j) % 18446744073709551616=c.toNat
 | b ::l,0,c,h=>by
  have:=fL b
  simp only [List.getElem?_cons_zero,ah] at h
  subst h
  rw [zj,Nat.mul_zero,Nat.pow_zero,Nat.div_one]; omega
 | b ::l,j+1,c,h=>by
  have:=fL b
  have ih:=Jc l j c (by simpa using h)
  rw [zj,show 64*(j+1)=64+64*j by omega,Nat.pow_add,←cL,show (b.toNat+18446744073709551616*zj l) / 2 ^ 64=zj l by omega,ih]
theorem UC {s:List UInt64} {i:Nat} {c:UInt64} (h:s[i / 64]? =some c):(c >>> UInt64.ofNat (i % 64) &&& 1).toNat=zj s / 2 ^ i % 2:=by
 have hw:=Jc s (i / 64) c h
 rw [UInt64.toNat_and,UInt64.toNat_shiftRight]
 have e1:(UInt64.ofNat (i % 64)).toNat % 64=i % 64:=by
  rw [bR,aO (show i % 64 < 2 ^ 64 by omega)]; omega
 rw [e1,Nat.shiftRight_eq_div_pow,show (1:UInt64).toNat=1 from rfl,Nat.and_one_is_mod,←hw]
 have e2:zj s / 2 ^ i=zj s / 2 ^ (64*(i / 64)) / 2 ^ (i % 64):=by
  rw [cL,←Nat.pow_add,show 64*(i / 64)+i % 64=i by omega]
 rw [e2]
 generalize zj s / 2 ^ (64*(i / 64))=m
 have hk:i % 64 < 64:=bb _ (by decide)
 generalize i % 64=k at*
 rw [show 18446744073709551616=2 ^ k*2 ^ (64 - k) by rw [←Nat.pow_add,show k+(64 - k)=64 by omega],Nat.mod_mul_right_div_self]
 rw [show 2 ^ (64 - k)=2*2 ^ (63 - k) by rw [←Nat.pow_succ',show (63 - k).succ=64 - k by omega],Nat.mod_mul_right_mod]
theorem Vi {ws:List UInt64} (hl:ws.length < 1099511627776):cR 343 [.vsl (ws.map U) none]=some (bG (toLE 32 (zj ws % LL))):=by
 have hLL:0 < LL:=by decide+kernel
 refine aC (F:=YW) rfl ?_
 have hlen:(ws.map U).length=ws.length:=aH _
 have w1:IntKind.wrap .i64 ((ws.length:Int)*64)=((64*ws.length:Nat):Int):=by rw [aP aa aa]; omega
 have w2:IntKind.wrap .i64 (((64*ws.length:Nat):Int) - 1)=((64*ws.length:Nat):Int) - 1:=aP aa aa
 simp only [II,Cw,YW,ax,seval,ay,hlen,w1,w2]
 refine aL (S:=Nat×Nat) (fun p=> [(0, .vsl (ws.map U) none),(2, .ptr 0 0),(3, .ptr 1 0),(4, .fn 378 [.ptr 1 0] []),(5, .int .i64 ((p.1:Int) - 1))]) (fun p=>p.1)
  (fun p σ=>look σ.m 1=some (.own (dB p.2))/\look σ.m 0=some (.own (List.replicate 32 (.int .u8 0)))/\2<=σ.next/\p.2=zj ws / 2 ^ p.1 % LL/\p.1<=64*ws.length) ?_ (64*ws.length,0) _ ?_
 ·rintro b ⟨n,r⟩ σ ⟨g1,g0,ES,hr,hn⟩ ih
  simp only at g1 g0 ES hr hn
  cases n with
  | zero=>
   rw [Nat.pow_zero,Nat.div_one] at hr
   rw [←hr]
   have hq:=r_snum (X:=r)
   have hL:=bN 32 r
   generalize toLE 32 r=v at*
   have ui:(af v).length=32:=by rw [af,aH,hL]
   have Aj:(af v).take 32=af v:=aQ aa
   unfold dB at g1
   simp only [List.replicate] at g0
   simp only [bG,aw] at hq ⊢
   simp only [C22Fa,ax,seval,ae,g0,g1,hq,ui,Aj,aK,bS,cI]
  | succ m=>
   have hi:((m+1:Nat):Int) - 1=(m:Int):=by omega
   have kc:decide ((m:Int)≥0)=true:=by simp
   have vi:IntKind.wrap .i64 ((m:Int) - 1)=(m:Int) - 1:=aP aa aa
   obtain ⟨c,hc⟩ : ∃c,ws[m / 64]? =some c:=⟨ws[m / 64]'(by omega),bo aa⟩
   have Uh:(ws.map U)[m / 64]? =some (U c):=by rw [bO,hc]; rfl
   have vl:=oc (sz:=1) (c:=none) Uh rfl
   have og:=UC hc
   have hble:(c >>> UInt64.ofNat (m % 64) &&& 1).toNat<=1:=by rw [og]; omega
   have Od:r < LL:=by rw [hr]; exact bb _ hLL
   obtain ⟨σ1,d1,d2,d3,d4⟩:=c_step Od hble g1 aa
   have Dk:Int.tdiv (m:Int) 64=((m / 64:Nat):Int):=rfl
   have dZ:Int.tmod (m:Int) 64=((m % 64:Nat):Int):=rfl
   have hq:IntKind.wrap .i64 ((m / 64:Nat):Int)=((m / 64:Nat):Int):=aP aa aa
   have hm:IntKind.wrap .i64 ((m % 64:Nat):Int)=((m % 64:Nat):Int):=aP aa aa
   have od:=qB c (m % 64) aa
   have dx:uI 1=1:=rfl
   simp only [U] at od vl d1
   simp only [AV.cells] at vl
   simp only [C22Fa,ax,seval,ae,hi,kc,hq,hm,Dk,dZ,vl,od,gK,dx,d1,vi]
   refine ih (m,(2*r+(c >>> UInt64.ofNat (m % 64) &&& 1).toNat) % LL) _ _ (aR m) ⟨d2,?_,by omega,?_,by omega⟩ rfl
   ·rw [d4 0 aa aa]; exact g0
   ·show (2*r+(c >>> UInt64.ofNat (m % 64) &&& 1).toNat) % LL=zj ws / 2 ^ m % LL
    rw [og,hr]
    have e1:zj ws / 2 ^ m=2*(zj ws / 2 ^ (m+1))+zj ws / 2 ^ m % 2:=by
     rw [Nat.pow_succ,←cL]; omega
    conv=>rhs; rw [e1]
    rw [Nat.add_mod,Nat.mul_mod_mod,←Nat.add_mod]
 ·refine ⟨?_,rfl,aE _,?_,aE _⟩
  ·rw [show dB 0= [.int .u64 0, .int .u64 0, .int .u64 0, .int .u64 0] from by kernel_rfl]; rfl
  ·show 0=_
   rw [Nat.div_eq_of_lt (Oz ws),Nat.zero_mod]
def C23Fa:=J @IL.eq_1 (J @CL.eq_1 (J @La.eq_1 (@Y0.eq_1)))
theorem Kx: ∀cs:ai,chunks 1 cs.length cs=cs
 | []=>rfl
 | c ::cs=>by
  rw [List.length_cons,chunks,if_pos rfl,List.drop_one,List.tail_cons,Kx cs]; rfl
theorem Fv {l m:ai} (h:aB l=true) (hs: ∀x∈m,x∈l):aB m=true:=hZ.2 fun x hx=>hZ.1 h x (hs x hx)
theorem nX {σ:ag} {d b off n:Nat} {c:aD} {cs:ai} (h:look σ.m b=some (.own cs)) (hn:off+n<=cs.length) (hc:aB cs=true) (ha:cs.all AV.notAgg=true) :
  rb σ (d+1) (.sl b off n 1 c)=some (.vsl ((cs.drop off).take n) none):=by
 have hb:σ.cells b=some cs:=by unfold ag.cells ag.get; rw [h]
 have hm: ∀x∈(cs.drop off).take n,x∈cs:=fun x hx=>List.mem_of_mem_drop (List.mem_of_mem_take hx)
 have hl:((cs.drop off).take n).length=n:=by rw [bE,gA]; omega
 have ha':((cs.drop off).take n).all AV.notAgg=true:=bj.2 fun x hx=>bj.1 ha x (hm x hx)
 have e:rb σ (d+1) (.sl b off n 1 c)=(match σ.cells b with
   | some cs=>
    if off+n*1<=cs.length/\0 < 1 then
     match dt (rb σ d) ((cs.drop off).take (n*1)) with
     | some cs'=>if cs'.all AV.notAgg then some (.vsl (chunks 1 n cs') none) else none
     | none=>none
    else none
   | none=>none):=rfl
 rw [e,hb]
 simp only
 rw [Nat.mul_one,if_pos ⟨hn,by decide⟩,cP (Fv hc hm)]
 simp only
 rw [if_pos ha']
 conv=>lhs; rw [show n=((cs.drop off).take n).length from hl.symm]
 rw [hl,←hl]; simp only [hl]
 conv=>lhs; rw [show chunks 1 n (List.take n (List.drop off cs))=chunks 1 ((cs.drop off).take n).length ((cs.drop off).take n) by rw [hl]]
 rw [Kx]
theorem HV {f:Nat} {args args':ai} {σ:ag} {r:AV} (h2:dt (rb σ bK) args=some args') (he:dT args'=args') (hr:cR f args'=some r) (hf:r.flat=true):fZ cF gU false (.fn f [] []) args σ=some (r,σ):=
 gl (args':=args') rfl h2 (by rw [he]; exact hr) hf
theorem yS {f b off n:Nat} {c:aD} {cs:ai} {σ:ag} {r:AV} (h:look σ.m b=some (.own cs)) (hn:off+n<=cs.length) (hc:aB cs=true) (ha:cs.all AV.notAgg=true)
  (he:dT ((cs.drop off).take n)=(cs.drop off).take n) (hr:cR f [.vsl ((cs.drop off).take n) none]=some r) (hf:r.flat=true):fZ cF gU false (.fn f [] []) [.sl b off n 1 c] σ=some (r,σ):=
 HV (args':= [.vsl ((cs.drop off).take n) none]) (by rw [EC,show bK=23+1 from rfl,nX h hn hc ha]; rfl) (by rw [dD,jr,he,gM]) hr hf
theorem xF {σ:ag} {b n:Nat} {cs:ai} (h:look σ.m b=some (.own cs)) (hl:cs.length=n) (hn:0 < n):gR σ n 1 (.ptr b 0) none none=some (.sl b 0 n 1 (some n)):=by
 have hb:σ.cells b=some cs:=by unfold ag.cells ag.get; rw [h]
 simp [gR,bounds,hb,hl,hn]
theorem xy (n k:Nat):wq n k=UInt64.ofNat (n / 2 ^ (64*k)):=by
 rw [wq,show (18446744073709551616:Nat)=2 ^ 64 from rfl,←Nat.pow_mul]
theorem UB {n i k:Nat} {b:UInt8} (hn:n < 256 ^ i):wq (n+256 ^ i*b.toNat) k=if k=i / 8 then wq n k ||| b.toUInt64 <<< UInt64.ofNat (8*(i % 8)) else wq n k:=by
 have hb:=b.toNat_lt
 have e256:256 ^ i=2 ^ (64*(i / 8))*2 ^ (8*(i % 8)):=by
  rw [←Nat.pow_add,show (256:Nat)=2 ^ 8 from rfl,←Nat.pow_mul,show 64*(i / 8)+8*(i % 8)=8*i by omega]
 split
 ·rename_i hk
  subst hk
  apply UInt64.toNat_inj.1
  have hw:(wq n (i / 8)).toNat < 2 ^ (8*(i % 8)):=by
   rw [xy,bR]
   refine Nat.lt_of_le_of_lt (Nat.mod_le _ _) (Nat.div_lt_of_lt_mul ?_)
   rw [←e256]; exact hn
  rw [pd _ _ _ aa hw (show b.toUInt64.toNat < 256 from hb),xy,xy,bR,bR]
  have e1:(n+256 ^ i*b.toNat) / 2 ^ (64*(i / 8))=n / 2 ^ (64*(i / 8))+2 ^ (8*(i % 8))*b.toNat:=by
   rw [e256,Nat.mul_assoc,Nat.add_mul_div_left _ _ (Nat.two_pow_pos _)]
  have vM:n / 2 ^ (64*(i / 8)) < 2 ^ (8*(i % 8)):=Nat.div_lt_of_lt_mul (by rw [←e256]; exact hn)
  have h56:2 ^ (8*(i % 8))<=2 ^ 56:=Nat.pow_le_pow_right (by decide) aa
  have h3:2 ^ (8*(i % 8))*b.toNat<=2 ^ 56*255:=Nat.mul_le_mul h56 aa
  have nu:b.toUInt64.toNat=b.toNat:=rfl
  rw [e1,nu]
  generalize 2 ^ (8*(i % 8))*b.toNat=q at*
  generalize n / 2 ^ (64*(i / 8))=p at*
  generalize 2 ^ (8*(i % 8))=u at*
  omega
 ·rename_i hk
  apply UInt64.toNat_inj.1
  rw [xy,xy,bR,bR]
  by_cases h:k < i / 8
  ·have e2:256 ^ i*b.toNat=2 ^ (64*k)*(2 ^ 64*(2 ^ (8*i - 64*k - 64)*b.toNat)):=by
    rw [←Nat.mul_assoc,←Nat.mul_assoc,←Nat.pow_add,←Nat.pow_add,show (256:Nat)=2 ^ 8 from rfl,←Nat.pow_mul,show 64*k+64+(8*i - 64*k - 64)=8*i by omega]
   rw [e2,Nat.add_mul_div_left _ _ (Nat.two_pow_pos _),Nat.add_mul_mod_self_left]
  ·have h1:n+256 ^ i*b.toNat < 256 ^ (i+1):=by
    rw [Nat.pow_succ]
    have:256 ^ i*b.toNat<=256 ^ i*255:=Nat.mul_le_mul_left _ aa
    omega
   have h2:256 ^ (i+1)<=2 ^ (64*k):=by
    rw [show (256:Nat)=2 ^ 8 from rfl,←Nat.pow_mul]
    exact Nat.pow_le_pow_right (by decide) aa
   rw [Nat.div_eq_of_lt aa,Nat.div_eq_of_lt aa]
theorem Qt {s:aG} {i:Nat} {b:UInt8} (h:s[i]? =some b):bL (s.take (i+1))=bL (s.take i)+256 ^ i*b.toNat:=by
 have hi:i < s.length:=(bA.1 h).1
 have hb:s[i]=b:=(bA.1 h).2
 rw [eR hi,we,hb,bE,Nat.min_eq_left aa]
 simp [bL]
def wC (n:Nat):ai:= [U (wq n 0),U (wq n 1),U (wq n 2),U (wq n 3),U (wq n 4),U (wq n 5),U (wq n 6),U (wq n 7)]
theorem wC_map (n:Nat):wC n=(List.range 8).map fun k=>U (wq n k):=rfl
theorem OF {n j:Nat} (h:j < 8):(wC n)[j]? =some (U (wq n j)):=by
 rw [wC_map,bO,List.getElem?_range h]; rfl
theorem UK {n i:Nat} {b:UInt8} (hn:n < 256 ^ i):(wC n).set (i / 8) (U (wq n (i / 8) ||| b.toUInt64 <<< UInt64.ofNat (8*(i % 8))))=wC (n+256 ^ i*b.toNat):=by
 apply List.ext_getElem?
 intro k
 rw [List.getElem?_set]
 by_cases h8:k < 8
 ·rw [OF h8,OF h8,UB hn]
  by_cases hk:i / 8=k
  ·subst hk; simp [wC]; omega
  ·rw [if_neg hk,if_neg (fun h=>hk h.symm)]
 ·have e1: ∀m,(wC m)[k]? =none:=fun m=>cK (by simp [wC]; omega)
  rw [e1,e1]
  split
  ·rename_i hk; simp [wC]; omega
  ·rfl
theorem wC_put {n i:Nat} {b:UInt8} (hn:n < 256 ^ i) (hi:i < 64):(wC n).take (i / 8) ++ [U (wq n (i / 8) ||| b.toUInt64 <<< UInt64.ofNat (8*(i % 8)))] ++(wC n).drop (i / 8+1)=wC (n+256 ^ i*b.toNat):=by
 rw [←UK hn,List.set_eq_take_append_cons_drop,if_pos (by simp [wC]; omega),bf]; rfl
theorem nT {cs:ai} {c:aD} {n:Nat} (h:n<=cs.length):dd 1 (.vsl cs c) none (some (n:Int)) none=some (.vsl (cs.take n) (c.map (· - 0))):=by
 simp [dd,bounds,h]
theorem r_ofL {s:aG} (h:s.length=64):cR 279 [.vsl (af s) none]=some (bG (toLE 32 (bL s % LL))):=by
 have hl:(af s).length=64:=by rw [af,aH,h]
 have wk:=nT (cs:=af s) (c:=none) (n:=64) aa
 rw [aQ aa] at wk
 have hI:((64:Nat):Int)=64:=rfl
 rw [hI] at wk
 refine aC (F:=Y0) rfl ?_
 simp only [IL,CL,Y0,ax,seval,ay,hl,hI,wk,Option.map_none]
 refine aL (S:=Nat) (fun n=> [(2, .ptr 0 0),(3, .ptr 1 0),(10, .vsl (af s) none),(11, .int .i64 64),(12, .int .i64 ((64 - n:Nat):Int))]) (fun n=>n)
  (fun n σ=>look σ.m 1=some (.own (wC (bL (s.take (64 - n)))))/\look σ.m 0=some (.own (List.replicate 32 (.int .u8 0)))/\n<=64) ?_ 64 _ ?_
 ·rintro b n σ ⟨g1,g0,hn⟩ ih
  cases n with
  | zero=>
   rw [Nat.sub_zero,aQ aa] at g1
   have hws:wC (bL s)=((List.range 8).map fun k=>wq (bL s) k).map U:=rfl
   have hN:zj ((List.range 8).map fun k=>wq (bL s) k)=bL s:=by
    have aN:=rk s
    rw [h] at aN
    show zj [wq (bL s) 0,wq (bL s) 1,wq (bL s) 2,wq (bL s) 3,wq (bL s) 4,wq (bL s) 5,wq (bL s) 6,wq (bL s) 7]=bL s
    simp only [zj,kZ,Nat.pow_zero,Nat.pow_succ,Nat.one_mul,Nat.reduceMul]
    rw [show (256:Nat) ^ 64=13407807929942597099574024998205846127479365820592393377723561443721764030073546976801874298166903427690031858186486050853753882811946569946433649006084096 by decide] at aN
    omega
   have hr:=Vi (ws:=(List.range 8).map fun k=>wq (bL s) k) (by rw [aH,List.length_range]; decide)
   rw [←hws,hN] at hr
   have hP:=yS (off:=0) (n:=8) (c:=some 8) g1 (by simp [wC]) (by simp [wC,aB,AV.closed]) (by simp [wC,AV.notAgg]) (by simp only [wC,List.drop_zero,List.take_succ_cons,List.take_zero,dD,pF,gM]) hr (by simp only [bG,AV.flat,qf])
   have hL:=bN 32 (bL s % LL)
   generalize toLE 32 (bL s % LL)=v at*
   have ui:(af v).length=32:=by rw [af,aH,hL]
   have Aj:(af v).take 32=af v:=aQ aa
   simp only [List.replicate] at g0
   have hw8:(wC (bL s)).length=8:=rfl
   have Hm:=xF g1 hw8 (by decide)
   simp only [bG] at hP ⊢
   simp only [C23Fa,ax,seval,ae,g0,g1,hw8,Hm,hP,ui,Aj,aK,bS,cI,cD,Int.lt_irrefl]
  | succ m=>
   have hi:64 - (m+1) < 64:=by omega
   generalize hj:64 - (m+1)=j at*
   have hjm:64 - m=j+1:=by omega
   obtain ⟨c,hc⟩ : ∃c,s[j]? =some c:=⟨s[j]'(by omega),bo aa⟩
   have Uh:(af s)[j]? =some (.int .u8 (c.toNat:Int)):=by rw [af,bO,hc]; rfl
   have vl:=oc (sz:=1) (c:=none) Uh rfl
   have aN:decide ((j:Int) < 64)=true:=decide_eq_true aa
   have Dk:Int.tdiv (j:Int) 8=((j / 8:Nat):Int):=rfl
   have dZ:Int.tmod (j:Int) 8=((j % 8:Nat):Int):=rfl
   have hq:IntKind.wrap .i64 ((j / 8:Nat):Int)=((j / 8:Nat):Int):=aP aa aa
   have hm:IntKind.wrap .i64 ((j % 8:Nat):Int)=((j % 8:Nat):Int):=aP aa aa
   have h8:IntKind.wrap .i64 (8*((j % 8:Nat):Int))=((8*(j % 8):Nat):Int):=by rw [aP aa aa]; omega
   have vi:IntKind.wrap .i64 ((j:Int)+1)=((j+1:Nat):Int):=aP aa aa
   have hx:=iu (k:= .i64) (n:=8) (b:=1) (j:=j / 8) aa
   have iD:=OF (n:=bL (s.take j)) (j:=j / 8) aa
   have od:=Gm c.toUInt64 (8*(j % 8)) aa
   have ES:=Qt hc
   have sK:bL (s.take j) < 256 ^ j:=by
    have:=rk (s.take j)
    rwa [bE,Nat.min_eq_left aa] at this
   have hset:=wC_put (b:=c) sK hi
   have h7:j / 8<=7:=by omega
   rw [←ES] at hset
   have hw8:(wC (bL (s.take j))).length=8:=rfl
   simp only [U] at od iD hset
   simp only [AV.cells] at vl
   simp only [C23Fa,ax,seval,ae,aN,vl,hq,hm,Dk,dZ,h8,hx,g1,iD,tF,od,rP,iy,vi,hw8,h7,hset]
   exact ih m _ _ (aR m) ⟨by rw [hjm]; rfl,by simpa [look] using g0,by omega⟩ (by rw [hjm]; rfl)
 ·exact ⟨by kernel_rfl,rfl,aE _⟩
def yd:Option jS->Nat
 | some (.own cs)=>cs.length
 | _=>0
theorem eB {σ:ag} {b n:Nat} (hn:0 < n) (h:yd (look σ.m b)=n):gR σ n 1 (.ptr b 0) none none=some (.sl b 0 n 1 (some n)):=by
 unfold yd at h
 split at h
 ·rename_i cs e
  exact xF e h hn
 ·omega
def rotl (x:UInt64) (k:Nat):UInt64:=x <<< UInt64.ofNat k ||| x >>> UInt64.ofNat (64 - k)
structure V8 where
 a:UInt64
 b:UInt64
 c:UInt64
 d:UInt64
 e:UInt64
 f:UInt64
 g:UInt64
 h:UInt64
def zJ (v:V8) (x:UInt64):V8:=
 let t1:=v.h+(rotl v.e 50 ^^^ rotl v.e 46 ^^^ rotl v.e 23)+((v.e &&& v.f) ^^^ (~~~v.e &&& v.g))+x
 let t2:=(rotl v.a 36 ^^^ rotl v.a 30 ^^^ rotl v.a 25)+((v.a &&& v.b) ^^^ (v.a &&& v.c) ^^^ (v.b &&& v.c))
 ⟨t1+t2,v.a,v.b,v.c,v.d+t1,v.e,v.f,v.g⟩
def OX (x:UInt64):UInt64:=rotl x 63 ^^^ rotl x 56 ^^^ x >>> 7
def OW (y:UInt64):UInt64:=rotl y 45 ^^^ rotl y 3 ^^^ y >>> 6
def xW (l:List UInt64):UInt64:=l.getD (l.length - 16) 0+OX (l.getD (l.length - 15) 0)+l.getD (l.length - 7) 0+OW (l.getD (l.length - 2) 0)
def xG:Nat->List UInt64->List UInt64
 | 0,l=>l
 | n+1,l=>xG n (l ++ [xW l])
def Om (l:aG):UInt64:=l.foldl (fun w c=>w <<< 8 ||| c.toUInt64) 0
def Cb (s:aG) (n:Nat):List UInt64:=(List.range n).map fun i=>Om ((s.drop (8*i)).take 8)
def V8.add (v w:V8):V8:=⟨v.a+w.a,v.b+w.b,v.c+w.c,v.d+w.d,v.e+w.e,v.f+w.f,v.g+w.g,v.h+w.h⟩
def gF (v:V8):List UInt64->V8
 | []=>v
 | x ::l=>gF (zJ v x) l
def lU (l k:List UInt64):List UInt64:=List.zipWith (· + ·) l k
def MN (k:List UInt64) (v:V8) (s:aG):V8:=v.add (gF v (lU (xG 64 (Cb s 16)) k))
def mQ (k:List UInt64):Nat->V8->aG->V8
 | 0,v,_=>v
 | n+1,v,s=>mQ k n (MN k v (s.take 128)) (s.drop 128)
def mR (n:Nat):aG:=(toLE 8 n).reverse
def kJ (n:Nat):Nat:=(n+17+127) / 128*128
def eO (s:aG):aG:=s ++ [128] ++List.replicate (kJ s.length - s.length - 9) 0 ++mR (8*s.length)
def V8.list (v:V8):List UInt64:= [v.a,v.b,v.c,v.d,v.e,v.f,v.g,v.h]
def GP (v:V8):aG:=v.list.flatMap fun w=>(toLE 8 w.toNat).reverse
def KK:List UInt64:= [
 0x428a2f98d728ae22,0x7137449123ef65cd,0xb5c0fbcfec4d3b2f,0xe9b5dba58189dbbc,
 0x3956c25bf348b538,0x59f111f1b605d019,0x923f82a4af194f9b,0xab1c5ed5da6d8118,
 0xd807aa98a3030242,0x12835b0145706fbe,0x243185be4ee4b28c,0x550c7dc3d5ffb4e2,
 0x72be5d74f27b896f,0x80deb1fe3b1696b1,0x9bdc06a725c71235,0xc19bf174cf692694,
 0xe49b69c19ef14ad2,0xefbe4786384f25e3,0x0fc19dc68b8cd5b5,0x240ca1cc77ac9c65,
 0x2de92c6f592b0275,0x4a7484aa6ea6e483,0x5cb0a9dcbd41fbd4,0x76f988da831153b5,
 0x983e5152ee66dfab,0xa831c66d2db43210,0xb00327c898fb213f,0xbf597fc7beef0ee4,
 0xc6e00bf33da88fc2,0xd5a79147930aa725,0x06ca6351e003826f,0x142929670a0e6e70,
 0x27b70a8546d22ffc,0x2e1b21385c26c926,0x4d2c6dfc5ac42aed,0x53380d139d95b3df,
 0x650a73548baf63de,0x766a0abb3c77b2a8,0x81c2c92e47edaee6,0x92722c851482353b,
 0xa2bfe8a14cf10364,0xa81a664bbc423001,0xc24b8b70d0f89791,0xc76c51a30654be30,
 0xd192e819d6ef5218,0xd69906245565a910,0xf40e35855771202a,0x106aa07032bbd1b8,
 0x19a4c116b8d2d0c8,0x1e376c085141ab53,0x2748774cdf8eeb99,0x34b0bcb5e19b48a8,
 0x391c0cb3c5c95a63,0x4ed8aa4ae3418acb,0x5b9cca4f7763e373,0x682e6ff3d6b2b8a3,
 0x748f82ee5defb2fc,0x78a5636f43172f60,0x84c87814a1f0ab72,0x8cc702081a6439ec,
 0x90befffa23631e28,0xa4506cebde82bde9,0xbef9a3f7b2c67915,0xc67178f2e372532b,
 0xca273eceea26619c,0xd186b8c721c0c207,0xeada7dd6cde0eb1e,0xf57d4f7fee6ed178,
 0x06f067aa72176fba,0x0a637dc5a2c898a6,0x113f9804bef90dae,0x1b710b35131c471b,
 0x28db77f523047d84,0x32caab7b40c72493,0x3c9ebe0a15c9bebc,0x431d67c49c100d4c,
 0x4cc5d4becb3e42b6,0x597f299cfc657e2a,0x5fcb6fab3ad6faec,0x6c44198c4a475817]
def HH:V8:=⟨0x6a09e667f3bcc908,0xbb67ae8584caa73b,0x3c6ef372fe94f82b,0xa54ff53a5f1d36f1,0x510e527fade682d1,0x9b05688c2b3e6c1f,0x1f83d9abfb41bd6b,0x5be0cd19137e2179⟩
def cO (s:aG):aG:=GP (mQ KK (kJ s.length / 128) HH (eO s))
theorem pX (n:Nat):n+17<=kJ n/\kJ n % 128=0/\kJ n < n+145:=by unfold kJ; omega
theorem nH (n:Nat):(mR n).length=8:=by rw [mR,List.length_reverse,bN]
theorem sk (s:aG):(eO s).length=kJ s.length:=by
 have:=pX s.length
 simp only [eO,az,List.length_cons,List.length_nil,iV,nH]; omega
theorem P7 (v:V8):(GP v).length=64:=by
 simp [GP,V8.list,bN]
theorem qY (s:aG):(cO s).length=64:=P7 _
theorem DE: ∀n l,(xG n l).length=l.length+n
 | 0,l=>rfl
 | n+1,l=>by rw [xG,DE n,az]; simp; omega
theorem iX {x:UInt64} {k:Int} {j:Nat} (h:IntKind.wrap .u64 ((BitVec.ofInt (IntKind.bits .u64) (IntKind.wrap .u64 k) &&& BitVec.ofInt (IntKind.bits .u64) 63).toNat:Int)=(j:Int)) (h0:0 < j) (h1:j < 64) :
  cR 359 [U x, .int .i64 k]=some (U (rotl x j)):=by
 have s1:=Gm x j h1
 have s2:=qB x (64 - j) aa
 have e:IntKind.wrap .u64 (64 - (j:Int))=((64 - j:Nat):Int):=by rw [iw aa aa]; omega
 simp only [U] at s1 s2
 refine aC (F:=F359) rfl ?_
 simp only [F359,ax,seval,ae,U,h,e,s1,s2,rP,iy,rotl]
def V8.cells (v:V8):ai:= [U v.a,U v.b,U v.c,U v.d,U v.e,U v.f,U v.g,U v.h]
theorem Zo (x:UInt64):IntKind.wrap .u64 ((BitVec.ofInt (IntKind.bits .u64) (if IntKind.signed .u64=true then -1 else IntKind.max .u64) ^^^ BitVec.ofInt (IntKind.bits .u64) (x.toNat:Int)).toNat:Int)=((~~~x).toNat:Int):=by
 show IntKind.wrap .u64 ((BitVec.ofInt 64 (if IntKind.signed .u64=true then -1 else IntKind.max .u64) ^^^ BitVec.ofInt 64 (x.toNat:Int)).toNat:Int)=_
 rw [vT,bvU,show BitVec.ofInt 64 (if IntKind.signed .u64=true then -1 else IntKind.max .u64)=BitVec.allOnes 64 by decide,BitVec.allOnes_xor]; rfl
theorem c_turn {b:Nat} {v:V8} {x:UInt64} {σ:ag} (h:look σ.m b=some (.own v.cells)) :
  cf cF gU (.fn 377 [.ptr b 0] []) [U x] σ=some (.tup [],{ σ with m:=(b, .own (zJ v x).cells) ::σ.m }):=by
 have r1 {y:UInt64}:=iX (x:=y) (k:= -14) (j:=50) (by kernel_rfl) (by decide) (by decide)
 have r2 {y:UInt64}:=iX (x:=y) (k:= -18) (j:=46) (by kernel_rfl) (by decide) (by decide)
 have r3 {y:UInt64}:=iX (x:=y) (k:= -41) (j:=23) (by kernel_rfl) (by decide) (by decide)
 have r4 {y:UInt64}:=iX (x:=y) (k:= -28) (j:=36) (by kernel_rfl) (by decide) (by decide)
 have r5 {y:UInt64}:=iX (x:=y) (k:= -34) (j:=30) (by kernel_rfl) (by decide) (by decide)
 have r6 {y:UInt64}:=iX (x:=y) (k:= -39) (j:=25) (by kernel_rfl) (by decide) (by decide)
 obtain ⟨a,b',c,d,e,f,g,h'⟩:=v
 unfold V8.cells at h ⊢
 simp only [U] at r1 r2 r3 r4 r5 r6 h ⊢
 simp only [zJ]
 refine gy (F:=F377) rfl ?_
 simp only [F377,ax,seval,ae,cy,@bk,h,r1,r2,r3,r4,r5,r6,Zo,k9,gK,rP,Dr,iy]
end Go.Ab
