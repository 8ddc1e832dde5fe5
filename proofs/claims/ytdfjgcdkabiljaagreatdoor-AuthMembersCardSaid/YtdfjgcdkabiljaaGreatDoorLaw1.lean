/- What functions of the program, and of the library, answer. Conditions: none. -/
import Derived.Test.YtdfjgcdkabiljaaGreatDoorEx
import Derived.Test.YtdfjgcdkabiljaaGreatDoorIrD2
import Derived.KernelRfl
set_option linter.unusedVariables false
set_option linter.unusedSimpArgs false
set_option linter.defProp false
set_option linter.unnecessarySimpa false
namespace Go.Ab
def ipU:Nat→Option IFunc:=fun i=>look IrDTab i
def u8s (l:List Int):List AV:=l.map fun n=>AV.int .u8 n
def xL:List Int:=(List.replicate 128 0xf0) ++List.replicate 66 0xf1 ++List.replicate 30 0x02 ++ [0x13] ++List.replicate 12 0x03 ++ [0x23] ++List.replicate 2 0x03 ++ [0x34] ++List.replicate 3 0x04 ++ [0x44] ++List.replicate 11 0xf1
def gFirst:List AV:=u8s xL
def gAcc:List AV:=u8s [0x80,0xBF,0xA0,0xBF,0x80,0x9F,0x90,0xBF,0x80,0x8F] ++u8s (List.replicate 22 0)
def gPow:List AV:=(List.range 20).map fun k=>AV.int .u64 ((10 ^ k:Nat):Int)
def gU:Nat→List AV:=fun i=>if i=0 then gFirst else if i=1 then gAcc else if i=3 then u8s [45,95] else if i=4 then u8s [43,47] else if i=5 then gPow else []
noncomputable abbrev cR (f:Nat) (args:List AV):Option AV:=callR ipU gU (.fn f [] []) args
theorem cR_of {id:Nat} {F:IFunc} (hF:ipU id=some F) {args:List AV} {r:AV}
  (h:Ex ipU gU [.code F.body] (initFr args) .empty fun fr' σ1=>(resAll fr' σ1 F.res).bind (rbE σ1)=some r):cR id args=some r:=
 callR_of hF (first:= []) (caps:= []) (by simpa using h)
theorem cR_closed {f:Nat} {args:List AV} {r:AV} (n:Nat) (h:(scall ipU (run ipU gU n) (.fn f [] []) args .empty).bind (fun x=>rbE x.2 x.1)=some r):cR f args=some r:=by
 rw [Option.bind_eq_some_iff] at h
 obtain ⟨x,h1,h2⟩:=h
 unfold cR callR
 rw [callS_some.2 ⟨n,h1⟩]
 exact h2
end Go.Ab
namespace Go.Ab
set_option maxHeartbeats 1000000
theorem drop_cons {α:Type} {l:List α} {j:Nat} {x:α} (h:l[j]? =some x):l.drop j=x ::l.drop (j+1):=by
 have hj:=List.getElem?_eq_some_iff.1 h
 rw [List.drop_eq_getElem_cons hj.1,hj.2]
theorem get_lt {α:Type} {l:List α} {j:Nat} (h:j < l.length): ∃x,l[j]? =some x:=⟨_,List.getElem?_eq_getElem h⟩
theorem lt_of_get {α:Type} {l:List α} {j:Nat} {x:α} (h:l[j]? =some x):j < l.length:=(List.getElem?_eq_some_iff.1 h).1
theorem dlt {a b:Nat} (h:a < b):decide ((a:Int) < (b:Int))=true:=by simp; exact h
theorem dge {a b:Nat} (h:b≤a):decide ((a:Int) < (b:Int))=false:=by simp; exact h
theorem wsucc {j n:Nat} (h:j < n) (hn:n < 9223372036854775808):IntKind.wrap .i64 ((j:Int)+1)=((j+1:Nat):Int):=wrap_succ h hn
def V.bare (v:V):Bool:=v.n == 0 && (v.s == [] && (v.l.isEmpty && v.m.isEmpty))
theorem r_bare (v:V):cR 84 [v.enc]=some (.bool v.bare):=by
 refine cR_of (F:=F84) rfl ?_
 simp only [F84,EXA,seval,readAt_some,VX,V.bare]
 repeat' split
 all_goals simp_all
theorem r_bit (v:V):cR 85 [v.enc]=some (.bool ((V.mk v.kind 0 v.s v.l v.m).bare && (v.n == 0 || v.n == 1))):=by
 refine cR_of (F:=F85) rfl ?_
 simp only [F85,EXA,seval,readAt_some,VX,r_bare]
 repeat' split
 all_goals simp_all
def numOk (n:Int):Bool:=decide (-9007199254740991≤n) && decide (n≤9007199254740991)
theorem r_number (v:V):cR 86 [v.enc]=some (.bool ((V.mk v.kind 0 v.s v.l v.m).bare && numOk v.n)):=by
 refine cR_of (F:=F86) rfl ?_
 simp only [F86,EXA,seval,readAt_some,VX,r_bare,numOk]
 repeat' split
 all_goals first | (simp_all; done) | (simp_all; omega)
theorem r_Text (s:Bs):cR 18 [.str s]=some (V.mk 3 0 s [] []).enc:=by
 refine cR_of (F:=F18) rfl ?_
 simp only [F18,EXA,seval,readAt_some,VX]
theorem r_Less (a b:Bs):cR 61 [.str a, .str b]=some (.bool (bytesLess a b)):=by
 refine cR_of (F:=F61) rfl ?_
 simp only [F61,EXA,seval,readAt_some,VX]
def keyC (a b:Bs):Int:=if bytesLess a b=true then -1 else if bytesLess b a=true then 1 else 0
theorem r_key (x y:Mem):cR 40 [memE x,memE y]=some (.int .i64 (keyC x.1 y.1)):=by
 refine cR_of (F:=F40) rfl ?_
 simp only [F40,EXA,seval,readAt_some,VX,r_Less,keyC]
 repeat' split
 all_goals simp_all
theorem r_slot (e:Ev):cR 36 [evE e]=some (sltE ⟨e.type,e.key⟩):=by
 refine cR_of (F:=F36) rfl ?_
 simp only [F36,EXA,seval,readAt_some,VX]
end Go.Ab
namespace Go.Ab
set_option maxHeartbeats 1000000
def bw (b:UInt8):BitVec 64:=b.toBitVec.setWidth 64
def wI (w:BitVec 64):Int:=(w.toNat:Int)
theorem bw_conv (b:UInt8):IntKind.wrap .u64 (b.toNat:Int)=wI (bw b):=by
 have:=b.toNat_lt
 simp only [IntKind.wrap,IntKind.bits,IntKind.signed,wI,bw,BitVec.toNat_setWidth,UInt8.toNat_toBitVec]
 simp; omega
theorem wI_ofInt (w:BitVec 64):BitVec.ofInt 64 (wI w)=w:=by simp [wI]
theorem wI_wrap (w:BitVec 64):IntKind.wrap .u64 (w.toNat:Int)=wI w:=by
 have:=w.isLt
 simp only [IntKind.wrap,IntKind.bits,IntKind.signed,wI]
 simp; omega
theorem wI_shl (w:BitVec 64) (n:Nat):IntKind.wrap .u64 (wI w*2 ^ (min n 64))=wI (w <<< (min n 64)):=by
 simp only [IntKind.wrap,IntKind.bits,IntKind.signed,wI,BitVec.toNat_shiftLeft,Nat.shiftLeft_eq]
 simp
def wordB (a b c d e f g h:UInt8):BitVec 64:=bw a ||| bw b <<< 8 ||| bw c <<< 16 ||| bw d <<< 24 ||| bw e <<< 32 ||| bw f <<< 40 ||| bw g <<< 48 ||| bw h <<< 56
theorem r_word (a b c d e f g h:UInt8) (s:Bs):cR 106 [.str (a ::b ::c ::d ::e ::f ::g ::h ::s)]=some (.int .u64 (wI (wordB a b c d e f g h))):=by
 refine cR_of (F:=F106) rfl ?_
 simp only [F106,EXA,seval,Int.toNat_zero,Int.reduceToNat,bw_conv,wI_wrap,shiftInt,IntKind.bits]
 simp only [wI_ofInt,wI_shl,wordB]
 rfl
def hiB:BitVec 64:=0x8080808080808080#64
theorem lt_bit (b:UInt8):b < 128↔b.toBitVec.getLsbD 7=false:=by
 have:b.toBitVec.getLsbD 7=b.toBitVec.msb:=by simp [BitVec.msb,BitVec.getMsbD]
 rw [this,BitVec.msb_eq_decide,decide_eq_false_iff_not,UInt8.lt_iff_toNat_lt]
 simp
theorem word_hi {a b c d e f g h:UInt8} (hh:wordB a b c d e f g h &&& hiB=0#64):a < 128∧b < 128∧c < 128∧d < 128∧e < 128∧f < 128∧g < 128∧h < 128:=by
 have key: ∀i,(wordB a b c d e f g h &&& hiB).getLsbD i=false:=by intro i; rw [hh]; simp
 have k1:=key 7
 have k2:=key 15
 have k3:=key 23
 have k4:=key 31
 have k5:=key 39
 have k6:=key 47
 have k7:=key 55
 have k8:=key 63
 clear key
 simp [wordB,bw,hiB] at k1 k2 k3 k4 k5 k6 k7 k8
 simp only [lt_bit]
 simp_all
def wd (s:Bs):BitVec 64:=wordB (s.getD 0 0) (s.getD 1 0) (s.getD 2 0) (s.getD 3 0) (s.getD 4 0) (s.getD 5 0) (s.getD 6 0) (s.getD 7 0)
theorem eight {s:Bs} (h:8≤s.length): ∃a b c d e f g i r,s=a ::b ::c ::d ::e ::f ::g ::i ::r:=by
 match s,h with
 | a ::b ::c ::d ::e ::f ::g ::i ::r,_=>exact ⟨a,b,c,d,e,f,g,i,r,rfl⟩
theorem r_wd {s:Bs} (h:8≤s.length):cR 106 [.str s]=some (.int .u64 (wI (wd s))):=by
 obtain ⟨a,b,c,d,e,f,g,i,r,rfl⟩:=eight h
 exact r_word a b c d e f g i r
theorem or_hi {x y:BitVec 64} (h:(x ||| y) &&& hiB=0#64):x &&& hiB=0#64∧y &&& hiB=0#64:=by
 have key: ∀i (hi:i < 64),((x ||| y) &&& hiB).getLsbD i=false:=by intro i _; rw [h]; simp
 constructor
 ·apply BitVec.eq_of_getLsbD_eq
  intro i hi
  have:=key i hi
  simp at this ⊢
  cases hx:x.getLsbD i <;> simp_all
 ·apply BitVec.eq_of_getLsbD_eq
  intro i hi
  have:=key i hi
  simp at this ⊢
  cases hx:y.getLsbD i <;> simp_all
def szN (a:UInt8):Nat:=if a < 0x80 then 1 else if a < 0xc2 then 0 else if a < 0xe0 then 2 else if a < 0xf0 then 3 else if a < 0xf5 then 4 else 0
def loN (a:UInt8):UInt8:=if a=0xe0 then 0xa0 else if a=0xf0 then 0x90 else 0x80
def hiN (a:UInt8):UInt8:=if a=0xed then 0x9f else if a=0xf4 then 0x8f else 0xbf
def in2 (a b:UInt8):Bool:= !(decide (b < loN a) || decide (hiN a < b))
def ct (b:UInt8):Bool:= !(decide (b < 0x80) || decide (0xbf < b))
def vu:Bs→Bool
 | []=>true
 | a ::r=>
  if szN a=1 then vu r
  else if szN a=2 then (match r with | b ::r1=>in2 a b && vu r1 | []=>false)
  else if szN a=3 then (match r with | b ::c ::r2=>in2 a b && (ct c && vu r2) | _=>false)
  else if szN a=4 then (match r with | b ::c ::d ::r3=>in2 a b && (ct c && (ct d && vu r3)) | _=>false)
  else false
theorem vu_cons (a:UInt8) (r:Bs):vu (a ::r)=if szN a=1 then vu r
  else if szN a=2 then (match r with | b ::r1=>in2 a b && vu r1 | []=>false)
  else if szN a=3 then (match r with | b ::c ::r2=>in2 a b && (ct c && vu r2) | _=>false)
  else if szN a=4 then (match r with | b ::c ::d ::r3=>in2 a b && (ct c && (ct d && vu r3)) | _=>false)
  else false:=by rw [vu.eq_def]; rfl
theorem vu_low {a:UInt8} {r:Bs} (h:a < 128):vu (a ::r)=vu r:=by
 have:szN a=1:=by unfold szN; rw [if_pos h]
 rw [vu.eq_def]; simp only [if_pos this]
theorem vu_eight {s:Bs} (h:8≤s.length) (hh:wd s &&& hiB=0#64):vu (s.drop 8)=vu s:=by
 obtain ⟨a,b,c,d,e,f,g,i,r,rfl⟩:=eight h
 obtain ⟨h1,h2,h3,h4,h5,h6,h7,h8⟩:=word_hi (show wordB a b c d e f g i &&& hiB=0#64 from hh)
 rw [vu_low h1,vu_low h2,vu_low h3,vu_low h4,vu_low h5,vu_low h6,vu_low h7,vu_low h8]
 rfl
theorem u8_all {P:UInt8→Prop} (h: ∀n,n < 256→P (UInt8.ofNat n)) (a:UInt8):P a:=by
 have:=h a.toNat a.toNat_lt
 rwa [UInt8.ofNat_toNat] at this
def xOf (a:UInt8):Int:=xL.getD a.toNat 0
theorem gFirst_get (a:UInt8):gFirst[a.toNat]? =some (.int .u8 (xOf a)):=by
 have h2:a.toNat < xL.length:=by
  have:xL.length=256:=by decide+kernel
  have:=a.toNat_lt
  omega
 simp [gFirst,u8s,xOf,h2]
def x7 (a:UInt8):Int:=IntKind.wrap .u8 ((BitVec.ofInt 8 (xOf a) &&& BitVec.ofInt 8 7).toNat:Int)
def x4 (a:UInt8):Int:=Int.fdiv (xOf a) (2 ^ min (Int.toNat 4) 8)
theorem x7_sz (a:UInt8):128≤a→(x7 a=2↔szN a=2)∧(x7 a=3↔szN a=3)∧(x7 a=4↔szN a=4)∧IntKind.wrap .i64 (x7 a)=x7 a∧szN a≠1:=
 u8_all (P:=fun a=>128≤a→(x7 a=2↔szN a=2)∧(x7 a=3↔szN a=3)∧(x7 a=4↔szN a=4)∧IntKind.wrap .i64 (x7 a)=x7 a∧szN a≠1) (by decide+kernel) a
def accL:List Int:= [0x80,0xBF,0xA0,0xBF,0x80,0x9F,0x90,0xBF,0x80,0x8F] ++List.replicate 22 0
theorem gAcc_eq:gAcc=accL.map (AV.int .u8):=by
 rfl
theorem acc_lo (a:UInt8):128≤a→0≤x4 a∧x4 a < 16∧(szN a≠0→accL.getD ((x4 a).toNat*2) 0=(loN a).toNat∧accL.getD ((x4 a).toNat*2+1) 0=(hiN a).toNat):=
 u8_all (P:=fun a=>128≤a→0≤x4 a∧x4 a < 16∧(szN a≠0→accL.getD ((x4 a).toNat*2) 0=(loN a).toNat∧accL.getD ((x4 a).toNat*2+1) 0=(hiN a).toNat)) (by decide+kernel) a
end Go.Ab
