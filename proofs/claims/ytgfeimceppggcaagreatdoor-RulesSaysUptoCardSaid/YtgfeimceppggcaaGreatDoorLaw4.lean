/- What functions of the program, and of the library, answer. Conditions: none. -/
import Derived.Test.YtgfeimceppggcaaGreatDoorLaw3
import Derived.SizedLaws
import Derived.Test.YtgfeimceppggcaaGreatDoorDraw
import Derived.Carry
import Derived.ChangeSame
import Derived.ChangeSlices
import Derived.WideKeyArgs
import Derived.Below
import Derived.OpenShut
import Derived.RowKit
import Derived.Lib.LaidU8
import Derived.Test.YtgfeimceppggcaaGreatDoorCards
import Derived.Test.YtgfeimceppggcaaGreatDoorTie
import Derived.WalkKit
import Derived.ProofKit
import Derived.Deep.DeepHandedRow
import Derived.Lib.LaidTab
import Derived.Shelf.Vars
import Derived.Test.YtgfeimceppggcaaGreatDoorIns
set_option linter.unusedVariables false
set_option linter.unusedSimpArgs false
set_option linter.defProp false
set_option linter.unnecessarySimpa false
namespace Go.Ab
set_option maxRecDepth 100000
set_option maxHeartbeats 1000000
def T5Fa:=J @I2.eq_1 (J @De.eq_1 (J @Lt.eq_1 (@N6.eq_1)))
theorem wadd {a b:Nat} (h:a+b < 9223372036854775808):IntKind.wrap .i64 ((a:Int)+(b:Int))=((a+b:Nat):Int):=by
 simp [IntKind.wrap,IntKind.bits,IntKind.signed]
 omega
theorem O5 (s:Bs):dN s<=s.length:=by
 match s with
 | []=>simp [dN]
 | [a] | [a,b] | [a,b,c] | a ::b ::c ::d ::r=>
  simp only [gd,List.length_cons,List.length_nil]
  repeat' split
  all_goals omega
theorem VI (s:Bs) (hb:s.length < 4611686018427387904): ∃n:Int,cR 103 [.str s]=some (.int .i64 n)/\decide (n≥0)=vu s:=by
 have main:Ex cF gU [.code N6.body] (eW [.str s]) .empty fun fr' σ1=>∃n:Int,(iB fr' σ1 N6.res).bind (rbE σ1)=some (.int .i64 n)/\decide (n≥0)=vu s:=by
  simp only [I2,De,N6,ay,ax,seval]
  refine aL (S:=Nat×Nat) (fun p=> [(0, .str s),(3, .int .i64 (p.2:Int)),(4, .int .i64 (p.1:Int))]) (fun p=>s.length - p.1) (fun p _=>vu (s.drop p.1)=vu s/\p.2<=p.1/\p.1<=s.length) ?_ (0,0) _ ⟨rfl,by simp,by simp⟩
  rintro b ⟨i,k⟩ σ ⟨h1,h2,h3⟩ ih
  simp only at h1 h2 h3 ⊢
  by_cases aN:i < s.length
  ·have d1:=lS aN
   have g1:ck (.str s) (some (some (i:Int))) (some none)=some (.str (s.drop i)):=by
    have:=dq (s:=s) (i:=(i:Int)) aa aa
    simpa using this
   obtain ⟨c,hc⟩:=r_rune (s.drop i)
   cases hd:s.drop i with
   | nil=>have:=congrArg List.length hd; simp at this; omega
   | cons a r=>
    have hv:=UL (a:=a) (r:=r)
    rw [←hd] at hv
    rw [h1] at hv
    have hle:=O5 (s.drop i)
    by_cases h0:dN (s.drop i)=0
    ·have hf:vu s=false:=by rw [hv]; simp [h0]
     have hz:(((dN (s.drop i):Nat):Int) == 0)=true:=by simp [h0]
     simp only [T5Fa,ax,seval,d1,g1,hc,hz,hf]
     exact ⟨-1,rfl,rfl⟩
    ·have hz:(((dN (s.drop i):Nat):Int) == 0)=false:=by rw [cc]; omega
     have hw:=wadd (a:=i) (b:=dN (s.drop i)) (by simp at hle; omega)
     have vM:=cd (j:=k) (n:=s.length) aa aa
     simp only [T5Fa,ax,seval,d1,g1,hc,hz,hw,vM]
     refine ih (i+dN (s.drop i),k+1) _ _ (by simp; omega) ⟨?_,by simp; omega,by simp at hle ⊢; omega⟩ (by simp only [ax,seval])
     rw [hv,List.drop_drop]
     simp [h0]
  ·have d1:=lT (Nat.not_lt.1 aN)
   have:i=s.length:=by omega
   subst this
   simp only [T5Fa,ax,seval,d1]
   refine ⟨_,rfl,?_⟩
   rw [←h1]
   simp [vu]
 obtain ⟨n,fr',σ1,h1,n',h2,h3⟩:=main
 exact ⟨n',aC (F:=N6) rfl ⟨n,fr',σ1,h1,h2⟩,h3⟩
theorem Bf (s:Bs) (hb:s.length < 4611686018427387904):cR 96 [.str s]=some (.bool (vu s)):=by
 obtain ⟨n,h1,h2⟩:=VI s hb
 refine aC (F:=F96) rfl ?_
 simp only [F96,ax,seval,h1,h2]
def T6Fa:=J @I3.eq_1 (J @Df.eq_1 (J @Lv.eq_1 (@Zg.eq_1)))
def T6Fc:= @F48.eq_1
def T6Fd:= @F65.eq_1
def T6Fi:=J @Il.eq_1 (J @Ik.eq_1 (J @TB.eq_1 (@F92.eq_1)))
def T6Fj:=J @Il.eq_1 (J @Ik.eq_1 (@F92.eq_1))
def bI {α:Type} (p:α->Bool) (els:List α) (j:Nat):Int:=match (els.drop j).findIdx? p with
 | some i=>((i+j:Nat):Int)
 | none=> -1
theorem iH {α:Type} {p:α->Bool} {els:List α} {j:Nat} {e:α} (h:els[j]? =some e) (hp:p e=true):bI p els j=(j:Int):=by
 unfold bI
 rw [drop_cons h]
 simp [List.findIdx?_cons,hp]
theorem g8 {α:Type} {p:α->Bool} {els:List α} {j:Nat} {e:α} (h:els[j]? =some e) (hp:p e=false):bI p els j=bI p els (j+1):=by
 unfold bI
 rw [drop_cons h]
 simp only [List.findIdx?_cons,hp]
 cases (els.drop (j+1)).findIdx? p <;> simp <;> omega
theorem iI {α:Type} {p:α->Bool} {els:List α} {j:Nat} (h:els.length<=j):bI p els j= -1:=by
 unfold bI
 rw [bn h]
 rfl
theorem kN {α:Type} (p:α->Bool) (l:List α):decide (bI p l 0≥0)=l.any p:=by
 unfold bI
 rw [List.drop_zero]
 cases h:l.findIdx? p with
 | none=>
  have:=List.findIdx?_eq_none_iff.1 h
  have h2:l.any p=false:=by
   rw [List.any_eq_false]
   intro x hx
   simp [this x hx]
  rw [h2]
  simp
 | some i=>
  obtain ⟨h1,h2,_⟩:=List.findIdx?_eq_some_iff_getElem.1 h
  have h3:l.any p=true:=iU.2 ⟨_,List.getElem_mem h1,h2⟩
  rw [h3]
  simp
def cJ:Nat:=4611686018427387904
theorem Px (l:List V) (f:AV) (p:V->Bool) (hf:f.closed=true) (mU:f.er=f) (hlen:l.length < cJ) (hp: ∀v∈l,dO cF gU f [v.enc]=some (.bool (p v))) :
  cR 100 [.vsl (l.map V.enc) none,f]=some (.int .i64 (bI p l 0)):=by
 unfold cJ at hlen
 refine aC (F:=Zg) rfl ?_
 simp only [I3,Df,Zg,ay,ax,seval,VX]
 refine dC (S:=Nat) (fun j=> [(0, .vsl (l.map V.enc) none),(1,f),(7, .int .i64 l.length),(8, .int .i64 (j:Int))]) (fun _=> .empty) (fun j=>l.length - j) (fun j=>bI p l j=bI p l 0) ?_ 0 rfl
 intro b j hj ih
 by_cases aN:j < l.length
 ·obtain ⟨v,hv⟩:=bM aN
  have bQ:=bV (f:=V.enc) (sz:=5) (c:=none) hv (by simp [V.enc_cells])
  have bD:=hp v (bH hv)
  have aA:=lS aN
  simp only [T6Fa,ax,seval,VX,ae,aA,bQ,hf,mU,bD]
  split
  ·rename_i Ak
   rw [←hj,iH hv Ak]
  ·rename_i Ak
   refine ih (j+1) _ _ aa ?_ ?_ rfl
   ·rw [←g8 hv (by simpa using Ak)]; exact hj
   ·rw [cd aN aa]
    simp only [ax,seval]
 ·have aA:=lT (Nat.not_lt.1 aN)
  simp only [T6Fa,ax,seval,VX,aA]
  rw [←hj,iI aa]
theorem Ea (l:List V) (f:AV) (p:V->Bool) (hf:f.closed=true) (mU:f.er=f) (hlen:l.length < cJ) (hp: ∀v∈l,dO cF gU f [v.enc]=some (.bool (p v))) :
  cR 90 [.vsl (l.map V.enc) none,f]=some (.bool (l.any p)):=by
 refine aC (F:=F90) rfl ?_
 simp only [F90,ax,seval,VX,hf,mU,Px l f p hf mU hlen hp,kN]
mutual
def V.fine:V->Bool
 | .mk k n s l m=>
  if k=0 then (V.mk k n s l m).bare
  else if k=1 then (V.mk k 0 s l m).bare && (n == 0 || n == 1)
  else if k=2 then (V.mk k 0 s l m).bare && ly n
  else if k=3 then (V.mk k n [] l m).bare && vu s
  else if k=4 then (V.mk k n s [] m).bare && kg l
  else if k=5 then (V.mk k n s l []).bare && jx none m
  else false
def kg:List V->Bool
 | []=>true
 | v ::r=>v.fine && kg r
def jx:Option Bs->List (Bs×V)->Bool
 | _, []=>true
 | p,(k,v) ::r=>vu k && ((match p with | none=>true | some q=>bytesLess q k) && (v.fine && jx (some k) r))
end
def okP (p:Option Bs) (k:Bs):Bool:=match p with | none=>true | some q=>bytesLess q k
theorem jM (p:Option Bs) (k:Bs) (v:V) (r:List Mem):jx p ((k,v) ::r)=(vu k && (okP p k && (v.fine && jx (some k) r))):=by
 cases p <;> rw [jx.eq_def] <;> rfl
theorem Az: ∀l:List V,kg l= !(l.any fun v=> !v.fine)
 | []=>by simp [kg]
 | v ::r=>by simp [kg,Az r]
theorem V.fine_eq (v:V):v.fine=if v.kind=0 then v.bare
  else if v.kind=1 then (V.mk v.kind 0 v.s v.l v.m).bare && (v.n == 0 || v.n == 1)
  else if v.kind=2 then (V.mk v.kind 0 v.s v.l v.m).bare && ly v.n
  else if v.kind=3 then (V.mk v.kind v.n [] v.l v.m).bare && vu v.s
  else if v.kind=4 then (V.mk v.kind v.n v.s [] v.m).bare && kg v.l
  else if v.kind=5 then (V.mk v.kind v.n v.s v.l []).bare && jx none v.m
  else false:=by
 cases v; rw [V.fine]; rfl
def qL (m:List Mem) (j:Nat):Option Bs:=if j=0 then none else (m[j - 1]?).map (·.1)
theorem ra {m:List Mem} {j:Nat} {x:Mem} (h:m[j]? =some x):qL m (j+1)=some x.1:=by
 simp [qL,h]
theorem zV (k:Nat) (h:k < 6):cR 65 [.int .i64 (k:Int)]=some (.tup [.fn (match k with | 0=>84 | 1=>85 | 2=>86 | 3=>87 | 4=>89 | _=>92) [] [], .bool true]):=by
 match k,h with
 | 0,_ | 1,_ | 2,_ | 3,_ | 4,_ | 5,_=>exact cQ 1000 (by kernel_rfl)
theorem VD (k:Int) (h:k < 0∨6<=k):cR 65 [.int .i64 k]=some (.tup [.lit .nilFunc, .bool false]):=by
 refine aC (F:=F65) rfl ?_
 rcases h with h | h
 ·have h1:decide (k < 0)=true:=by simp; omega
  simp only [T6Fd,ax,seval,h1]
 ·have h1:decide (k < 0)=false:=by simp; omega
  have h2:decide (k≥6)=true:=by simp; omega
  simp only [T6Fd,ax,seval,h1,h2]
theorem Mb (v:V):cR 87 [v.enc]=some (.bool ((V.mk v.kind v.n [] v.l v.m).bare && vu v.s)):=by
 refine aC (F:=F87) rfl ?_
 simp only [F87,ax,seval,ae,VX,q9,Bg]
 repeat' split
 all_goals simp_all
theorem Md (v:V) (h:cR 48 [v.enc]=some (.bool v.fine)):cR 91 [v.enc]=some (.bool (!v.fine)):=by
 refine aC (F:=F91) rfl ?_
 simp only [F91,ax,seval,ae,VX,h]
theorem Mc (v:V) (hb:v.l.length < cJ) (h: ∀x∈v.l,cR 48 [x.enc]=some (.bool x.fine)):cR 89 [v.enc]=some (.bool ((V.mk v.kind v.n v.s [] v.m).bare && kg v.l)):=by
 have hc:=Ea v.l (.fn 91 [] []) (fun x=> !x.fine) rfl (by simp only [AV.er,dT]) hb (fun x hx=>Md x (h x hx))
 refine aC (F:=F89) rfl ?_
 simp only [F89,ax,seval,ae,VX,q9,hc,Az]
 repeat' split
 all_goals simp_all
theorem Zl {j:Nat} (h:0 < j) (hn:j < 9223372036854775808):IntKind.wrap .i64 ((j:Int) - 1)=((j - 1:Nat):Int):=by
 simp [IntKind.wrap,IntKind.bits,IntKind.signed]
 omega
theorem Vh (v:V) (hb:v.m.length < cJ) (h: ∀x∈v.m,cR 48 [x.2.enc]=some (.bool x.2.fine)):cR 92 [v.enc]=some (.bool ((V.mk v.kind v.n v.s v.l []).bare && jx none v.m)):=by
 unfold cJ at hb
 refine aC (F:=F92) rfl ?_
 cases hbare:(V.mk v.kind v.n v.s v.l []).bare with
 | false=>simp only [T6Fj,ax,seval,ae,VX,q9,hbare,Bool.false_and]
 | true=>
 simp only [T6Fj,ay,ax,seval,ae,VX,q9,hbare]
 refine aL (S:=Nat) (fun j=> [(3, .vsl (v.m.map bx) none),(12, .vsl (v.m.map bx) none),(13, .int .i64 v.m.length),(14, .int .i64 (j:Int))]) (fun j=>v.m.length - j) (fun j _=>jx (qL v.m j) (v.m.drop j)=jx none v.m) ?_ 0 _ rfl
 intro b j σ hj ih
 by_cases aN:j < v.m.length
 ·obtain ⟨⟨key,x⟩,hx⟩:=bM aN
  have bQ:=bV (f:=bx) (sz:=6) (c:=none) hx (by simp [bJ])
  have aA:=lS aN
  have hfx:=h _ (bH hx)
  simp only at hfx
  rw [drop_cons hx,jM] at hj
  have pn: ∀(fr':Fr) (σ':ag),vu key=true->okP (qL v.m j) key=true->x.fine=true->keep [3,12,13,14] fr'=_->_:=fun fr' σ' a1 a2 a3 hk=>ih (j+1) fr' σ' aa (by
   rw [ra hx,←hj,a1,a2,a3]; rfl) hk
  by_cases h0:j=0
  ·subst h0
   have d0':decide (0 < ((0:Nat):Int))=false:=rfl
   simp only [T6Fi,ax,Nat.reduceEqDiff,reduceIte,reduceCtorEq,Nat.reduceAdd,Nat.reduceLeDiff,Nat.reduceSub,Nat.reduceMul,Int.reduceEq,Int.reduceBEq,Int.reduceBNe,Int.reduceLT,Int.reduceLE,Nat.reduceLT,ae,VX,aA,bQ,Bg,GC,hfx,d0']
   split
   ·rename_i q1
    rw [←hj]; simp_all
   split
   ·rename_i q1 q2
    rw [←hj]; simp_all
   rename_i q1 q2
   exact pn _ _ (by simpa using q1) rfl (by simpa using q2) (by rw [cd aN aa]; simp only [ax,seval])
  ·obtain ⟨⟨pk,px⟩,Ue⟩:=bM (l:=v.m) (j:=j - 1) aa
   have lB:=bV (f:=bx) (sz:=6) (c:=none) Ue (by simp [bJ])
   have d0':decide (0 < (j:Int))=true:=by simp; omega
   have hw:=Zl (j:=j) aa aa
   have hp:okP (qL v.m j) key=bytesLess pk key:=by simp [qL,h0,Ue,okP]
   rw [hp] at hj pn
   simp only [T6Fi,ax,seval,ae,VX,aA,bQ,Bg,GC,hfx,d0',hw,lB]
   split
   ·rename_i q1
    rw [←hj]; simp_all
   split
   ·rename_i q1 q2
    rw [←hj]; simp_all
   split
   ·rename_i q1 q2 q3
    rw [←hj]; simp_all
   rename_i q1 q2 q3
   exact pn _ _ (by simpa using q1) (by simpa using q2) (by simpa using q3) (by rw [cd aN aa]; simp only [ax,seval])
 ·have aA:=lT (Nat.not_lt.1 aN)
  simp only [T6Fi,ax,seval,VX,aA]
  rw [←hj,bn aa,jx]
theorem Vz: ∀(n:Nat) (v:V),v.sz < n->v.sz < cJ->cR 48 [v.enc]=some (.bool v.fine):=by
 intro n
 induction n with
 | zero=>intro v h; omega
 | succ n ih=>
  intro v h hb
  have eA:=v.sz_eq
  have hl:=l9 v.l
  have hm:=nS v.m
  have WT: ∀x∈v.l,cR 48 [x.enc]=some (.bool x.fine):=fun x hx=>by
   have:=gL hx
   exact ih x aa aa
  have T9: ∀x∈v.m,cR 48 [x.2.enc]=some (.bool x.2.fine):=fun x hx=>by
   have:=eT hx
   exact ih x.2 aa aa
  have t1:=Mc v aa WT
  have t2:=Vh v aa T9
  refine aC (F:=F48) rfl ?_
  rw [V.fine_eq]
  by_cases hk:v.kind < 0∨6<=v.kind
  ·have e0:v.kind≠0:=by omega
   have e1:v.kind≠1:=by omega
   have e2:v.kind≠2:=by omega
   have e3:v.kind≠3:=by omega
   have e4:v.kind≠4:=by omega
   have e5:v.kind≠5:=by omega
   simp only [T6Fc,ax,seval,ae,VX,VD v.kind hk,e0,e1,e2,e3,e4,e5]
  ·obtain ⟨k,nn,s,l,m⟩:=v
   simp only [V.kind_mk,V.n_mk,V.s_mk,V.l_mk,V.m_mk] at hk t1 t2 ⊢
   have hcases:k=0∨k=1∨k=2∨k=3∨k=4∨k=5:=by omega
   have a0:cR 65 [.int .i64 0]=some (.tup [.fn 84 [] [], .bool true]):=zV 0 aa
   have a1:cR 65 [.int .i64 1]=some (.tup [.fn 85 [] [], .bool true]):=zV 1 aa
   have a2:cR 65 [.int .i64 2]=some (.tup [.fn 86 [] [], .bool true]):=zV 2 aa
   have a3:cR 65 [.int .i64 3]=some (.tup [.fn 87 [] [], .bool true]):=zV 3 aa
   have a4:cR 65 [.int .i64 4]=some (.tup [.fn 89 [] [], .bool true]):=zV 4 aa
   have a5:cR 65 [.int .i64 5]=some (.tup [.fn 92 [] [], .bool true]):=zV 5 aa
   rcases hcases with rfl | rfl | rfl | rfl | rfl | rfl
   all_goals simp only [T6Fc,ax,seval,ae,VX,a0,a1,a2,a3,a4,a5,q9,r_bit,Pt,Mb,t1,t2,Int.reduceEq]
theorem r_fine (v:V) (hb:v.sz < cJ):cR 48 [v.enc]=some (.bool v.fine):=Vz (v.sz+1) v (aR _) hb
end Go.Ab
namespace Go.Ab
open Go.RowKit Go.ChangeShapes Go.WideShapes
theorem Va {σ:ag} {n:Nat} {x:AV} {b:Bool} (h:rb σ (n+1) x=some (.bool b)):x= .bool b:=by
 cases x <;> simp only [rb] at h <;> (repeat' (split at h)) <;> simp_all
theorem Sp {x:AV} {b:Bool} (h:x.er= .bool b):x= .bool b:=by
 cases x <;> simp only [AV.er] at h <;> simp_all
theorem FG {id:Nat} {args:ai} {b:Bool} (h:cR id args=some (.bool b)): ∃n σ1,acall cF gU n id args=some (.bool b,σ1):=by
 unfold cR dO at h
 rw [Option.bind_eq_some_iff] at h
 obtain ⟨⟨r,σ1⟩,h1,h2⟩:=h
 obtain ⟨n,hn⟩:=dJ.1 h1
 refine ⟨n,σ1,?_⟩
 unfold rbE at h2
 rw [cp] at h2
 obtain ⟨y,h3,h4⟩:=h2
 obtain rfl:=Sp h4
 obtain rfl:=Va (n:=23) h3
 exact hn
section
variable {P:Program} {fm gm:Nat->aD}
theorem KB (g:Nat):aB (gU g)=true:=by
 unfold gU
 split
 ·kernel_rfl
 ·split
  ·kernel_rfl
  ·split
   ·rfl
   ·split
    ·rfl
    ·split <;> rfl
def RVs (fm:Nat->aD) (w:World) (l:ai) (vs:List Value):Prop:=l.length=vs.length/\∀j,RV fm w (fun _=>False) Mu.none (l.getD j .undef) (vs.getD j Go.undef)
theorem RVs.nil {w:World}:RVs fm w [] []:=⟨rfl,fun j=>by simpa using RV.undef _⟩
theorem RVs.cons {w:World} {x:AV} {v:Value} {l:ai} {vs:List Value} (h:RV fm w (fun _=>False) Mu.none x v) (hs:RVs fm w l vs):RVs fm w (x ::l) (v ::vs):=by
 refine ⟨by simp [hs.1],fun j=> ?_⟩
 cases j with
 | zero=>simpa using h
 | succ j=>simpa using hs.2 j
variable {H:Type} {enc:TypeId×Value->H}
theorem Jy {w:World} {g':Nat} {cells:ai} {vs:List Value} (aN:g' < w.heap.size) (hl:cells.length=vs.length) (hv: ∀j,j < vs.length->w.cell? ⟨g',j,none⟩=some (vs.getD j Go.undef))
  (hr: ∀j,RV fm w (fun _=>False) Mu.none (cells.getD j .undef) (vs.getD j Go.undef)):RV fm w (fun _=>False) Mu.none (.vptr cells 0) (.pointer (some ⟨g',0,none⟩)):=
 .vptr cells 0 g' 0 (fun j=>vs.getD j Go.undef) (by rintro (h | ⟨_,_,h⟩) <;> simp [Mu.none] at h) aN (fun j hj=>by simpa using hv j aa) hr
theorem mc {w:World} {g':Nat} {k:IntKind} {zs:List Int} (aN:g' < w.heap.size) (hv: ∀j,j < zs.length->w.cell? ⟨g',j,none⟩=some (.int k (zs.getD j 0))) :
  RV fm w (fun _=>False) Mu.none (.vptr (zs.map (AV.int k)) 0) (.pointer (some ⟨g',0,none⟩)):=by
 refine Jy (vs:=zs.map (Value.int k)) aN (by simp) (fun j hj=> ?_) (fun j=> ?_)
 ·have Dl:j < zs.length:=by simpa using hj
  rw [hv j Dl]; simp [List.getD,Dl]
 ·by_cases hj:j < zs.length
  ·have e1:(zs.map (AV.int k)).getD j .undef= .int k zs[j]:=by simp [List.getD,hj]
   have e2:(zs.map (Value.int k)).getD j Go.undef= .int k zs[j]:=by simp [List.getD,hj]
   rw [e1,e2]; exact .int _ _
  ·have e1:(zs.map (AV.int k)).getD j .undef= .undef:=by simp [List.getD,hj]
   rw [e1]; exact .undef _
theorem qG (hl:laidOutB P=true) {W W':World} {sp':Nat->Bool}: ∀ {ts:List TypeId} {vs:List Value} {ds:List (DataW H)} {ps:List MemPlace},
  (∀t∈ts,P.readableRec t=true/\t < P.types.size)->DataW.TrodAll enc P W 0 (fun _=>true) true ts vs ds ps->(∀p∈ps,W.sameAt W' p)->(∀p∈ps,sp' p.block=true)->DataW.TrodAll enc P W' 0 sp' true ts vs ds ps
 | [], [], [],_,_,h,_,_=>h
 | t ::ts,v ::vs,d ::ds,ps,hr,⟨p,q,h,hs,e⟩,vj,Hl=>by
  subst e
  refine ⟨p,q,WideElems.Trod_stays hl (hr t (by simp)).1 (hr t (by simp)).2 h (fun x hx=>vj x (by simp [hx])) (fun x hx=>Hl x (by simp [hx])),?_,rfl⟩
  exact qG hl (fun t ht=>hr t (by simp [ht])) hs (fun x hx=>vj x (by simp [hx])) (fun x hx=>Hl x (by simp [hx]))
 | [],_ ::_,_,_,_,h,_,_=>h.elim
 | [], [],_ ::_,_,_,h,_,_=>h.elim
 | _ ::_, [],_,_,_,h,_,_=>h.elim
 | _ ::_,_ ::_, [],_,_,h,_,_=>h.elim
theorem Qu {f:Func} {s:ChangeSpec} {W W':World} {args:Array Value} {ds gs:List (DataW H)} {before:List MemPlace} {tb:TypeId}
  (hv:s.vars= []) (hs:s.fn H ds= { results:= [.lit (.bool true)],args:=ds }) (rm:f.resultTypes= #[tb]) (ht:P.underlying tb=some .bool)
  (hl:laidOutB P=true) (hr: ∀t∈f.params.toList,P.readableRec t=true/\t < P.types.size)
  (hW:DataW.Whole enc P f.params.toList s.vars false W args.toList ds gs before) (hb:Below W.heap.size W W') :
  s.post enc P f false true false false W args (.bool true) W':=by
 have aN: ∀p∈before,p.block < W.heap.size:=fun p hp=>hW.lt p hp
 have hW':=hW
 obtain ⟨p,q,hA,hV,rfl,_,_⟩:=hW'
 rw [hv] at hV
 obtain ⟨rfl,rfl⟩:=trodVars_none hV
 refine ⟨ds, [],p ++ [], [],p, [],hW,?_,?_,?_,World.keptBut_mono (fun x hx=>⟨hx, .inr (.inl (by simpa using hx))⟩) (hb.frame (· ∈p ++ [])),fun h=>Bool.noConfusion h⟩
 ·rw [bm,hs,rm]
  exact trodAll_cons_mk (shut_bool ht true) trodAll_mk0
 ·rw [bm,hs]
  exact qG hl hr hA (fun x hx=>hb.same (aN x (by simpa using hx))) (fun x hx=>by simpa using aN x (by simpa using hx))
 ·rw [hv,bm,hs]
  exact rfl
theorem Bw {f:Func} {s:ChangeSpec} {W:World} {args:Array Value} {ds gs:List (DataW H)} {before:List MemPlace} {tb:TypeId} {id:Nat} {f':FuncId} {avs:ai}
  (hm:P.follows .mixedOrders=true) (hP:y5 P fm gm cF oq) (hf:fm id=some f') (zo:dM fm gm gU W (fun _=>False) Mu.none)
  (bD:cR id avs=some (.bool true)) (hrv:RVs fm W avs args.toList)
  (hv:s.vars= []) (hs:s.fn H ds= { results:= [.lit (.bool true)],args:=ds }) (rm:f.resultTypes= #[tb]) (ht:P.underlying tb=some .bool)
  (hl:laidOutB P=true) (hr: ∀t∈f.params.toList,P.readableRec t=true/\t < P.types.size)
  (hW:DataW.Whole enc P f.params.toList s.vars false W args.toList ds gs before) :
  Calls P f' args W fun e W'=>∃v,e= .returned v/\s.post enc P f false true false false W args v W':=by
 obtain ⟨n,σ1,hn⟩:=FG bD
 refine (FF KB (Sy hm KB) hP hn hf zo (by simpa using hrv.1) (fun j=> ?_)).mono ?_
 ·have:=hrv.2 j
  simpa using this
 ·rintro e W' ⟨cv,μ',rfl,h2,h3⟩
  cases h2
  exact ⟨_,rfl,Qu hv hs rm ht hl hr hW h3⟩
end
end Go.Ab
namespace Go.Ab
open Go.Lib Go.Proofs Go.Proofs.YtgfeimceppggcaaGreatDoor Go.RowKit Go.ChangeShapes Go.WideShapes
theorem xX {α:Type}: ∀ {l:List (Nat×α)} {i:Nat} {x:α},look l i=some x->(i,x)∈l
 | [],_,_,h=>by simp [look] at h
 | (j,y) ::l,i,x,h=>by
  simp only [look] at h
  split at h
  ·rename_i e
   subst e
   simp only [ah] at h
   subst h
   simp
  ·exact dp _ (xX h)
def gmD:Nat->aD:=fun i=>look [(4,0),(2,1),(0,2),(1,3),(5,5),(6,6),(7,7)] i
set_option maxRecDepth 100000
set_option maxRecDepth 100000
theorem dOwn:ownKnob Tryz.prog.godebug=none:=by kernel_rfl
theorem dMixed:Tryz.prog.follows .mixedOrders=true:=by kernel_rfl
theorem SC:laidOutB Tryz.prog=true:=by kernel_rfl
theorem dG0:Tryz.prog.globalNamed "unicode/utf8.first" =some 2:=by kernel_rfl
theorem dG1:Tryz.prog.globalNamed "unicode/utf8.acceptRanges" =some 3:=by kernel_rfl
theorem dY0:(Tryz.prog.globals[2]?).map (·.type)=some 277:=by kernel_rfl
theorem dY1:(Tryz.prog.globals[3]?).map (·.type)=some 280:=by kernel_rfl
theorem dG4:Tryz.prog.globalNamed "internal/strconv.uint64pow10" =some 5:=by kernel_rfl
theorem dG6:Tryz.prog.globalNamed "math/bits.deBruijn32tab" =some 6:=by kernel_rfl
theorem dG7:Tryz.prog.globalNamed "math/bits.deBruijn64tab" =some 7:=by kernel_rfl
theorem dG3:Tryz.prog.globalNamed "introit/b64.standard" =some 0:=by kernel_rfl
theorem dY3:(Tryz.prog.globals[0]?).map (·.type)=some 102:=by kernel_rfl
theorem dFirst:Pinned.utf8First=tabData .u8 xL:=by kernel_rfl
def NW:List Int:= [0x80,0xBF,0xA0,0xBF,0x80,0x9F,0x90,0xBF,0x80,0x8F] ++List.replicate 22 0
theorem dAcc:(Rows.laid_unicode_utf8_acceptRanges:DataW Unit)= .agg ((List.range 16).map fun i=> .agg ([NW.getD (2*i) 0,NW.getD (2*i+1) 0].map fun z=> .lit (.int .u8 z))):=by kernel_rfl
theorem Q6:yy=NW.map (AV.int .u8):=by kernel_rfl
def tX (cs:Array Value):Obj->Obj
 | .cells _ t frozen=> .cells cs t frozen
 | o=>o
def d32L:List Int:= [0,1,28,2,29,14,24,3,30,22,20,15,25,17,4,8,31,27,13,23,21,19,16,7,26,12,18,6,11,5,10,9]
def d64L:List Int:= [0,1,56,2,57,49,28,3,61,58,42,50,38,29,17,4,62,47,59,36,45,43,51,22,53,39,33,30,24,18,12,5,63,55,48,27,60,41,37,16,46,35,44,21,52,32,23,11,54,26,40,15,34,20,31,10,25,14,19,9,13,8,7,6]
def P6:List Int:= [1,10,100,1000,10000,100000,1000000,10000000,100000000,1000000000,10000000000,100000000000,1000000000000,10000000000000,100000000000000,1000000000000000,10000000000000000,100000000000000000,1000000000000000000,10000000000000000000]
noncomputable def uf (os:Os):World:=
 { World.holding Tryz.prog os ⟨#[],#[], []⟩ with
  heap:=((((((World.holding Tryz.prog os ⟨#[],#[], []⟩).heap.modify 0 (tX ([43,47].map (Value.int .u8)).toArray)).modify 2 (tX (xL.map (Value.int .u8)).toArray)).modify 3 (tX (NW.map (Value.int .u8)).toArray)).modify 5 (tX (P6.map (Value.int .u64)).toArray)).modify 6 (tX (d32L.map (Value.int .u8)).toArray)).modify 7 (tX (d64L.map (Value.int .u8)).toArray) }
theorem g_lt {W:World} {n:String} {d:DataW Unit} {g:Nat} (h:VarReads Tryz.prog W n d) (hg:Tryz.prog.globalNamed n=some g):g < W.heap.size:=by
 obtain ⟨g',t,cs,fuel,p,EW,_,zw,_⟩:=h
 obtain rfl:=br (hg.symm.trans EW)
 simp only [World.var?,hg,Option.bind_some] at zw
 rcases Nat.lt_or_ge g W.heap.size with h' | h'
 ·exact h'
 ·have:W.heap[g]? =none:=by simpa using h'
  simp [this] at zw
theorem BY {W:World} (h:VarReads Tryz.prog W "unicode/utf8.first" Pinned.utf8First): ∀j,j < xL.length->W.cell? ⟨2,j,none⟩=some (.int .u8 (xL.getD j 0)):=by
 intro j hj
 obtain ⟨g,t,cs,fuel,p,hg,hty,zw,hd⟩:=h
 obtain rfl:=br (dG0.symm.trans hg)
 obtain rfl:=br (dY0.symm.trans hty)
 rw [dFirst] at hd
 have lC:=cells_of_tab (n:=256) (e:=5) Tryz.underlying277 Tryz.underlying5 (by kernel_rfl) (by kernel_rfl) hd
 have:=World.var?_cell hg zw j
 rw [this,←Array.getElem?_toList,lC]
 simp [List.getD,hj]
theorem HP {W:World} (h:VarReads Tryz.prog W "unicode/utf8.acceptRanges" Rows.laid_unicode_utf8_acceptRanges): ∀j,j < NW.length->W.cell? ⟨3,j,none⟩=some (.int .u8 (NW.getD j 0)):=by
 intro j hj
 obtain ⟨g,t,cs,fuel,p,hg,hty,zw,hd⟩:=h
 obtain rfl:=br (dG1.symm.trans hg)
 obtain rfl:=br (dY1.symm.trans hty)
 rw [dAcc] at hd
 have hi:j / 2 < 16:=by have:j < 32:=hj; omega
 obtain ⟨fuel',d,q,hdi,he⟩:=array_elem (n:=16) (e:=279) Tryz.underlying280 hd (j / 2) hi
 simp only [bO,List.getElem?_range hi,Option.map_some,ah] at hdi
 subst hdi
 rw [show Tryz.prog.cellsOf 279=2 by kernel_rfl] at he
 have lC:=ints_of_struct Tryz.underlying279 (fun i f hf=>by
  match i,hf with
  | 0,hf=>simp at hf; subst hf; exact ⟨Tryz.underlying5,rfl,by kernel_rfl⟩
  | 1,hf=>simp at hf; subst hf; exact ⟨Tryz.underlying5,rfl,by kernel_rfl⟩
  | i+2,hf=>simp at hf) (by kernel_rfl) he
 have e0:=congrArg (·[j % 2]?) lC
 simp only [List.getElem?_take,List.getElem?_drop] at e0
 rw [World.var?_cell hg zw j,←Array.getElem?_toList]
 have Xf:j / 2*2+j % 2=j:=by omega
 rw [Xf] at e0
 rw [if_pos aa] at e0
 rw [e0]
 rcases (by omega:j % 2=0∨j % 2=1) with h | h
 ·rw [h]; simp; congr 2; omega
 ·rw [h]; simp; congr 2; omega
theorem HN {W:World} (h:VarReads Tryz.prog W "introit/b64.standard" Rows.laid_introit_b64_standard): ∀j,j < 2->W.cell? ⟨0,j,none⟩=some (.int .u8 ([43,47].getD j 0)):=by
 intro j hj
 obtain ⟨g,t,cs,fuel,p,hg,hty,zw,hd⟩:=h
 obtain rfl:=br (dG3.symm.trans hg)
 obtain rfl:=br (dY3.symm.trans hty)
 rw [show (Rows.laid_introit_b64_standard:DataW Unit)= .agg ([43,47].map fun z=> .lit (.int .u8 z)) from rfl] at hd
 have lC:=ints_of_struct Tryz.underlying102 (fun i f hf=>by
  match i,hf with
  | 0,hf=>simp at hf; subst hf; exact ⟨Tryz.underlying5,rfl,by kernel_rfl⟩
  | 1,hf=>simp at hf; subst hf; exact ⟨Tryz.underlying5,rfl,by kernel_rfl⟩
  | i+2,hf=>simp at hf) (by kernel_rfl) hd
 rw [World.var?_cell hg zw j,←Array.getElem?_toList,lC]
 rcases (by omega:j=0∨j=1) with rfl | rfl <;> rfl
theorem dY4:(Tryz.prog.globals[5]?).map (·.type)=some 293:=by kernel_rfl
theorem dPow:(Rows.laid_internal_strconv_uint64pow10:DataW Unit)=tabData .u64 P6:=by kernel_rfl
theorem Q5:Nj=P6.map (AV.int .u64):=by kernel_rfl
theorem HO {W:World} (h:VarReads Tryz.prog W "internal/strconv.uint64pow10" Rows.laid_internal_strconv_uint64pow10): ∀j,j < P6.length->W.cell? ⟨5,j,none⟩=some (.int .u64 (P6.getD j 0)):=by
 intro j hj
 obtain ⟨g,t,cs,fuel,p,hg,hty,zw,hd⟩:=h
 obtain rfl:=br (dG4.symm.trans hg)
 obtain rfl:=br (dY4.symm.trans hty)
 rw [dPow] at hd
 have lC:=cells_of_tab (n:=20) (e:=117) Tryz.underlying293 Tryz.underlying117 (by kernel_rfl) (by kernel_rfl) hd
 have:=World.var?_cell hg zw j
 rw [this,←Array.getElem?_toList,lC]
 simp [List.getD,hj]
theorem globOK {W:World} {fm:Nat->aD} (h:laidMetH Tryz.prog Rows.rulesKnownRow.laid W) (hs:W.ShapedOpen Tryz.prog):dM fm gmD gU W (fun _=>False) Mu.none:=by
 have hl:laidMet Tryz.prog Rows.rulesKnownRow.laid W:=h
 have m: ∀ {n d},(n,d)∈Rows.rulesKnownRow.laid->VarReads Tryz.prog W n d:=fun hm=>Lib.laidMet.reads hl hm
 have h0:=BY (m (n:= "unicode/utf8.first") (d:=Pinned.utf8First) (dp _ (dp _ (dp _ (dp _ (dp _ List.mem_cons_self))))))
 have h1:=HP (m (n:= "unicode/utf8.acceptRanges") (d:=Rows.laid_unicode_utf8_acceptRanges) (dp _ (dp _ (dp _ List.mem_cons_self))))
 have h3:=HN (m (n:= "introit/b64.standard") (d:=Rows.laid_introit_b64_standard) (dp _ (dp _ (dp _ (dp _ List.mem_cons_self)))))
 have h4:=HO (m (n:= "internal/strconv.uint64pow10") (d:=Rows.laid_internal_strconv_uint64pow10) (dp _ (dp _ List.mem_cons_self)))
 have h6:=g_lt (m (n:= "math/bits.deBruijn32tab") (d:=Rows.laid_math_bits_deBruijn32tab) List.mem_cons_self) dG6
 have h7:=g_lt (m (n:= "math/bits.deBruijn64tab") (d:=Rows.laid_math_bits_deBruijn64tab) (dp _ List.mem_cons_self)) dG7
 obtain ⟨m,h2⟩:=cell_of_shapedOpen_int (g:=1) (t:=3) (zero:=#[.int .i64 0]) (k:= .i64) hs (of_decide_eq_true (by kernel_rfl)) (by kernel_rfl) rfl (by kernel_rfl) (by kernel_rfl) Tryz.underlying3
 have aN: ∀g off v,W.cell? ⟨g,off,none⟩=some v->g < W.heap.size:=fun g off v h=>by
  unfold World.cell? at h
  rcases Nat.lt_or_ge g W.heap.size with h' | h'
  ·exact h'
  ·have:W.heap[g]? =none:=by simpa using h'
   simp [this] at h
 intro g g' hg
 have Kq:(g=4/\g'=0)∨(g=2/\g'=1)∨(g=0/\g'=2)∨(g=1/\g'=3)∨(g=5/\g'=5)∨(g=6/\g'=6)∨(g=7/\g'=7):=by
  have:=xX hg
  simpa using this
 have nil: ∀ {g g':Nat},gU g= []->g' < W.heap.size->RV fm W (fun _=>False) Mu.none (.vptr (gU g) 0) (.pointer (some ⟨g',0,none⟩)):=fun e aN=>
  Jy (vs:= []) aN (by rw [e]; rfl) (fun j hj=>absurd hj (Nat.not_lt_zero _)) (fun j=>by rw [e]; simpa using RV.undef _)
 rcases Kq with ⟨rfl,rfl⟩ | ⟨rfl,rfl⟩ | ⟨rfl,rfl⟩ | ⟨rfl,rfl⟩ | ⟨rfl,rfl⟩ | ⟨rfl,rfl⟩ | ⟨rfl,rfl⟩
 ·exact mc (zs:= [43,47]) (aN _ _ _ (h3 0 (by decide))) h3
 ·exact nil rfl (aN _ _ _ h2)
 ·exact mc (zs:=xL) (aN _ _ _ (h0 0 (of_decide_eq_true (by kernel_rfl)))) h0
 ·show RV fm W _ _ (.vptr yy 0) _
  rw [Q6]
  exact mc (aN _ _ _ (h1 0 (of_decide_eq_true (by kernel_rfl)))) h1
 ·show RV fm W _ _ (.vptr Nj 0) _
  rw [Q5]
  exact mc (aN _ _ _ (h4 0 (of_decide_eq_true (by kernel_rfl)))) h4
 ·exact nil rfl h6
 ·exact nil rfl h7
end Go.Ab
namespace Go.Ab
open Go.RowKit Go.ChangeShapes Go.WideShapes
mutual
def gI {H:Type}:DataW H->AV
 | .lit (.int k n)=> .int k n
 | .lit (.bool b)=> .bool b
 | .lit (.string s)=> .str s
 | .slice els _=> .vsl (Fm els) none
 | .nil=> .vsl [] none
 | .agg ps=> .agg (HJ ps)
 | _=> .undef
def Fm {H:Type}:List (DataW H)->ai
 | []=> []
 | d ::r=>gI d ::Fm r
def HJ {H:Type}:List (DataW H)->ai
 | []=> []
 | d ::r=>(gI d).cells ++HJ r
end
theorem ux {H:Type}: ∀l:List (DataW H),Fm l=l.map gI
 | []=>by simp [Fm]
 | d ::r=>by simp [Fm,ux r]
def pE (P:Program) (S:List TypeId):List Field->Nat->Nat->Bool
 | [],o,n=>o == n
 | f ::r,o,n=>f.offset == o && S.contains f.type && pE P S r (o+P.cellsOf f.type) n
def wa (P:Program) (S:List TypeId) (t:TypeId):Bool:=
 match P.underlying t with
 | some .bool | some (.int _) | some .string=>P.cellsOf t == 1
 | some (.slice e)=>P.cellsOf t == 1 && S.contains e && decide (1<=P.cellsOf e)
 | some (.struct fs)=>pE P S fs.toList 0 (P.cellsOf t)
 | _=>false
section
variable {P:Program} {fm:Nat->aD} {H:Type} {enc:TypeId×Value->H} {w:World} {base:Nat} {sp:Nat->Bool} {held:Bool} {S:List TypeId}
def RC (fm:Nat->aD) (w:World) (l:ai) (vs:List Value):Prop:=l.length=vs.length/\∀j,RV fm w (fun _=>False) Mu.none (l.getD j .undef) (vs.getD j Go.undef)
theorem RC.one {x:AV} {v:Value} (h:RV fm w (fun _=>False) Mu.none x v):RC fm w [x] [v]:=by
 refine ⟨rfl,fun j=> ?_⟩
 cases j with
 | zero=>exact h
 | succ j=>simpa using RV.undef _
theorem RC.append {l l':ai} {vs qE:List Value} (h:RC fm w l vs) (h':RC fm w l' qE):RC fm w (l ++l') (vs ++qE):=by
 refine ⟨by simp [h.1,h'.1],fun j=> ?_⟩
 by_cases hj:j < l.length
 ·have e1:(l ++l').getD j .undef=l.getD j .undef:=by simp [List.getD,eQ hj]
  have e2:(vs ++qE).getD j Go.undef=vs.getD j Go.undef:=by simp [List.getD,eQ (h.1▸hj:j < vs.length)]
  rw [e1,e2]; exact h.2 j
 ·have e1:(l ++l').getD j .undef=l'.getD (j - l.length) .undef:=by simp [List.getD,fK (Nat.not_lt.1 hj)]
  have e2:(vs ++qE).getD j Go.undef=qE.getD (j - l.length) Go.undef:=by
   have:=Nat.not_lt.1 hj
   rw [h.1] at this ⊢
   simp [List.getD,fK this]
  rw [e1,e2]; exact h'.2 _
theorem cells?_get {a:Addr} {n:Nat} {cs:List Value} (h:w.cells? base a n=some cs):cs.length=n/\∀i,i < n->w.cell? (a.add i)=some (cs.getD i Go.undef):=by
 unfold World.cells? at h
 split at h
 ·have h1:=Lib.mapM_length h
  simp at h1
  refine ⟨h1,fun i hi=> ?_⟩
  obtain ⟨b,hb,hf⟩:=Lib.mapM_at h i i (by simp [hi])
  rw [hf]; simp [List.getD,hb]
 ·simp at h
theorem AA (n0:Nat) (ih: ∀(t:TypeId) (cs:List Value) (d:DataW H) (p:List MemPlace),t∈S->DataW.trod enc P w base sp held n0 t cs=some (d,p)->cs.length=P.cellsOf t/\RC fm w (gI d).cells cs) {cs:List Value} :
  ∀(fl:List Field) (xs:List (DataW H×List MemPlace)) (o:Nat),pE P S fl o cs.length=true->xs.length=fl.length->
   (∀(i:Nat) (f:Field),fl[i]? =some f->DataW.trod enc P w base sp held n0 f.type ((cs.drop f.offset).take (P.cellsOf f.type))=xs[i]?)->
   o<=cs.length/\RC fm w (HJ (xs.map (·.1))) (cs.drop o)
 | [], [],o,h,_,_=>by
  simp only [pE,beq_iff_eq] at h
  subst h
  refine ⟨aE _,?_⟩
  simp only [List.map_nil,HJ,List.drop_length]
  exact ⟨rfl,fun j=>by simpa using RV.undef _⟩
 | [],_ ::_,_,_,h,_=>by simp at h
 | _ ::_, [],_,_,h,_=>by simp at h
 | f ::fl,x ::xs,o,h,hl,hx=>by
  simp only [pE,ak,beq_iff_eq] at h
  obtain ⟨⟨ho,hS⟩,h⟩:=h
  have h0:=hx 0 f rfl
  simp only [List.getElem?_cons_zero] at h0
  obtain ⟨gH,hrc⟩:=ih f.type _ x.1 x.2 (by simpa using hS) h0
  obtain ⟨hle,hr⟩:=AA n0 ih fl xs _ h (by simpa using hl) (fun i g hg=>hx (i+1) g hg)
  refine ⟨by omega,?_⟩
  have e:cs.drop o=(cs.drop o).take (P.cellsOf f.type) ++cs.drop (o+P.cellsOf f.type):=by
   rw [←List.drop_drop,ep]
  rw [e]
  simp only [List.map_cons,HJ]
  rw [ho] at hrc
  exact hrc.append hr
theorem U4 (hS:S.all (wa P S)=true): ∀(fuel:Nat) (t:TypeId) (cs:List Value) (d:DataW H) (p:List MemPlace),t∈S->DataW.trod enc P w base sp held fuel t cs=some (d,p)->
  cs.length=P.cellsOf t/\RC fm w (gI d).cells cs:=by
 intro fuel
 induction fuel with
 | zero=>intro t cs d p _ h; simp [DataW.trod] at h
 | succ n ih=>
  intro t cs d p ht h
  have hp:=bj.1 hS t ht
  unfold wa at hp
  split at hp
  ·rename_i hu
   obtain ⟨b,rfl,hx⟩:=DataW.trod_bool hu h
   simp only [aI] at hx
   obtain ⟨rfl,_⟩:=hx
   simp only [beq_iff_eq] at hp
   exact ⟨hp.symm,by simp only [gI]; exact .one (.bool b)⟩
  ·rename_i k hu
   obtain ⟨z,rfl,hx,_⟩:=DataW.trod_int hu h
   simp only [aI] at hx
   obtain ⟨rfl,_⟩:=hx
   simp only [beq_iff_eq] at hp
   exact ⟨hp.symm,by simp only [gI]; exact .one (.int k z)⟩
  ·rename_i hu
   obtain ⟨s,rfl,hx,_⟩:=DataW.trod_string hu h
   simp only [aI] at hx
   obtain ⟨rfl,_⟩:=hx
   simp only [beq_iff_eq] at hp
   exact ⟨hp.symm,by simp only [gI]; exact .one (.str _ s rfl)⟩
  ·rename_i e hu
   simp only [ak,beq_iff_eq,cD] at hp
   obtain ⟨⟨W6,he⟩,eA⟩:=hp
   have QV:e∈S:=by simpa using he
   rcases DataW.trod_slice hu h with ⟨rfl,hx⟩ | ⟨a,len,cap,elems,rest,m,hm,rfl,hx,_,hlc,_,Kp,dy,_,_⟩
   ·simp only [aI] at hx
    obtain ⟨rfl,_⟩:=hx
    exact ⟨W6.symm,by simp only [gI]; exact .one (.vslNil _ (.inl rfl))⟩
   ·simp only [aI] at hx
    obtain ⟨rfl,_⟩:=hx
    obtain rfl:n=m:=by omega
    refine ⟨W6.symm,?_⟩
    simp only [gI,ux]
    refine .one ?_
    by_cases h0:len=0
    ·subst h0
     have:elems= []:=List.length_eq_zero_iff.1 Kp
     subst this
     exact .vslEmpty _ _ _ (.inl rfl)
    have one: ∀i,i < len->∃ci y,w.cells? base (a.add (i*P.cellsOf e)) (P.cellsOf e)=some ci/\elems[i]? =some y/\DataW.trod enc P w base sp held n e ci=some y:=by
     intro i hi
     have h1:=dy i hi
     have h2:elems[i]? =some (elems[i]'(by omega)):=by simp
     rw [h2,Option.bind_eq_some_iff] at h1
     obtain ⟨ci,h3,h4⟩:=h1
     exact ⟨ci,_,h3,h2,h4⟩
    obtain ⟨c0,y0,k1,k2,k3⟩:=one 0 aa
    have kU:=(cells?_get k1).2 0 aa
    have hspot:=World.cell?_spot kU
    obtain ⟨blk,off,spot⟩:=a
    have Hl:spot=none:=by simpa [Addr.add] using hspot
    subst Hl
    simp only [add_plain] at one kU
    have hb:blk < w.heap.size:=by
     unfold World.cell? at kU
     have h':w.heap[blk]? ≠none:=fun e=>by simp [e] at kU
     rcases Nat.lt_or_ge blk w.heap.size with h | h
     ·exact h
     ·exact absurd (by simpa using h) h'
    have hels: ∀x∈(elems.map (·.1)).map gI,x.cells.length=P.cellsOf e:=by
     intro x hx
     simp only [List.map_map,List.mem_map] at hx
     obtain ⟨y,hy,rfl⟩:=hx
     obtain ⟨i,hi,rfl⟩:=List.mem_iff_getElem.1 hy
     obtain ⟨ci,y',q1,q2,q3⟩:=one i aa
     have q4:elems[i]? =some elems[i]:=by simp
     rw [q4] at q2
     simp only [ah] at q2
     subst q2
     obtain ⟨r1,r2,_⟩:=ih e ci _ _ QV q3
     exact r2.trans r1
    have hlen:((elems.map (·.1)).map gI).length=len:=by simp [Kp]
    have fS: ∀j,j < len*P.cellsOf e->∃v,w.cell? ⟨blk,off+j,none⟩=some v/\RV fm w (fun _=>False) Mu.none ((((elems.map (·.1)).map gI).flatMap AV.cells).getD j .undef) v:=by
     intro j hj
     have hq:j / P.cellsOf e < len:=by rw [Nat.div_lt_iff_lt_mul aa]; exact hj
     have hr:j % P.cellsOf e < P.cellsOf e:=bb _ aa
     obtain ⟨ci,y,q1,q2,q3⟩:=one (j / P.cellsOf e) hq
     obtain ⟨g1,g2⟩:=cells?_get q1
     have g3:=g2 (j % P.cellsOf e) hr
     obtain ⟨r1,r2,r3⟩:=ih e ci _ _ QV q3
     have Xf:off+j / P.cellsOf e*P.cellsOf e+j % P.cellsOf e=off+j:=by
      have:=Nat.div_add_mod j (P.cellsOf e)
      rw [Nat.mul_comm] at this
      omega
     rw [add_plain,Xf] at g3
     refine ⟨_,g3,?_⟩
     have e1:j=(j / P.cellsOf e)*P.cellsOf e+j % P.cellsOf e:=by
      have:=Nat.div_add_mod j (P.cellsOf e)
      rw [Nat.mul_comm] at this
      omega
     have e2:(((elems.map (·.1)).map gI).flatMap AV.cells).getD j .undef=(gI y.1).cells.getD (j % P.cellsOf e) .undef:=by
      have aN:j / P.cellsOf e < ((elems.map (·.1)).map gI).length:=by rw [hlen]; exact hq
      have hy:((elems.map (·.1)).map gI)[j / P.cellsOf e]=gI y.1:=by
       simp only [List.getElem_map]
       have:elems[j / P.cellsOf e]'(by omega)=y:=by
        have q4:elems[j / P.cellsOf e]? =some (elems[j / P.cellsOf e]'(by omega)):=by simp
        rw [q4] at q2; simpa using q2
       rw [this]
      conv=>lhs; rw [e1]
      rw [qg _ _ hels,List.drop_eq_getElem_cons aN,List.flatMap_cons,hy]
      have:j % P.cellsOf e < (gI y.1).cells.length:=by rw [r2,g1]; exact hr
      simp [List.getD,eQ this]
     rw [e2]
     exact r3 _
    have:=RV.vsl (fm:=fm) (w:=w) (X:=fun _=>False) (μ:=Mu.none) ((elems.map (·.1)).map gI) none blk off (P.cellsOf e) cap
     (fun j=>if j < len*P.cellsOf e then (w.cell? ⟨blk,off+j,none⟩).getD Go.undef else Go.undef)
     (by rintro (h | ⟨_,_,h⟩) <;> simp [Mu.none] at h) hb hels (by rw [hlen]; exact hlc) (.inl rfl)
     (fun j hj=>by
      rw [hlen] at hj
      obtain ⟨v,h1,_⟩:=fS j hj
      simp only [hj,if_true,h1,Option.getD_some])
     (fun j=>by
      by_cases hj:j < len*P.cellsOf e
      ·obtain ⟨v,h1,h2⟩:=fS j hj
       simp only [hj,if_true,h1,Option.getD_some]
       exact h2
      ·have:(((elems.map (·.1)).map gI).flatMap AV.cells).getD j .undef= .undef:=by
        have hl:=jd _ hels
        rw [hlen] at hl
        rw [List.getD,cK aa]; rfl
       rw [this]; exact .undef _)
    rw [hlen] at this
    exact this
  ·rename_i fs hu
   obtain ⟨xs,m,hm,hx,gH,hxl,dy⟩:=DataW.trod_struct hu h
   simp only [aI] at hx
   obtain ⟨rfl,_⟩:=hx
   obtain rfl:n=m:=by omega
   refine ⟨gH,?_⟩
   rw [←gH] at hp
   have:=(AA n ih fs.toList xs 0 hp (by simpa using hxl) (fun i f hf=>dy i f (by simpa using hf))).2
   simpa only [gI,AV.cells,List.drop_zero] using this
  ·simp at hp
end
end Go.Ab
namespace Go.Ab
open Go.RowKit Go.ChangeShapes Go.WideShapes
structure Tys (P:Program) where
 int:TypeId
 i64:TypeId
 str:TypeId
 bool:TypeId
 val:TypeId
 vals:TypeId
 mem:TypeId
 mems:TypeId
 strs:TypeId
 fval:Array Field
 fmem:Array Field
 uint:P.underlying int=some (.int .i64)
 ui64:P.underlying i64=some (.int .i64)
 ustr:P.underlying str=some .string
 ubool:P.underlying bool=some .bool
 uval:P.underlying val=some (.struct fval)
 uvals:P.underlying vals=some (.slice val)
 umem:P.underlying mem=some (.struct fmem)
 umems:P.underlying mems=some (.slice mem)
 ustrs:P.underlying strs=some (.slice str)
 tval:fval.toList.map (·.type)= [int,i64,str,vals,mems]
 tmem:fmem.toList.map (·.type)= [str,val]
structure Bulk (H:Type) where
 B:DataW H->Nat
 L:List (DataW H)->Nat
 str: ∀b,B (.lit (.string b))=b.length+1
 int: ∀k n,B (.lit (.int k n))=1
 bool: ∀b,B (.lit (.bool b))=1
 slice: ∀a b,B (.slice a b)=L a+L b+1
 agg: ∀ps,B (.agg ps)=L ps+1
 nil:L []=0
 cons: ∀d r,L (d ::r)=B d+L r
section
variable {P:Program} {H:Type} {enc:TypeId×Value->H} {w:World} {base:Nat} {sp:Nat->Bool} {held:Bool} (T:Tys P) (K:Bulk H)
theorem zO {t:TypeId} {fs:Array Field} {ts:List TypeId} {fuel:Nat} {cs:List Value} {x:DataW H×List MemPlace} (hu:P.underlying t=some (.struct fs)) (ht:fs.toList.map (·.type)=ts)
  (h:DataW.trod enc P w base sp held fuel t cs=some x): ∃(xs:List (DataW H×List MemPlace)) (n:Nat),fuel=n+1/\x.1= .agg (xs.map (·.1))/\xs.length=ts.length/\
   ∀(i:Nat) (u:TypeId),ts[i]? =some u->∃c y,xs[i]? =some y/\DataW.trod enc P w base sp held n u c=some y:=by
 obtain ⟨xs,n,hn,hx,_,hl,hg⟩:=DataW.trod_struct hu h
 subst ht
 refine ⟨xs,n,hn,by rw [hx],by simp [hl],fun i u hi=> ?_⟩
 rw [bO] at hi
 simp only [cp] at hi
 obtain ⟨f,hf,rfl⟩:=hi
 have hf':fs[i]? =some f:=by simpa using hf
 have:=hg i f hf'
 have aN:i < xs.length:=by rw [hl]; exact (Array.getElem?_eq_some_iff.1 hf').1
 have hxi:xs[i]? =some xs[i]:=by simp [aN]
 rw [hxi] at this
 exact ⟨_,_,hxi,this⟩
theorem J8 {α:Type} {f:α->AV} {m:α->Nat}: ∀(ys:List (DataW H×List MemPlace)),(∀y∈ys,∃v:α,gI y.1=f v/\m v<=K.B y.1)->
  ∃vs:List α,(ys.map (·.1)).map gI=vs.map f/\(vs.map m).sum<=K.L (ys.map (·.1))
 | [],_=>⟨[],rfl,by simp⟩
 | y ::ys,h=>by
  obtain ⟨v,h1,h2⟩:=h y (by simp)
  obtain ⟨vs,h3,h4⟩:=J8 ys (fun z hz=>h z (by simp [hz]))
  refine ⟨v ::vs,by simp [h1,h3],?_⟩
  simp only [List.map_cons,List.sum_cons,K.cons]
  omega
theorem DB {α:Type} {f:α->AV} {m:α->Nat} {t e:TypeId} {fuel:Nat} {cs:List Value} {x:DataW H×List MemPlace} (hu:P.underlying t=some (.slice e))
  (h:DataW.trod enc P w base sp held fuel t cs=some x) (he: ∀n c y,n < fuel->DataW.trod enc P w base sp held n e c=some y->∃v:α,gI y.1=f v/\m v<=K.B y.1) :
  ∃vs:List α,gI x.1= .vsl (vs.map f) none/\(vs.map m).sum<=K.B x.1:=by
 rcases DataW.trod_slice hu h with ⟨_,hx⟩ | ⟨a,len,cap,elems,rest,n,hn,_,hx,_,_,_,Kp,dy,_,_⟩
 ·subst hx
  exact ⟨[],by simp [gI],by simp⟩
 ·subst hx
  obtain ⟨vs,h1,h2⟩:=J8 K (f:=f) (m:=m) elems (fun y hy=>by
   obtain ⟨i,hi,rfl⟩:=List.mem_iff_getElem.1 hy
   have h1:=dy i aa
   have h2:elems[i]? =some (elems[i]'hi):=by simp
   rw [h2,Option.bind_eq_some_iff] at h1
   obtain ⟨ci,_,h4⟩:=h1
   exact he n ci _ aa h4)
  refine ⟨vs,?_,?_⟩
  ·simp only [gI,ux,h1]
  ·simp only [K.slice]; omega
theorem OQ {fuel:Nat} {cs:List Value} {x:DataW H×List MemPlace} (h:DataW.trod enc P w base sp held fuel T.str cs=some x): ∃s:Bs,gI x.1= .str s/\s.length+1<=K.B x.1:=by
 obtain ⟨s,_,hx,_⟩:=DataW.trod_string T.ustr h
 subst hx
 exact ⟨s.data.toList,by simp only [gI],by simp [K.str]⟩
theorem QD {t:TypeId} {k:IntKind} (hu:P.underlying t=some (.int k)) {fuel:Nat} {cs:List Value} {x:DataW H×List MemPlace} (h:DataW.trod enc P w base sp held fuel t cs=some x): ∃n:Int,gI x.1= .int k n:=by
 obtain ⟨n,_,hx,_⟩:=DataW.trod_int hu h
 subst hx
 exact ⟨n,by simp only [gI]⟩
theorem Zx: ∀l:List V,(l.map V.sz).sum=Di l
 | []=>by simp [Di]
 | v ::r=>by simp [Di,Zx r]
theorem ON: ∀l:List Mem,(l.map fun x=>x.1.length+x.2.sz).sum=vU l
 | []=>by simp [vU]
 | (k,v) ::r=>by simp [vU,ON r]
theorem five {α:Type} {xs:List α} (h:xs.length=5): ∃a b c d e,xs= [a,b,c,d,e]:=by
 match xs,h with
 | [a,b,c,d,e],_=>exact ⟨a,b,c,d,e,rfl⟩
theorem two {α:Type} {xs:List α} (h:xs.length=2): ∃a b,xs= [a,b]:=by
 match xs,h with
 | [a,b],_=>exact ⟨a,b,rfl⟩
theorem OG: ∀(fuel:Nat) {cs:List Value} {x:DataW H×List MemPlace},DataW.trod enc P w base sp held fuel T.val cs=some x->∃v:V,gI x.1=v.enc/\v.sz<=K.B x.1:=by
 intro fuel
 induction fuel using Nat.strongRecOn with
 | _ fuel ih=>
  intro cs x h
  obtain ⟨xs,n,hn,hx,hl,hg⟩:=zO T.uval T.tval h
  obtain ⟨x0,x1,x2,x3,x4,rfl⟩:=five hl
  obtain ⟨_,_,e0,h0⟩:=hg 0 _ rfl
  obtain ⟨_,_,e1,h1⟩:=hg 1 _ rfl
  obtain ⟨_,_,e2,h2⟩:=hg 2 _ rfl
  obtain ⟨_,_,e3,h3⟩:=hg 3 _ rfl
  obtain ⟨_,_,e4,h4⟩:=hg 4 _ rfl
  obtain rfl:=br e0
  obtain rfl:=br e1
  obtain rfl:=br e2
  obtain rfl:=br e3
  obtain rfl:=br e4
  obtain ⟨k,q0⟩:=QD T.uint h0
  obtain ⟨z,q1⟩:=QD T.ui64 h1
  obtain ⟨s,q2,b2⟩:=OQ T K h2
  obtain ⟨l,q3,b3⟩:=DB K (f:=V.enc) (m:=V.sz) T.uvals h3 (fun m c y hm hy=>ih m aa hy)
  obtain ⟨m,q4,b4⟩:=DB K (f:=bx) (m:=fun x:Mem=>x.1.length+x.2.sz) T.umems h4 (fun m c y hm hy=>by
   obtain ⟨ys,n',hn',Ua,zC,EW⟩:=zO T.umem T.tmem hy
   obtain ⟨y0,y1,rfl⟩:=two zC
   obtain ⟨_,_,e0,k0⟩:=EW 0 _ rfl
   obtain ⟨_,_,e1,k1⟩:=EW 1 _ rfl
   obtain rfl:=br e0
   obtain rfl:=br e1
   obtain ⟨s,q0,b0⟩:=OQ T K k0
   obtain ⟨v,q1,b1⟩:=ih n' aa k1
   refine ⟨(s,v),?_,?_⟩
   ·rw [Ua]; simp only [List.map_cons,List.map_nil,gI,HJ,q0,q1,bm,bx]; rfl
   ·rw [Ua,K.agg]; simp only [List.map_cons,List.map_nil,K.cons,K.nil]; omega)
  refine ⟨V.mk k z s l m,?_,?_⟩
  ·rw [hx,V.enc_eq]
   simp only [List.map_cons,List.map_nil,gI,HJ,q0,q1,q2,q3,q4]
   rfl
  ·rw [hx,K.agg,V.sz_eq]
   simp only [List.map_cons,List.map_nil,K.cons,K.nil,V.s,V.l,V.m]
   rw [Zx] at b3
   rw [ON] at b4
   omega
theorem KJ {fm:Nat->aD} {S:List TypeId} (hS:S.all (wa P S)=true) {t:TypeId} (ht:t∈S) {vs:Array Value} {fuel:Nat} {x:DataW H×List MemPlace} {cs:ai} (hx:gI x.1= .agg cs)
  (h:DataW.trod enc P w base sp held fuel t (Value.agg vs).cells.toList=some x):RV fm w (fun _=>False) Mu.none (gI x.1) (.agg vs):=by
 obtain ⟨_,h1,h2⟩:=U4 (fm:=fm) hS fuel t _ x.1 x.2 ht h
 rw [hx] at h1 h2 ⊢
 refine .agg cs vs (by simpa [AV.cells,Value.cells] using h1) (fun j=> ?_)
 have:=h2 j
 simpa [AV.cells,Value.cells] using this
end
end Go.Ab
namespace Go.Ab
open Go.Lib Go.Proofs Go.Proofs.YtgfeimceppggcaaGreatDoor Go.RowKit Go.ChangeShapes Go.WideShapes
set_option maxRecDepth 100000
def tyS:List TypeId:= [2,3,4,9,22,23,25,52]
theorem OK:tyS.all (wa Tryz.prog tyS)=true:=by kernel_rfl
noncomputable def fOf (t:TypeId):Array Field:=match Tryz.prog.underlying t with
 | some (.struct fs)=>fs
 | _=>#[]
noncomputable def UQ:Tys Tryz.prog where
 int:=3
 i64:=2
 str:=9
 bool:=4
 val:=25
 vals:=22
 mem:=52
 mems:=23
 strs:=34
 fval:=fOf 25
 fmem:=fOf 52
 uint:=by kernel_rfl
 ui64:=by kernel_rfl
 ustr:=by kernel_rfl
 ubool:=by kernel_rfl
 uval:=by kernel_rfl
 uvals:=by kernel_rfl
 umem:=by kernel_rfl
 umems:=by kernel_rfl
 ustrs:=by kernel_rfl
 tval:=by kernel_rfl
 tmem:=by kernel_rfl
def bulkD (H:Type):Bulk H where
 B:=Rows.uptoBulk
 L:=Rows.uptoBulkAll
 str _:=by simp only [Rows.uptoBulk]
 int _ _:=by simp only [Rows.uptoBulk]
 bool _:=by simp only [Rows.uptoBulk]
 slice _ _:=by simp only [Rows.uptoBulk]
 agg _:=by simp only [Rows.uptoBulk]
 nil:=by simp only [Rows.uptoBulkAll]
 cons _ _:=by simp only [Rows.uptoBulkAll]
theorem F8 {H:Type} {l:List (DataW H)} (hk:Rows.uptoSmall H l=true):Rows.uptoBulkAll l<=1048576:=of_decide_eq_true hk
end Go.Ab
namespace Go.Ab
set_option maxRecDepth 100000
theorem fL (x:UInt64):x.toNat < 18446744073709551616:=x.toNat_lt
theorem Cc (x:Nat) (h:x < 18446744073709551616):x >>> 63=0/\x < 9223372036854775808∨x >>> 63=1/\9223372036854775808<=x:=by
 rw [Nat.shiftRight_eq_div_pow]; omega
theorem Bo (x:UInt64):(~~~x).toNat=18446744073709551615 - x.toNat:=by
 rw [UInt64.toNat_not]; rfl
def lV (x y c:UInt64):UInt64:=((x &&& y) ||| ((x ||| y) &&& ~~~(x+y+c))) >>> 63
def zp (x y b:UInt64):UInt64:=((~~~x &&& y) ||| (~~~(x ^^^ y) &&& (x - y - b))) >>> 63
theorem Tj (x y c:UInt64):(lV x y c).toNat=(((x.toNat >>> 63) &&& (y.toNat >>> 63)) ||| (((x.toNat >>> 63) ||| (y.toNat >>> 63)) &&& ((~~~(x+y+c)).toNat >>> 63))):=by
 rw [lV,UInt64.toNat_shiftRight]
 simp only [UInt64.toNat_or,UInt64.toNat_and]
 rw [show (63:UInt64).toNat % 64=63 from rfl]
 simp only [Nat.shiftRight_or_distrib,Nat.shiftRight_and_distrib]
theorem iM (x y c:UInt64) (hc:c.toNat<=1):(x+y+c).toNat+18446744073709551616*(lV x y c).toNat=x.toNat+y.toNat+c.toNat:=by
 have hx:=fL x; have hy:=fL y; have hs:=fL (x+y+c)
 have e:(x+y+c).toNat=(x.toNat+y.toNat+c.toNat) % 18446744073709551616:=by
  rw [UInt64.toNat_add,UInt64.toNat_add,Nat.mod_add_mod]
 rw [Tj,Bo]
 have h3:=Cc (18446744073709551615 - (x+y+c).toNat) aa
 generalize (x+y+c).toNat=s at*
 generalize x.toNat=a at*
 generalize y.toNat=b at*
 rcases Cc a hx with ⟨h1,E9⟩ | ⟨h1,E9⟩ <;> rcases Cc b hy with ⟨h2,Xq⟩ | ⟨h2,Xq⟩ <;> rcases h3 with ⟨h3,h3'⟩ | ⟨h3,h3'⟩ <;> rw [h1,h2,h3] <;> simp <;> omega
theorem jX (x y c:UInt64) (hc:c.toNat<=1):(lV x y c).toNat<=1:=by
 have:=iM x y c hc
 have:=fL x; have:=fL y
 omega
theorem OO (x y b:UInt64):(zp x y b).toNat=((((~~~x).toNat >>> 63) &&& (y.toNat >>> 63)) ||| (((~~~(x ^^^ y)).toNat >>> 63) &&& ((x - y - b).toNat >>> 63))):=by
 rw [zp,UInt64.toNat_shiftRight]
 simp only [UInt64.toNat_or,UInt64.toNat_and]
 rw [show (63:UInt64).toNat % 64=63 from rfl]
 simp only [Nat.shiftRight_or_distrib,Nat.shiftRight_and_distrib]
theorem jT (x y b:UInt64) (hb:b.toNat<=1):(x - y - b).toNat+y.toNat+b.toNat=x.toNat+18446744073709551616*(zp x y b).toNat:=by
 have hx:=fL x; have hy:=fL y; have hs:=fL (x - y - b)
 have e:((x - y - b).toNat+y.toNat+b.toNat) % 18446744073709551616=x.toNat % 18446744073709551616:=by
  have:x - y - b+y+b=x:=by
   rw [UInt64.add_assoc,UInt64.add_comm y b,←UInt64.add_assoc,UInt64.sub_add_cancel,UInt64.sub_add_cancel]
  have:=congrArg UInt64.toNat this
  rw [UInt64.toNat_add,UInt64.toNat_add,Nat.mod_add_mod] at this
  rw [aO hx]; exact this
 have hxy:(~~~(x ^^^ y)).toNat >>> 63=1 - ((x.toNat >>> 63) ^^^ (y.toNat >>> 63)):=by
  rw [Bo,UInt64.toNat_xor]
  have h:=fL (x ^^^ y)
  rw [UInt64.toNat_xor] at h
  have h2:(x.toNat ^^^ y.toNat) >>> 63=(x.toNat >>> 63) ^^^ (y.toNat >>> 63):=Nat.shiftRight_xor_distrib
  rw [←h2]
  rcases Cc _ h with ⟨h1,E9⟩ | ⟨h1,E9⟩ <;> rw [h1] <;> rcases Cc (18446744073709551615 - (x.toNat ^^^ y.toNat)) aa with ⟨k,k'⟩ | ⟨k,k'⟩ <;> rw [k] <;> omega
 rw [OO,Bo,hxy]
 have h3:=Cc (x - y - b).toNat hs
 have h4:=Cc (18446744073709551615 - x.toNat) aa
 generalize (x - y - b).toNat=s at*
 generalize x.toNat=a at*
 generalize y.toNat=b' at*
 rcases Cc a hx with ⟨h1,E9⟩ | ⟨h1,E9⟩ <;> rcases Cc b' hy with ⟨h2,Xq⟩ | ⟨h2,Xq⟩ <;> rcases h3 with ⟨h3,h3'⟩ | ⟨h3,h3'⟩ <;> rcases h4 with ⟨h4,h4'⟩ | ⟨h4,h4'⟩ <;> rw [h1,h2,h3,h4] <;> simp <;> omega
theorem ig (x y b:UInt64) (hb:b.toNat<=1):(zp x y b).toNat<=1:=by
 have:=jT x y b hb
 have:=fL x; have:=fL y; have:=fL (x - y - b)
 omega
def eM (x y:UInt64):UInt64:=
 let x0:=x &&& 4294967295; let x1:=x >>> 32; let y0:=y &&& 4294967295; let y1:=y >>> 32
 let t:=x1*y0+(x0*y0) >>> 32
 x1*y1+t >>> 32+((t &&& 4294967295)+x0*y1) >>> 32
theorem lo32 (x:UInt64):(x &&& 4294967295).toNat=x.toNat % 4294967296:=by
 rw [UInt64.toNat_and]; exact Nat.and_two_pow_sub_one_eq_mod _ 32
theorem hi32 (x:UInt64):(x >>> 32).toNat=x.toNat / 4294967296:=by
 rw [UInt64.toNat_shiftRight,show (32:UInt64).toNat % 64=32 from rfl,Nat.shiftRight_eq_div_pow]
theorem Af (x y:UInt64):(eM x y).toNat=x.toNat*y.toNat / 18446744073709551616:=by
 have hx:=fL x; have hy:=fL y
 simp only [eM,UInt64.toNat_add,UInt64.toNat_mul,lo32,hi32]
 generalize x.toNat=a at*
 generalize y.toNat=b at*
 have ea:a=a / 4294967296*4294967296+a % 4294967296:=by omega
 have eb:b=b / 4294967296*4294967296+b % 4294967296:=by omega
 have k1:a / 4294967296 < 4294967296:=by omega
 have k0:a % 4294967296 < 4294967296:=by omega
 have l1:b / 4294967296 < 4294967296:=by omega
 have l0:b % 4294967296 < 4294967296:=by omega
 generalize a / 4294967296=a1 at*
 generalize a % 4294967296=a0 at*
 generalize b / 4294967296=b1 at*
 generalize b % 4294967296=b0 at*
 subst ea eb
 have e:(a1*4294967296+a0)*(b1*4294967296+b0)=a1*b1*18446744073709551616+(a1*b0+a0*b1)*4294967296+a0*b0:=by grind
 rw [e]
 have m:=fun p q (hp:p < 4294967296) (hq:q < 4294967296)=>(Nat.mul_le_mul (Nat.le_sub_one_of_lt hp) (Nat.le_sub_one_of_lt hq):p*q<=_)
 have m11:=m _ _ k1 l1; have m10:=m _ _ k1 l0; have m01:=m _ _ k0 l1; have m00:=m _ _ k0 l0
 generalize a1*b1=p at*
 generalize a1*b0=q at*
 generalize a0*b1=r at*
 generalize a0*b0=s at*
 omega
theorem mul_eq (x y:UInt64):(x*y).toNat+18446744073709551616*(eM x y).toNat=x.toNat*y.toNat:=by
 rw [Af,UInt64.toNat_mul]
 have:(2:Nat) ^ 64=18446744073709551616:=rfl
 rw [this]
 exact Nat.mod_add_div _ _
def vH (p:Nat):Prop:=1 < p/\∀m,m∣p->m=1∨m=p
theorem vH.cop {p a:Nat} (h:vH p) (ha: ¬p∣a):Nat.Coprime p a:=by
 rcases h.2 _ (Nat.gcd_dvd_left p a) with e | e
 ·exact e
 ·exact absurd (e▸Nat.gcd_dvd_right p a) ha
theorem vH.mul {p a b:Nat} (h:vH p) (hab:p∣a*b):p∣a∨p∣b:=by
 by_cases ha:p∣a
 ·exact .inl ha
 ·exact .inr ((h.cop ha).dvd_of_dvd_mul_left hab)
theorem prm_of (n:Nat) (h:1 < n): ∃p,vH p/\p∣n:=by
 induction n using Nat.strongRecOn with
 | ind n ih=>
  by_cases hn:vH n
  ·exact ⟨n,hn,Nat.dvd_refl n⟩
  ·have: ∃m,m∣n/\m≠1/\m≠n:=by
    refine Classical.byContradiction fun hc=>hn ⟨h,fun m hm=> ?_⟩
    by_cases h1:m=1
    ·exact .inl h1
    ·by_cases h2:m=n
     ·exact .inr h2
     ·exact absurd ⟨m,hm,h1,h2⟩ hc
   obtain ⟨m,hm,h1,h2⟩:=this
   have h3:m<=n:=Nat.le_of_dvd aa hm
   have h4:m≠0:=by rintro rfl; simp at hm; omega
   obtain ⟨p,hp,hd⟩:=ih m aa aa
   exact ⟨p,hp,Nat.dvd_trans hd hm⟩
def ch:Nat->Nat->Nat
 | _,0=>1
 | 0,_+1=>0
 | n+1,k+1=>ch n k+ch n (k+1)
theorem B6: ∀n k,(k+1)*ch (n+1) (k+1)=(n+1)*ch n k
 | 0,0=>rfl
 | 0,k+1=>by simp [ch]
 | n+1,0=>by
  have:=B6 n 0
  simp only [ch,Nat.zero_add,Nat.one_mul,Nat.mul_one] at this ⊢
  omega
 | n+1,k+1=>by
  have a:=B6 n k
  have b:=B6 n (k+1)
  have e:ch (n+2) (k+2)=ch (n+1) (k+1)+ch (n+1) (k+2):=rfl
  have e2:ch (n+1) (k+1)=ch n k+ch n (k+1):=rfl
  rw [e,Nat.mul_add,show k+1+1=k+2 from rfl,b,Nat.add_mul (k+1) 1,a,e2]
  simp only [Nat.add_mul,Nat.mul_add]
  omega
theorem wF: ∀n k,n < k->ch n k=0
 | 0,k+1,_=>rfl
 | n+1,k+1,h=>by rw [ch,wF n k aa,wF n (k+1) aa]
 | n,0,h=>by omega
theorem Ky: ∀n,ch n n=1
 | 0=>rfl
 | n+1=>by rw [ch,Ky n,wF n (n+1) aa]
def nG (n x:Nat):Nat->Nat
 | 0=>0
 | j+1=>nG n x j+ch n j*x ^ j
theorem AN (n x:Nat): ∀j,nG (n+1) x (j+1)=nG n x (j+1)+x*nG n x j
 | 0=>by cases n <;> simp [nG,ch]
 | j+1=>by
  have:=AN n x j
  have e:nG n x (j+1+1)=nG n x (j+1)+ch n (j+1)*(x ^ j*x):=rfl
  have e1:nG n x (j+1)=nG n x j+ch n j*x ^ j:=rfl
  have e2:nG (n+1) x (j+1+1)=nG (n+1) x (j+1)+(ch n j+ch n (j+1))*(x ^ j*x):=rfl
  have k:x*(ch n j*x ^ j)=ch n j*(x ^ j*x):=by rw [Nat.mul_left_comm,Nat.mul_comm x]
  rw [e2,this,e,e1,Nat.add_mul,Nat.mul_add,k]
  omega
theorem FC (x:Nat): ∀n,nG n x (n+1)=(x+1) ^ n
 | 0=>by simp [nG,ch]
 | n+1=>by
  rw [AN,nG,wF n (n+1) aa,FC x n,Nat.pow_succ]
  rw [Nat.zero_mul,Nat.add_zero,Nat.mul_comm x,Nat.pow_succ,Nat.mul_add,Nat.mul_one]; omega
theorem FD {p:Nat} (hp:vH p) (x:Nat): ∀j,j < p->nG p x (j+1) % p=1 % p
 | 0,_=>by cases p <;> simp [nG,ch]
 | j+1,h=>by
  have h1:=hp.1
  have d:p∣ch p (j+1):=by
   have e:=B6 (p - 1) j
   rw [show p - 1+1=p by omega] at e
   rcases hp.mul (e▸Nat.dvd_mul_right p _:p∣(j+1)*ch p (j+1)) with k | k
   ·have:=Nat.le_of_dvd aa k; omega
   ·exact k
  rw [nG,Nat.add_mod,FD hp x j aa,Nat.mod_eq_zero_of_dvd (Nat.dvd_trans d (Nat.dvd_mul_right _ _))]
  simp
theorem R8 {p:Nat} (hp:vH p): ∀x,x ^ p % p=x % p
 | 0=>by rw [Nat.zero_pow (by have:=hp.1; omega)]
 | x+1=>by
  have h1:=hp.1
  rw [←FC x p,nG,Ky,Nat.one_mul,Nat.add_mod,R8 hp x,show nG p x p=nG p x (p - 1+1) by rw [show p - 1+1=p by omega],FD hp x (p - 1) aa,←Nat.add_mod,Nat.add_comm]
theorem wy {p:Nat} (hp:vH p) {x:Nat} (hx: ¬p∣x):x ^ (p - 1) % p=1:=by
 have h1:=hp.1
 have f:=R8 hp x
 have hx0:0 < x:=by
  rcases Nat.eq_zero_or_pos x with rfl | h; · simp at hx
  ·exact h
 have Ho:0 < x ^ (p - 1):=Nat.pow_pos hx0
 have e:x ^ p=x ^ (p - 1)*x:=by rw [←Nat.pow_succ,Nat.succ_eq_add_one,show p - 1+1=p by omega]
 have d:p∣(x ^ (p - 1) - 1)*x:=by
  rw [Nat.sub_mul,←e,Nat.one_mul]
  exact Nat.dvd_of_mod_eq_zero (Nat.sub_mod_eq_zero_of_mod_eq f)
 rcases hp.mul d with k | k
 ·obtain ⟨c,hc⟩:=k
  rw [show x ^ (p - 1)=1+p*c by omega,Nat.add_mul_mod_self_left,aO h1]
 ·exact absurd k hx
theorem VO (p b:Nat) (m n:Nat):b ^ m % p=1 % p->b ^ n % p=1 % p->b ^ (Nat.gcd m n) % p=1 % p:=by
 induction m,n using Nat.gcd.induction with
 | H0 n=>intro _ h; simpa using h
 | H1 m n hm ih=>
  intro h k
  rw [Nat.gcd_rec]
  refine ih ?_ h
  have e:b ^ n=(b ^ m) ^ (n / m)*b ^ (n % m):=by rw [←Nat.pow_mul,←Nat.pow_add,Nat.div_add_mod]
  rw [e,Nat.mul_mod,Nat.pow_mod,h,←Nat.pow_mod,Nat.one_pow,←Nat.mul_mod,Nat.one_mul] at k
  exact k
theorem pock {N q p a:Nat} (hN:1 < N) (hq:vH q) (hp:vH p) (hpN:p∣N) (hd:q∣N - 1) (h1:a ^ (N - 1) % N=1) (h2:Nat.gcd (a ^ ((N - 1) / q) % N+(N - 1)) N=1):q∣p - 1:=by
 refine Classical.byContradiction fun hc=> ?_
 have F3:=hq.cop hc
 have W6:=hp.1
 have md: ∀x y,x % N=y % N->x % p=y % p:=fun x y h=>by rw [←Nat.mod_mod_of_dvd x hpN,h,Nat.mod_mod_of_dvd y hpN]
 have e1:(a ^ ((N - 1) / q)) ^ q % p=1 % p:=by
  rw [←Nat.pow_mul,Nat.div_mul_cancel hd]; exact md _ _ (by rw [h1,aO hN])
 have na: ¬p∣a ^ ((N - 1) / q):=fun h=>by
  have:p∣(a ^ ((N - 1) / q)) ^ q:=by
   have Ud:=hq.1
   generalize a ^ ((N - 1) / q)=b at*
   rw [show q=q - 1+1 by omega,Nat.pow_succ]; exact Nat.dvd_trans h (Nat.dvd_mul_left _ _)
  rw [Nat.mod_eq_zero_of_dvd this,aO W6] at e1; omega
 have e2:=wy hp na
 have e3:=VO p _ _ _ e1 (by rw [e2,aO W6])
 rw [F3,Nat.pow_one] at e3
 have:p∣a ^ ((N - 1) / q) % N+(N - 1):=by
  apply Nat.dvd_of_mod_eq_zero
  rw [Nat.add_mod,Nat.mod_mod_of_dvd _ hpN,e3,←Nat.add_mod,show 1+(N - 1)=N by omega]
  exact Nat.mod_eq_zero_of_dvd hpN
 have g:p∣1:=h2▸Nat.dvd_gcd this hpN
 have:=Nat.le_of_dvd aa g
 omega
theorem vY {N F:Nat} (hN:1 < N) (hF:N < (F+1)*(F+1)) (h: ∀p,vH p->p∣N->F∣p - 1):vH N:=by
 refine ⟨hN,fun m hm=> ?_⟩
 obtain ⟨k,hk⟩:=hm
 have cJ: ∀m k,N=m*k->m≠1->F+1<=m:=by
  intro m k hk h1
  have h0:m≠0:=by rintro rfl; omega
  obtain ⟨p,hp,hd⟩:=prm_of m aa
  have a:=Nat.le_of_dvd (by have:=hp.1; omega) (h p hp (Nat.dvd_trans hd ⟨k,hk⟩))
  have b:=Nat.le_of_dvd aa hd
  have:=hp.1
  omega
 by_cases h1:m=1
 ·exact .inl h1
 ·by_cases h2:k=1
  ·exact .inr (by rw [hk,h2,Nat.mul_one])
  ·have a:=cJ m k hk h1
   have b:=cJ k m (by rw [hk,Nat.mul_comm]) h2
   have:=Nat.mul_le_mul a b
   omega
def J3 (n:Nat):Nat->Bool
 | 0=>true
 | k+1=>(n % (k+2) != 0) && J3 n k
theorem re (n:Nat): ∀k,J3 n k=true->∀m,2<=m->m < k+2->¬m∣n
 | 0,_,m,h2,h3,_=>by omega
 | k+1,h,m,h2,h3,hd=>by
  rw [J3,ak,bne_iff_ne] at h
  by_cases e:m=k+2
  ·subst e; exact h.1 (Nat.mod_eq_zero_of_dvd hd)
  ·exact re n k h.2 m h2 aa hd
theorem pW (n k:Nat) (h1:1 < n) (hk:n < (k+2)*(k+2)) (h:J3 n k=true):vH n:=by
 refine ⟨h1,fun m hm=> ?_⟩
 obtain ⟨c,hc⟩:=hm
 have hm0:m≠0:=by rintro rfl; omega
 have kU:c≠0:=by rintro rfl; omega
 by_cases e1:m=1
 ·exact .inl e1
 by_cases e2:c=1
 ·exact .inr (by rw [hc,e2,Nat.mul_one])
 exfalso
 have a: ¬m < k+2:=fun hl=>re n k h m aa hl ⟨c,hc⟩
 have b: ¬c < k+2:=fun hl=>re n k h c aa hl ⟨m,by rw [hc,Nat.mul_comm]⟩
 have:=Nat.mul_le_mul (Nat.not_lt.1 a) (Nat.not_lt.1 b)
 omega
def stN (h:Nat) (f:Nat->Nat):Nat:=match h with
 | 0=>f 0
 | k+1=>f (k+1)
theorem stN_eq (h:Nat) (f:Nat->Nat):stN h f=f h:=by cases h <;> rfl
def pw (n a:Nat):Nat->Nat->Nat
 | 0,_=>1 % n
 | f+1,e=>stN (pw n a f (e / 2)) fun h=>if e % 2=1 then h*h % n*a % n else h*h % n
theorem zW (n a:Nat): ∀f e,e < 2 ^ f->pw n a f e=a ^ e % n
 | 0,e,h=>by rw [show e=0 by simpa using h]; rfl
 | f+1,e,h=>by
  rw [pw,stN_eq,zW n a f (e / 2) (by rw [Nat.pow_succ] at h; omega)]
  have e1:a ^ (e / 2) % n*(a ^ (e / 2) % n) % n=a ^ (2*(e / 2)) % n:=by
   rw [←Nat.mul_mod,←Nat.pow_add,Nat.two_mul]
  split
  ·rw [e1,Nat.mod_mul_mod,←Nat.pow_succ,show (2*(e / 2)).succ=e by omega]
  ·rw [e1,show 2*(e / 2)=e by omega]
theorem xQ {N q p:Nat} (a:Nat) (f:Nat) (hq:vH q) (hf:N < 2 ^ f) (hN:1 < N) (hd:(N - 1) % q=0) (h1:pw N a f (N - 1)=1) (h2:Nat.gcd (pw N a f ((N - 1) / q)+(N - 1)) N=1) (hp:vH p) (hpN:p∣N):q∣p - 1:=by
 rw [zW _ _ _ _ aa] at h1
 rw [zW _ _ _ _ (Nat.lt_of_le_of_lt (Nat.div_le_self _ _) aa)] at h2
 exact pock hN hq hp hpN (Nat.dvd_of_mod_eq_zero hd) h1 h2
theorem sg {q r p:Nat} (hq:vH q) (hr:vH r) (hqr:q < r) (h1:q∣p - 1) (h2:r∣p - 1):q*r∣p - 1:=
 Nat.Coprime.mul_dvd_of_dvd_of_dvd (hq.cop fun h=>by
  rcases hr.2 _ h with e | e
  ·have:=hq.1; omega
  ·omega) h1 h2
theorem zY:vH 57467:=pW 57467 239 (by decide) (by decide+kernel) (by decide+kernel)
theorem zX:vH 75707:=pW 75707 275 (by decide) (by decide+kernel) (by decide+kernel)
theorem JU:vH 127:=pW 127 11 (by decide) (by decide+kernel) (by decide+kernel)
theorem va:vH 8574133:=pW 8574133 2928 (by decide) (by decide+kernel) (by decide+kernel)
theorem PK:vH 1919519569386763:=vY (F:=1088914891) (by decide) (by decide+kernel) fun p hp hd=>sg JU va (by decide) (xQ 2 51 JU (by decide+kernel) (by decide+kernel) (by decide+kernel) (by decide+kernel) (by decide+kernel) hp hd) (xQ 2 51 va (by decide+kernel) (by decide+kernel) (by decide+kernel) (by decide+kernel) (by decide+kernel) hp hd)
theorem PL:vH 75445702479781427272750846543864801:=vY (F:=145321068039563666441) (by decide) (by decide+kernel) fun p hp hd=>sg zX PK (by decide) (xQ 2 116 zX (by decide+kernel) (by decide+kernel) (by decide+kernel) (by decide+kernel) (by decide+kernel) hp hd) (xQ 2 116 PK (by decide+kernel) (by decide+kernel) (by decide+kernel) (by decide+kernel) (by decide+kernel) hp hd)
theorem prm_q1:vH 74058212732561358302231226437062788676166966415465897661863160754340907:=vY (F:=4335638184405599281083172898336278519067) (by decide) (by decide+kernel) fun p hp hd=>sg zY PL (by decide) (xQ 2 236 zY (by decide+kernel) (by decide+kernel) (by decide+kernel) (by decide+kernel) (by decide+kernel) hp hd) (xQ 2 236 PL (by decide+kernel) (by decide+kernel) (by decide+kernel) (by decide+kernel) (by decide+kernel) hp hd)
abbrev PP:Nat:=57896044618658097711785492504343953926634992332820282019728792003956564819949
theorem Bh:vH 57896044618658097711785492504343953926634992332820282019728792003956564819949:=vY (F:=74058212732561358302231226437062788676166966415465897661863160754340907) (by decide) (by decide+kernel) fun p hp hd=>(xQ 2 255 prm_q1 (by decide+kernel) (by decide+kernel) (by decide+kernel) (by decide+kernel) (by decide+kernel) hp hd)
instance :NeZero PP:=⟨by decide⟩
abbrev K:Type:=Fin PP
def dK:K:=⟨37095705934669439343138083508754565189542113879843219016388785533085940283555,by decide⟩
def iK:K:=⟨19681161376707505956807079304988542015446066515923890162744021073123829784752,by decide⟩
theorem QF:iK*iK= -1:=by decide+kernel
theorem FP {a:K} (h:a≠0): ¬PP∣a.val:=fun k=>h (Fin.ext (by
 have:=a.isLt
 rw [Fin.val_zero]
 exact Nat.eq_zero_of_dvd_of_lt k this))
theorem uH {a b:K} (h:a*b=0):a=0∨b=0:=by
 have h1:PP∣a.val*b.val:=Nat.dvd_of_mod_eq_zero (by rw [←Fin.val_mul,h]; rfl)
 rcases Bh.mul h1 with k | k
 ·exact .inl (Classical.byContradiction fun c=>FP c k)
 ·exact .inr (Classical.byContradiction fun c=>FP c k)
theorem dV {a b:K} (h:a≠0) (k:b≠0):a*b≠0:=fun c=>(uH c).elim h k
def cY (a:K):K:=⟨a.val ^ (PP - 2) % PP,bb _ (by decide)⟩
theorem cZ {a:K} (h:a≠0):a*cY a=1:=by
 have f: ∀M,M+1=PP - 1->a.val*(a.val ^ M % PP) % PP=1:=fun M hM=>by
  have:=wy Bh (FP h)
  rewrite [←hM] at this
  rewrite [Nat.mul_mod_mod,Nat.mul_comm,←Nat.pow_succ]
  exact this
 apply Fin.ext
 rewrite [Fin.val_mul,cY]
 exact f _ (by decide+kernel)
theorem FQ {a b c:K} (h:c≠0) (k:c*a=c*b):a=b:=by
 have:=cZ h
 grobner
def eE (a:K) (n:Nat):K:=⟨a.val ^ n % PP,bb _ (by decide)⟩
theorem d_pow:pw PP dK.val 256 ((PP - 1) / 2)=PP - 1:=by decide+kernel
theorem d_nsq {s:K} (h:s*s=dK):False:=by
 have h0:s≠0:=by rintro rfl; revert h; decide+kernel
 have f: ∀M,M=PP - 1->s.val ^ M % PP=1:=fun M hM=>by
  have:=wy Bh (FP h0)
  rewrite [←hM] at this
  exact this
 have e:dK.val=s.val*s.val % PP:=by rw [←h,Fin.val_mul]
 have key: ∀N:Nat,N < 2 ^ 256->2*N=PP - 1->pw PP dK.val 256 N=PP - 1->False:=fun N hN h2 p=>by
  rewrite [zW _ _ _ _ hN,e,←Nat.pow_mod,←Nat.pow_two,←Nat.pow_mul,f _ h2] at p
  revert p; decide+kernel
 exact key _ (by decide+kernel) (by decide+kernel) d_pow
theorem SB {a b:K} (h:a*a=dK*b*b):b=0:=by
 refine Classical.byContradiction fun hb=> ?_
 have:=cZ hb
 exact d_nsq (s:=a*cY b) (by grobner)
def AU (x y:K):Prop:=y*y=1+dK*x*x*y*y+x*x
theorem AU.neg {x y:K} (h:AU x y):AU (-x) y:=by unfold AU at*; grobner
theorem complete {x1 y1 x2 y2:K} (h1:AU x1 y1) (h2:AU x2 y2) {e:K} (he:e=dK*x1*x2*y1*y2):e*e≠1:=fun hs=>by
 unfold AU at h1 h2
 have hi:=QF
 generalize hd:dK=d at*
 generalize iK=i at*
 have ns: ∀a b:K,a*a=d*b*b->b=0:=fun a b h=>SB (hd▸h)
 have n1:(1:K)≠0:=by decide+kernel
 have hx:x1*y1≠0:=fun c=>n1 (by grobner)
 have k1:=ns (i*x1+e*y1) (x1*y1*(i*x2+y2)) (by grobner)
 have k2:=ns (i*x1 - e*y1) (x1*y1*(i*x2 - y2)) (by grobner)
 have g1:=(uH k1).resolve_left hx
 have g2:=(uH k2).resolve_left hx
 have h22:(2:K)*y2=0:=by grobner
 have y0:y2=0:=(uH h22).resolve_left (by decide+kernel)
 exact n1 (by grobner)
theorem HM {x1 y1 x2 y2:K} (h1:AU x1 y1) (h2:AU x2 y2):1+dK*x1*x2*y1*y2≠0:=fun c=>complete h1 h2 rfl (by grobner)
theorem HL {x1 y1 x2 y2:K} (h1:AU x1 y1) (h2:AU x2 y2):1 - dK*x1*x2*y1*y2≠0:=fun c=>complete h1 h2 rfl (by grobner)
def fU (p q:K×K):K×K:=
 ((p.1*q.2+q.1*p.2)*cY (1+dK*p.1*q.1*p.2*q.2),(p.2*q.2+p.1*q.1)*cY (1 - dK*p.1*q.1*p.2*q.2))
def On (p:K×K):Prop:=AU p.1 p.2
theorem GR {p q:K×K} (hp:On p) (hq:On q):On (fU p q):=by
 obtain ⟨x1,y1⟩:=p; obtain ⟨x2,y2⟩:=q
 have hu:=cZ (HM hp hq)
 have hv:=cZ (HL hp hq)
 simp only [On,fU,AU] at*
 generalize cY _=u at*
 generalize cY _=v at*
 generalize dK=d at*
 grobner
theorem NV (p q:K×K):fU p q=fU q p:=by
 obtain ⟨x1,y1⟩:=p; obtain ⟨x2,y2⟩:=q
 have e:dK*x1*x2*y1*y2=dK*x2*x1*y2*y1:=by grobner
 simp only [fU,e,aI]
 exact ⟨by grobner,by grobner⟩
def gT (p:K×K):K×K:=(-p.1,p.2)
def lW:K×K:=(0,1)
theorem Wo:On lW:=by simp only [On,AU,lW]; grobner
theorem GQ {p:K×K} (h:On p):On (gT p):=AU.neg h
theorem Th (p q:K×K):fU (gT p) (gT q)=gT (fU p q):=by
 obtain ⟨x1,y1⟩:=p; obtain ⟨x2,y2⟩:=q
 have e:dK* -x1* -x2*y1*y2=dK*x1*x2*y1*y2:=by grobner
 simp only [fU,gT,e,aI]
 exact ⟨by grobner,by grobner⟩
theorem inv_one:cY 1=1:=by
 have:=cZ (a:=1) (by decide+kernel)
 grobner
theorem add_zero' (p:K×K):fU p lW=p:=by
 obtain ⟨x,y⟩:=p
 have e1:1+dK*x*0*y*1=1:=by grobner
 have e2:1 - dK*x*0*y*1=1:=by grobner
 simp only [fU,lW,e1,e2,inv_one,aI]
 exact ⟨by grobner,by grobner⟩
theorem Yv (d x1 y1 x2 y2 x3 y3 A B k A' B' k':K) (h1:y1*y1=1+d*x1*x1*y1*y1+x1*x1) (h2:y2*y2=1+d*x2*x2*y2*y2+x2*x2) (h3:y3*y3=1+d*x3*x3*y3*y3+x3*x3)
  (hA:A=x1*y2+x2*y1) (hB:B=y1*y2+x1*x2) (hk:k=d*x1*x2*y1*y2) (hA':A'=x2*y3+x3*y2) (hB':B'=y2*y3+x2*x3) (Xd:k'=d*x2*x3*y2*y3) :
  (A*(1 - k)*y3+x3*B*(1+k))*((1+k')*(1 - k')+d*x1*A'*y1*B')=(x1*B'*(1+k')+A'*(1 - k')*y1)*((1+k)*(1 - k)+d*A*x3*B*y3):=by
 subst hA hB hk hA' hB' Xd
 grobner
theorem Yu (d x1 y1 x2 y2 x3 y3 A B k A' B' k':K) (h1:y1*y1=1+d*x1*x1*y1*y1+x1*x1) (h2:y2*y2=1+d*x2*x2*y2*y2+x2*x2) (h3:y3*y3=1+d*x3*x3*y3*y3+x3*x3)
  (hA:A=x1*y2+x2*y1) (hB:B=y1*y2+x1*x2) (hk:k=d*x1*x2*y1*y2) (hA':A'=x2*y3+x3*y2) (hB':B'=y2*y3+x2*x3) (Xd:k'=d*x2*x3*y2*y3) :
  (B*(1+k)*y3+A*(1 - k)*x3)*((1+k')*(1 - k') - d*x1*A'*y1*B')=(y1*B'*(1+k')+x1*A'*(1 - k'))*((1+k)*(1 - k) - d*A*x3*B*y3):=by
 subst hA hB hk hA' hB' Xd
 grobner
theorem fac1 {d u v k A B x y:K} (hu:(1+k)*u=1) (hv:(1 - k)*v=1):(1+k)*(1 - k)+d*A*x*B*y=(1+k)*(1 - k)*(1+d*(A*u)*x*(B*v)*y):=by grobner
theorem fac2 {d u v k A B x y:K} (hu:(1+k)*u=1) (hv:(1 - k)*v=1):(1+k)*(1 - k) - d*A*x*B*y=(1+k)*(1 - k)*(1 - d*(A*u)*x*(B*v)*y):=by grobner
theorem fac3 {d u v k A B x y:K} (hu:(1+k)*u=1) (hv:(1 - k)*v=1):(1+k)*(1 - k)+d*x*A*y*B=(1+k)*(1 - k)*(1+d*x*(A*u)*y*(B*v)):=by grobner
theorem fac4 {d u v k A B x y:K} (hu:(1+k)*u=1) (hv:(1 - k)*v=1):(1+k)*(1 - k) - d*x*A*y*B=(1+k)*(1 - k)*(1 - d*x*(A*u)*y*(B*v)):=by grobner
theorem num1 {u v k A B x y:K} (hu:(1+k)*u=1) (hv:(1 - k)*v=1):A*(1 - k)*y+x*B*(1+k)=(1+k)*(1 - k)*(A*u*y+x*(B*v)):=by grobner
theorem num2 {u v k A B x y:K} (hu:(1+k)*u=1) (hv:(1 - k)*v=1):B*(1+k)*y+A*(1 - k)*x=(1+k)*(1 - k)*(B*v*y+A*u*x):=by grobner
theorem num3 {u v k A B x y:K} (hu:(1+k)*u=1) (hv:(1 - k)*v=1):x*B*(1+k)+A*(1 - k)*y=(1+k)*(1 - k)*(x*(B*v)+A*u*y):=by grobner
theorem num4 {u v k A B x y:K} (hu:(1+k)*u=1) (hv:(1 - k)*v=1):y*B*(1+k)+x*A*(1 - k)=(1+k)*(1 - k)*(y*(B*v)+x*(A*u)):=by grobner
theorem R7 {g h w w' e e' s s':K} (hs:e*s=1) (Hn:e'*s'=1) (X:w*g*(w'*e')=w'*h*(w*e)):w*e*(w'*e')*(g*s)=w*e*(w'*e')*(h*s'):=by grobner
theorem H3 {p q r:K×K} (hp:On p) (hq:On q) (hr:On r):fU (fU p q) r=fU p (fU q r):=by
 have hpq:=GR hp hq
 have hqr:=GR hq hr
 have s1:=HM hpq hr
 have s2:=HL hpq hr
 have t1:=HM hp hqr
 have t2:=HL hp hqr
 have a1:=HM hp hq
 have a2:=HL hp hq
 have b1:=HM hq hr
 have b2:=HL hq hr
 obtain ⟨x1,y1⟩:=p; obtain ⟨x2,y2⟩:=q; obtain ⟨x3,y3⟩:=r
 have X:=Yv dK x1 y1 x2 y2 x3 y3 _ _ _ _ _ _ hp hq hr rfl rfl rfl rfl rfl rfl
 have Y:=Yu dK x1 y1 x2 y2 x3 y3 _ _ _ _ _ _ hp hq hr rfl rfl rfl rfl rfl rfl
 simp only [fU,aI] at*
 have hu:=cZ a1; have hv:=cZ a2; have hp:=cZ b1; have hq:=cZ b2
 have hs:=cZ s1; have ht:=cZ s2; have Hn:=cZ t1; have ht':=cZ t2
 generalize cY (1+dK*x1*x2*y1*y2)=u at*
 generalize cY (1 - dK*x1*x2*y1*y2)=v at*
 generalize cY (1+dK*x2*x3*y2*y3)=p at*
 generalize cY (1 - dK*x2*x3*y2*y3)=q at*
 generalize hA:x1*y2+x2*y1=A at*
 generalize hB:y1*y2+x1*x2=B at*
 generalize hA':x2*y3+x3*y2=A' at*
 generalize hB':y2*y3+x2*x3=B' at*
 generalize hk:dK*x1*x2*y1*y2=k at*
 generalize Xd:dK*x2*x3*y2*y3=k' at*
 generalize cY _=s at*
 generalize cY _=t at*
 generalize cY _=s' at*
 generalize cY _=t' at*
 have n1:(1+k)*(1 - k)≠0:=dV a1 a2
 have n2:(1+k')*(1 - k')≠0:=dV b1 b2
 have D1:= @fac1 dK u v k A B x3 y3 hu hv
 have D2:= @fac2 dK u v k A B x3 y3 hu hv
 have D3:= @fac3 dK p q k' A' B' x1 y1 hp hq
 have D4:= @fac4 dK p q k' A' B' x1 y1 hp hq
 have m1:=dV n1 s1
 have m2:=dV n1 s2
 have m3:=dV n2 t1
 have m4:=dV n2 t2
 rw [D3,D1] at X
 rw [D4,D2] at Y
 clear D1 D2 D3 D4
 have N1:= @num1 u v k A B x3 y3 hu hv
 have N2:= @num2 u v k A B x3 y3 hu hv
 have N3:= @num3 p q k' A' B' x1 y1 hp hq
 have N4:= @num4 p q k' A' B' x1 y1 hp hq
 rw [N1,N3] at X
 rw [N2,N4] at Y
 exact ⟨FQ (dV m1 m3) (R7 hs Hn X),FQ (dV m2 m4) (R7 ht ht' Y)⟩
structure Wd where
 x:K
 y:K
 z:K
 t:K
def zI (w:Wd) (p:K×K):Prop:=w.z≠0/\w.x=p.1*w.z/\w.y=p.2*w.z/\w.t=p.1*p.2*w.z
def mS (p q:Wd):Wd:=
 let a:=(p.y - p.x)*(q.y - q.x); let b:=(p.y+p.x)*(q.y+q.x)
 let c:=p.t*q.t*dK; let d:=p.z*q.z
 let e:=b - a; let f:=d+d - (c+c); let g:=d+d+(c+c); let h:=b+a
 ⟨e*f,g*h,f*g,e*h⟩
def yN (p:Wd):Wd:=
 let a:=p.x*p.x; let b:=p.y*p.y; let c:=p.z*p.z; let s:=p.x+p.y
 let e:=s*s - a - b; let g:=b - a; let f:=g - (c+c); let h:=0 - a - b
 ⟨e*f,g*h,f*g,e*h⟩
theorem two_ne:(2:K)≠0:=by decide+kernel
theorem r9 {w w':Wd} {p p':K×K} (h:zI w p) (h':zI w' p') (o:On p) (o':On p'):zI (mS w w') (fU p p'):=by
 have n1:=HM o o'
 have n2:=HL o o'
 have hu:=cZ n1
 have hv:=cZ n2
 obtain ⟨x,y⟩:=p; obtain ⟨x',y'⟩:=p'; obtain ⟨X,Y,Z,T⟩:=w; obtain ⟨X',Y',Z',T'⟩:=w'
 obtain ⟨hz,h1,h2,h3⟩:=h; obtain ⟨hz',E9,Xq,h3'⟩:=h'
 simp only at*
 subst h1 h2 h3 E9 Xq h3'
 clear o o'
 have nz:2*(Z*Z')≠0:=dV two_ne (dV hz hz')
 have m1:=dV nz n1
 have m2:=dV nz n2
 have ef:Z*Z'+Z*Z' - (x*y*Z*(x'*y'*Z')*dK+x*y*Z*(x'*y'*Z')*dK)=2*(Z*Z')*(1 - dK*x*x'*y*y'):=by clear hu hv; grobner
 have eg:Z*Z'+Z*Z'+(x*y*Z*(x'*y'*Z')*dK+x*y*Z*(x'*y'*Z')*dK)=2*(Z*Z')*(1+dK*x*x'*y*y'):=by clear hu hv ef; grobner
 simp only [zI,mS,fU,ef,eg]
 clear ef eg
 generalize cY _=u at*
 generalize cY _=v at*
 refine ⟨dV m2 m1,?_,?_,?_⟩
 ·clear hv m1 m2 n1 n2 nz; generalize 1 - dK*x*x'*y*y'=g at*; grobner
 ·clear hu m1 m2 n1 n2 nz; generalize 1+dK*x*x'*y*y'=g at*; grobner
 ·clear m1 m2 n1 n2 nz
  generalize 1 - dK*x*x'*y*y'=g at*; generalize 1+dK*x*x'*y*y'=f at*
  grobner
theorem U9 {w:Wd} {p:K×K} (h:zI w p) (o:On p):zI (yN w) (fU p p):=by
 have n1:=HM o o
 have n2:=HL o o
 have hu:=cZ n1
 have hv:=cZ n2
 obtain ⟨x,y⟩:=p; obtain ⟨X,Y,Z,T⟩:=w
 obtain ⟨hz,h1,h2,h3⟩:=h
 simp only [On,AU] at*
 subst h1 h2 h3
 have nz:Z*Z≠0:=dV hz hz
 have m1:=dV nz n1
 have m2:=dV nz n2
 have eg:y*Z*(y*Z) - x*Z*(x*Z)=Z*Z*(1+dK*x*x*y*y):=by clear hu hv; grobner
 have ef:Z*Z*(1+dK*x*x*y*y) - (Z*Z+Z*Z)= - (Z*Z*(1 - dK*x*x*y*y)):=by clear hu hv eg; grobner
 have nf: - (Z*Z*(1 - dK*x*x*y*y))≠0:=fun c=>m2 (by clear hu hv ef eg o; grobner)
 simp only [zI,yN,fU,eg,ef]
 clear ef eg
 generalize cY _=u at*
 generalize cY _=v at*
 refine ⟨dV nf m1,?_,?_,?_⟩
 ·clear hv m1 m2 n1 n2 nz nf o; generalize 1 - dK*x*x*y*y=g at*; generalize 1+dK*x*x*y*y=f at*; grobner
 ·clear hu m1 m2 n1 n2 nz nf o; generalize 1+dK*x*x*y*y=g at*; generalize 1 - dK*x*x*y*y=f at*; grobner
 ·clear m1 m2 n1 n2 nz nf o
  generalize 1 - dK*x*x*y*y=g at*; generalize 1+dK*x*x*y*y=f at*
  grobner
def cl (p:K×K):Nat->K×K
 | 0=>lW
 | n+1=>fU (cl p n) p
theorem kF {p:K×K} (h:On p): ∀n,On (cl p n)
 | 0=>Wo
 | n+1=>GR (kF h n) h
theorem Ly (p:K×K):fU lW p=p:=by rw [NV,add_zero']
theorem sB {p:K×K} (h:On p) (m:Nat): ∀n,cl p (m+n)=fU (cl p m) (cl p n)
 | 0=>by rw [Nat.add_zero,cl,add_zero']
 | n+1=>by rw [←Nat.add_assoc,cl,sB h m n,cl,H3 (kF h m) (kF h n) h]
theorem Ae: ∀n,cl lW n=lW
 | 0=>rfl
 | n+1=>by rw [cl,Ae n,add_zero']
theorem Ey {p:K×K} (h:On p) (m:Nat): ∀n,cl p (m*n)=cl (cl p m) n
 | 0=>rfl
 | n+1=>by rw [Nat.mul_succ,sB h,Ey h m n,cl]
theorem Ew {p:K×K}: ∀n,cl (gT p) n=gT (cl p n)
 | 0=>by simp only [cl,gT,lW,aI]; exact ⟨by grobner,trivial⟩
 | n+1=>by rw [cl,Ew n,Th,cl]
theorem mul_two {p:K×K} (h:On p) (n:Nat):cl p (2*n)=fU (cl p n) (cl p n):=by rw [Nat.two_mul,sB h]
def gJ:Wd:=⟨0,1,1,0⟩
theorem DJ:zI gJ lW:=⟨by decide+kernel,by simp only [lW,gJ]; grobner,by simp only [lW,gJ]; grobner,by simp only [lW,gJ]; grobner⟩
def gw (p:K×K):Wd:=⟨p.1,p.2,1,p.1*p.2⟩
theorem m5 (p:K×K):zI (gw p) p:=⟨by simp only [gw]; decide+kernel,by simp only [gw]; grobner,by simp only [gw]; grobner,by simp only [gw]; grobner⟩
def yY (w:Wd):K×K:=(w.x*cY w.z,w.y*cY w.z)
theorem vW {w:Wd} {p:K×K} (h:zI w p):yY w=p:=by
 obtain ⟨hz,h1,h2,_⟩:=h
 have:=cZ hz
 obtain ⟨x,y⟩:=p
 simp only [yY,h1,h2,aI]
 exact ⟨by clear h1 h2; grobner,by clear h1 h2; grobner⟩
def jz (w:Wd) (k:Nat):Nat->Wd->Wd
 | 0,s=>s
 | n+1,s=>jz w k n (if k / 2 ^ n % 2=1 then mS (yN s) w else yN s)
theorem zU {w:Wd} {p:K×K} (h:zI w p) (o:On p) (k:Nat): ∀n s,zI s (cl p (k / 2 ^ n))->zI (jz w k n s) (cl p k)
 | 0,s,hs=>by simpa [jz] using hs
 | n+1,s,hs=>by
  rw [jz]
  apply zU h o k n
  have e:k / 2 ^ n=2*(k / 2 ^ (n+1))+k / 2 ^ n % 2:=by
   rw [Nat.pow_succ,←cL]; omega
  have d:=U9 hs (kF o _)
  rw [←mul_two o] at d
  split
  ·rename_i hb
   rw [e,hb]
   exact r9 d h (kF o _) o
  ·rename_i hb
   rw [e,show k / 2 ^ n % 2=0 by omega]
   exact d
theorem JA {w:Wd} {p:K×K} (h:zI w p) (o:On p) (k:Nat) (hk:k < 2 ^ 256):zI (jz w k 256 gJ) (cl p k):=
 zU h o k 256 _ (by rw [Nat.div_eq_of_lt hk]; exact DJ)
theorem si (a:K) (n:Nat):(eE a n).val=a.val ^ n % PP:=rfl
theorem kT (a:K):eE a 0=1:=Fin.ext (by rw [si,Nat.pow_zero]; rfl)
theorem iZ (a:K) (n:Nat):eE a (n+1)=eE a n*a:=Fin.ext (by rw [Fin.val_mul,si,si,Nat.pow_succ,Nat.mod_mul_mod])
theorem j5 (a:K) (m:Nat): ∀n,eE a (m+n)=eE a m*eE a n
 | 0=>by rw [Nat.add_zero,kT]; grobner
 | n+1=>by rw [←Nat.add_assoc,iZ,j5 a m n,iZ]; grobner
theorem VP (a:K) (n:Nat):eE (a*a) n=eE a n*eE a n:=by
 induction n with
 | zero=>rw [kT,kT]; grobner
 | succ n ih=>rw [iZ,ih,iZ]; grobner
theorem PQ (a:K):eE a (PP - 2)=cY a:=rfl
def powE (a:K) (n:Nat):K:=Fin.ofNat PP (pw PP a.val 256 n)
theorem Bi (a:K) {n:Nat} (h:n < 2 ^ 256):powE a n=eE a n:=Fin.ext (by
 rw [powE,zW _ _ _ _ h,si]; exact Nat.mod_mod _ _)
def sS:Nat:=(PP+3) / 8
def oL (a:K):Option K:=
 let r:=eE a sS
 let s:=if r*r=a then r else r*iK
 if s*s=a then some (if s.val % 2=1 then 0 - s else s) else none
theorem K_odd {s:K} (h:s.val % 2=1):(0 - s).val % 2=0:=by
 have:=s.isLt
 have e:(0 - s).val=PP - s.val:=by
  rw [Fin.sub_def]
  show (PP - s.val+0) % PP=_
  rw [Nat.add_zero,aO aa]
 have:PP % 2=1:=rfl
 omega
theorem K_even {s:K} (h:s.val % 2=0) (h0:s≠0):(0 - s).val % 2=1:=by
 have:=s.isLt
 have n0:s.val≠0:=fun c=>h0 (Fin.ext (by rw [c]; rfl))
 have e:(0 - s).val=PP - s.val:=by
  rw [Fin.sub_def]
  show (PP - s.val+0) % PP=_
  rw [Nat.add_zero,aO aa]
 have:PP % 2=1:=rfl
 omega
theorem Gq {a r:K} (h:oL a=some r):r*r=a/\r.val % 2=0:=by
 unfold oL at h
 revert h
 generalize eE a sS=r0
 intro h
 simp only at h
 generalize (if r0*r0=a then r0 else r0*iK)=s at h
 split at h
 ·rename_i hs
  split at h
  ·rename_i ho
   cases h
   exact ⟨by grobner,K_odd ho⟩
  ·cases h
   exact ⟨hs,by omega⟩
 ·cases h
theorem Q1 (s:K) (h:s≠0):eE s ((PP - 1) / 2)=1∨eE s ((PP - 1) / 2)= -1:=by
 have f: ∀M,M=PP - 1->eE s M=1:=fun M hM=>by
  have:=wy Bh (FP h)
  rewrite [←hM] at this
  exact Fin.ext this
 have e: ∀N,N+N=PP - 1->eE s N*eE s N=1:=fun N hN=>by
  rewrite [←j5]
  exact f _ hN
 replace e:=e ((PP - 1) / 2) (by decide+kernel)
 generalize eE s ((PP - 1) / 2)=w at*
 have:(w - 1)*(w+1)=0:=by grobner
 rcases uH this with k | k
 ·exact .inl (by grobner)
 ·exact .inr (by grobner)
theorem DI {s:K} (hs:s.val % 2=0):oL (s*s)=some s:=by
 have pm: ∀r:K,r*r=s*s->(if r.val % 2=1 then 0 - r else r)=s:=by
  intro r hr
  have:(r - s)*(r+s)=0:=by grobner
  rcases uH this with k | k
  ·have:r=s:=by grobner
   subst this; rw [if_neg aa]
  ·have e:r=0 - s:=by grobner
   subst e
   by_cases h0:s=0
   ·subst h0; decide+kernel
   ·rw [if_pos (K_even hs h0)]; grobner
 have key:eE (s*s) sS*eE (s*s) sS=s*s∨eE (s*s) sS*iK*(eE (s*s) sS*iK)=s*s:=by
  by_cases h0:s=0
  ·subst h0; left
   rw [show (0:K)*0=0 by grobner,←Bi _ (by decide+kernel)]; decide+kernel
  ·have e:eE (s*s) sS*eE (s*s) sS=eE s ((PP - 1) / 2)*(s*s):=by
    rw [VP,←j5,←j5,show sS+sS+(sS+sS)=(PP - 1) / 2+2 by decide+kernel,j5,show (2:Nat)=0+1+1 from rfl,iZ,iZ,kT]
    grobner
   have hi:=QF
   rcases Q1 s h0 with k | k
   ·left; rw [e,k]; grobner
   ·right
    rw [k] at e
    generalize eE (s*s) sS=g at*
    grobner
 unfold oL
 simp only
 generalize eE (s*s) sS=g at*
 by_cases h1:g*g=s*s
 ·rw [if_pos h1,if_pos h1,pm _ h1]
 ·rw [if_neg h1]
  have h2:=key.resolve_left h1
  rw [if_pos h2,pm _ h2]
def bY (p:K×K):Nat:=p.2.val+2 ^ 255*(p.1.val % 2)
def dA (n:Nat):Option (K×K):=
 if h:n % 2 ^ 255 < PP then
  let y:K:=⟨n % 2 ^ 255,h⟩
  match oL ((y*y - 1)*cY (y*y*dK+1)) with
  | none=>none
  | some x=>if n / 2 ^ 255 % 2=1 then if x=0 then none else some (0 - x,y) else some (x,y)
 else none
theorem Bk (p:K×K):bY p < 2 ^ 256:=by
 have:=p.2.isLt
 unfold bY
 have:PP < 2 ^ 255:=by decide+kernel
 have:p.1.val % 2 < 2:=bb _ (by decide)
 omega
theorem d_sq (y:K):y*y*dK+1≠0:=fun c=>by
 have hi:=QF
 have y0:=SB (a:=iK) (b:=y) (by generalize dK=d at*; generalize iK=i at*; grobner)
 have:(1:K)=0:=by generalize dK=d at*; grobner
 revert this; decide+kernel
theorem sv {n:Nat} {p:K×K} (h:dA n=some p):On p:=by
 unfold dA at h
 split at h
 case isFalse=>cases h
 rename_i hl
 simp only at h
 generalize (⟨n % 2 ^ 255,hl⟩ :K)=y at*
 have hv:=cZ (d_sq y)
 split at h
 ·cases h
 rename_i x hx
 have hr:=(Gq hx).1
 generalize cY _=v at*
 have:On (x,y):=by simp only [On,AU]; generalize dK=d at*; grobner
 split at h
 ·split at h
  ·cases h
  ·cases h
   simp only [On,AU] at*; generalize dK=d at*; clear hr hv; grobner
 ·cases h; exact this
theorem m9 {p:K×K} (o:On p):dA (bY p)=some p:=by
 obtain ⟨x,y⟩:=p
 have hy:=y.isLt
 have hP:PP < 2 ^ 255:=by decide+kernel
 have e1:bY (x,y) % 2 ^ 255=y.val:=by simp only [bY]; omega
 have e2:bY (x,y) / 2 ^ 255 % 2=x.val % 2:=by simp only [bY]; omega
 have hl:bY (x,y) % 2 ^ 255 < PP:=by omega
 have ey:(⟨bY (x,y) % 2 ^ 255,hl⟩ :K)=y:=Fin.ext e1
 unfold dA
 rw [dif_pos hl]
 simp only [ey,e2]
 have hv:=cZ (d_sq y)
 have hx:(y*y - 1)*cY (y*y*dK+1)=x*x:=by
  generalize cY _=v at*
  simp only [On,AU] at o; generalize dK=d at*; grobner
 rw [hx]
 by_cases hb:x.val % 2=1
 ·have h0:x≠0:=by rintro rfl; revert hb; decide+kernel
  have e:x*x=(0 - x)*(0 - x):=by grobner
  rw [e,DI (K_odd hb)]
  simp only [hb,if_true]
  rw [if_neg (fun c=>h0 (by grobner))]
  simp only [ah,aI]
  exact ⟨by grobner,trivial⟩
 ·rw [DI aa]
  simp only [hb,if_false]
def cX:K×K:=(⟨15112221349535400772501151409588531511454012693041857206046113283949847762202,by decide⟩,⟨46316835694926478169428394003475163141307993866256225615783033603165251855960,by decide⟩)
theorem mf:On cX:=by unfold On AU; decide+kernel
def LL:Nat:=7237005577332262213973186563042994240857116359379907606001950938285454250989
def st {α:Type} (h:Nat) (f:Nat->α):α:=match h with
 | 0=>f 0
 | k+1=>f (k+1)
theorem OS {α:Type} (h:Nat) (f:Nat->α):st h f=f h:=by cases h <;> rfl
def cN (n:Nat):K:=Fin.ofNat PP n
theorem oF (v:K):cN v.val=v:=Fin.ext (aO v.isLt)
theorem o5 {n:Nat} {v:K} (h:cN n=v):n % PP=v.val:=by rw [←h]; rfl
theorem cN_eq {m n:Nat} (h:m % PP=n % PP):cN m=cN n:=Fin.ext h
theorem jP (n:Nat):cN (n % PP)=cN n:=cN_eq (Nat.mod_mod _ _)
theorem iS (m n:Nat):cN (m+n)=cN m+cN n:=Fin.ext (by rw [Fin.val_add]; exact Nat.add_mod _ _ _)
theorem oG (m n:Nat):cN (m*n)=cN m*cN n:=Fin.ext (by rw [Fin.val_mul]; exact Nat.mul_mod _ _ _)
theorem rD {m n:Nat} (h:n<=m):cN (m - n)=cN m - cN n:=by
 have:cN (m - n)+cN n=cN m:=by rw [←iS,Nat.sub_add_cancel h]
 grobner
theorem Fy:cN PP=0:=by decide+kernel
theorem wH {m n:Nat} (h:n < PP):cN (m+PP - n)=cN m - cN n:=by
 rw [rD aa,iS,Fy]; grobner
theorem pL (m:Nat):cN (2*m)=cN m+cN m:=by rw [Nat.two_mul,iS]
def addN {α:Type} (x y z t x' y' z' t':Nat) (k:Nat->Nat->Nat->Nat->α):α:=
 st ((y+PP - x)*(y'+PP - x') % PP) fun a=>st ((y+x)*(y'+x') % PP) fun b=>
 st (t*t' % PP*dK.val % PP) fun c=>st (z*z' % PP) fun d=>
 st (b+PP - a) fun e=>st (2*d+2*PP - 2*c) fun f=>st (2*d+2*c) fun g=>st (b+a) fun h=>
 st (e*f % PP) fun X=>st (g*h % PP) fun Y=>st (f*g % PP) fun Z=>st (e*h % PP) fun T=>k X Y Z T
def dblN {α:Type} (x y z:Nat) (k:Nat->Nat->Nat->Nat->α):α:=
 st (x*x % PP) fun a=>st (y*y % PP) fun b=>st (z*z % PP) fun c=>st ((x+y)*(x+y) % PP) fun s=>
 st (s+2*PP - a - b) fun e=>st (b+PP - a) fun g=>st (g+2*PP - 2*c) fun f=>st (2*PP - a - b) fun h=>
 st (e*f % PP) fun X=>st (g*h % PP) fun Y=>st (f*g % PP) fun Z=>st (e*h % PP) fun T=>k X Y Z T
theorem cong4 {α:Type} (k:Nat->Nat->Nat->Nat->α) {a b c d a' b' c' d':Nat} (h1:a=a') (h2:b=b') (h3:c=c') (h4:d=d'):k a b c d=k a' b' c' d':=by subst h1 h2 h3 h4; rfl
theorem rG (n:Nat):n % PP < PP:=bb _ (by decide)
theorem YC {α:Type} (w w':Wd) (k:Nat->Nat->Nat->Nat->α):addN w.x.val w.y.val w.z.val w.t.val w'.x.val w'.y.val w'.z.val w'.t.val k=k (mS w w').x.val (mS w w').y.val (mS w w').z.val (mS w w').t.val:=by
 simp only [addN,OS]
 have hc: ∀n m,cN (2*(n % PP)+2*PP - 2*(m % PP))=cN n+cN n - (cN m+cN m):=by
  intro n m
  have:=rG m
  rw [rD aa,iS,pL,pL,pL,Fy,jP,jP]; grobner
 have hg: ∀n m,cN (2*(n % PP)+2*(m % PP))=cN n+cN n+(cN m+cN m):=by
  intro n m
  rw [iS,pL,pL,jP,jP]
 apply cong4 <;> apply o5 <;> rw [oG] <;> (try rw [hc]) <;> (try rw [hg]) <;>
  simp only [oG,iS,jP,wH (rG _),wH (Fin.isLt _),oF,mS]
theorem XL {α:Type} (w:Wd) (k:Nat->Nat->Nat->Nat->α):dblN w.x.val w.y.val w.z.val k=k (yN w).x.val (yN w).y.val (yN w).z.val (yN w).t.val:=by
 simp only [dblN,OS]
 have h1: ∀n a b,cN (n+2*PP - a % PP - b % PP)=cN n - cN a - cN b:=by
  intro n a b
  have:=rG a; have:=rG b
  rw [rD aa,rD aa,iS,pL,Fy,jP,jP]; grobner
 have h2: ∀n c,cN (n+2*PP - 2*(c % PP))=cN n - (cN c+cN c):=by
  intro n c
  have:=rG c
  rw [rD aa,iS,pL,pL,Fy,jP]; grobner
 have h3: ∀a b,cN (2*PP - a % PP - b % PP)=0 - cN a - cN b:=by
  intro a b
  have:=h1 0 a b
  rw [Nat.zero_add] at this
  rw [this]; rfl
 apply cong4 <;> apply o5 <;>
  simp only [h1,h2,h3,oG,iS,jP,wH (rG _),wH (Fin.isLt _),oF,yN]
def xC {α:Type} (x y z t e:Nat) (k:Nat->Nat->Nat->Nat->α):Nat->Nat->Nat->Nat->Nat->α
 | 0,X,Y,Z,T=>k X Y Z T
 | n+1,X,Y,Z,T=>dblN X Y Z fun X Y Z T=>match e / 2 ^ n % 2 with
  | 0=>xC x y z t e k n X Y Z T
  | _+1=>addN X Y Z T x y z t fun X Y Z T=>xC x y z t e k n X Y Z T
theorem tJ {α:Type} (w:Wd) (e:Nat) (k:Nat->Nat->Nat->Nat->α): ∀n (s:Wd),xC w.x.val w.y.val w.z.val w.t.val e k n s.x.val s.y.val s.z.val s.t.val=k (jz w e n s).x.val (jz w e n s).y.val (jz w e n s).z.val (jz w e n s).t.val
 | 0,s=>rfl
 | n+1,s=>by
  rw [xC,XL,jz]
  split
  ·rename_i h0
   rw [if_neg aa,tJ w e k n]
  ·rename_i m h1
   rw [if_pos aa,YC,tJ w e k n]
def mulE (p:K×K) (e:Nat):K×K:=
 xC p.1.val p.2.val 1 (p.1.val*p.2.val % PP) e (fun X Y Z _=>st (pw PP Z 256 (PP - 2)) fun i=>(cN (X*i),cN (Y*i))) 256 0 1 1 0
theorem Ww {p:K×K} (o:On p) {e:Nat} (h:e < 2 ^ 256):mulE p e=cl p e:=by
 have r:=vW (JA (m5 p) o e h)
 rw [mulE]
 have:=tJ (gw p) e (fun X Y Z _=>st (pw PP Z 256 (PP - 2)) fun i=>(cN (X*i),cN (Y*i))) 256 gJ
 rw [show (gw p).t.val=p.1.val*p.2.val % PP from Fin.val_mul _ _] at this
 refine Eq.trans this ?_
 rw [←r]
 generalize jz (gw p) e 256 gJ=s
 have e1:cN (pw PP s.z.val 256 (PP - 2))=cY s.z:=by
  rw [zW _ _ _ _ (by decide+kernel)]
  exact jP _
 simp only [OS,oG,oF,e1,yY]
theorem order:cl cX LL=lW:=by
 rw [←Ww mf (by decide+kernel)]
 decide+kernel
theorem mul_mod (n:Nat):cl cX (n % LL)=cl cX n:=by
 conv=>rhs; rw [←Nat.div_add_mod n LL,sB mf,Ey mf,order,Ae,Ly]
end Go.Ab
