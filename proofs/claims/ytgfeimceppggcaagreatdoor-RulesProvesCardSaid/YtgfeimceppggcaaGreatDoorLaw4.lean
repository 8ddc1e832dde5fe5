/- What functions of the program, and of the library, answer. Conditions: none. -/
import Derived.Test.YtgfeimceppggcaaGreatDoorLaw3
import Derived.SizedLaws
import Derived.Test.YtgfeimceppggcaaGreatDoorDraw
import Derived.Carry
import Derived.ChangeSame
import Derived.ChangeSlices
import Derived.WideKeyArgs
import Derived.Below
import Derived.OpenShut
import Derived.RowKit
import Derived.Lib.LaidU8
import Derived.Test.YtgfeimceppggcaaGreatDoorCards
import Derived.Test.YtgfeimceppggcaaGreatDoorTie
import Derived.WalkKit
import Derived.ProofKit
import Derived.Deep.DeepHandedRow
import Derived.Lib.LaidTab
import Derived.Shelf.Vars
import Derived.Test.YtgfeimceppggcaaGreatDoorIns
set_option linter.unusedVariables false
set_option linter.unusedSimpArgs false
set_option linter.defProp false
set_option linter.unnecessarySimpa false
namespace Go.Ab
set_option maxRecDepth 100000
set_option maxHeartbeats 1000000
def T5Fa:=J @KY.eq_1 (J @EL.eq_1 (J @NK.eq_1 (@Qg.eq_1)))
theorem wadd {a b:Nat} (h:a+b < 9223372036854775808):IntKind.wrap .i64 ((a:Int)+(b:Int))=((a+b:Nat):Int):=by
 simp [IntKind.wrap,IntKind.bits,IntKind.signed]
 omega
theorem Rf (s:Bs):eN s<=s.length:=by
 match s with
 | []=>simp [eN]
 | [a] | [a,b] | [a,b,c] | a ::b ::c ::d ::r=>
  simp only [gJ,List.length_cons,List.length_nil]
  repeat' split
  all_goals omega
theorem XA (s:Bs) (hb:s.length < 4611686018427387904): ∃n:Int,cR 103 [.str s]=some (.int .i64 n)/\decide (n≥0)=vu s:=by
 have main:Ex cA gU [.code Qg.body] (fK [.str s]) .empty fun fr' σ1=>∃n:Int,(iO fr' σ1 Qg.res).bind (rbE σ1)=some (.int .i64 n)/\decide (n≥0)=vu s:=by
  simp only [KY,EL,Qg,ax,az,seval]
  refine aP (S:=Nat×Nat) (fun p=> [(0, .str s),(3, .int .i64 (p.2:Int)),(4, .int .i64 (p.1:Int))]) (fun p=>s.length - p.1) (fun p _=>vu (s.drop p.1)=vu s/\p.2<=p.1/\p.1<=s.length) ?_ (0,0) _ ⟨rfl,by simp,by simp⟩
  rintro b ⟨i,k⟩ σ ⟨h1,h2,h3⟩ ih
  simp only at h1 h2 h3 ⊢
  by_cases aR:i < s.length
  ·have d1:=pD aR
   have g1:eZ (.str s) (some (some (i:Int))) (some none)=some (.str (s.drop i)):=by
    have:=fN (s:=s) (i:=(i:Int)) aa aa
    simpa using this
   obtain ⟨c,hc⟩:=r_rune (s.drop i)
   cases hd:s.drop i with
   | nil=>have:=congrArg List.length hd; simp at this; omega
   | cons a r=>
    have hv:=WJ (a:=a) (r:=r)
    rw [←hd] at hv
    rw [h1] at hv
    have hle:=Rf (s.drop i)
    by_cases h0:eN (s.drop i)=0
    ·have hf:vu s=false:=by rw [hv]; simp [h0]
     have hz:(((eN (s.drop i):Nat):Int) == 0)=true:=by simp [h0]
     simp only [T5Fa,az,seval,d1,g1,hc,hz,hf]
     exact ⟨-1,rfl,rfl⟩
    ·have hz:(((eN (s.drop i):Nat):Int) == 0)=false:=by rw [cE]; omega
     have hw:=wadd (a:=i) (b:=eN (s.drop i)) (by simp at hle; omega)
     have zz:=cL (j:=k) (n:=s.length) aa aa
     simp only [T5Fa,az,seval,d1,g1,hc,hz,hw,zz]
     refine ih (i+eN (s.drop i),k+1) _ _ (by simp; omega) ⟨?_,by simp; omega,by simp at hle ⊢; omega⟩ (by simp only [az,seval])
     rw [hv,List.drop_drop]
     simp [h0]
  ·have d1:=pE (Nat.not_lt.1 aR)
   have:i=s.length:=by omega
   subst this
   simp only [T5Fa,az,seval,d1]
   refine ⟨_,rfl,?_⟩
   rw [←h1]
   simp [vu]
 obtain ⟨n,fr',σ1,h1,n',h2,h3⟩:=main
 exact ⟨n',aG (F:=Qg) rfl ⟨n,fr',σ1,h1,h2⟩,h3⟩
theorem CH (s:Bs) (hb:s.length < 4611686018427387904):cR 96 [.str s]=some (.bool (vu s)):=by
 obtain ⟨n,h1,h2⟩:=XA s hb
 refine aG (F:=F96) rfl ?_
 simp only [F96,az,seval,h1,h2]
def T6Fa:=J @KZ.eq_1 (J @EM.eq_1 (J @NL.eq_1 (@F100.eq_1)))
def T6Fc:= @F48.eq_1
def T6Fd:= @F65.eq_1
def T6Fi:=J @Kl.eq_1 (J @Kk.eq_1 (J @Vx.eq_1 (@F92.eq_1)))
def T6Fj:=J @Kl.eq_1 (J @Kk.eq_1 (@F92.eq_1))
def bQ {α:Type} (p:α->Bool) (els:List α) (j:Nat):Int:=match (els.drop j).findIdx? p with
 | some i=>((i+j:Nat):Int)
 | none=> -1
theorem ja {α:Type} {p:α->Bool} {els:List α} {j:Nat} {e:α} (h:els[j]? =some e) (hp:p e=true):bQ p els j=(j:Int):=by
 unfold bQ
 rw [drop_cons h]
 simp [List.findIdx?_cons,hp]
theorem ix {α:Type} {p:α->Bool} {els:List α} {j:Nat} {e:α} (h:els[j]? =some e) (hp:p e=false):bQ p els j=bQ p els (j+1):=by
 unfold bQ
 rw [drop_cons h]
 simp only [List.findIdx?_cons,hp]
 cases (els.drop (j+1)).findIdx? p <;> simp <;> omega
theorem jb {α:Type} {p:α->Bool} {els:List α} {j:Nat} (h:els.length<=j):bQ p els j= -1:=by
 unfold bQ
 rw [cc h]
 rfl
theorem lu {α:Type} (p:α->Bool) (l:List α):decide (bQ p l 0≥0)=l.any p:=by
 unfold bQ
 rw [List.drop_zero]
 cases h:l.findIdx? p with
 | none=>
  have:=List.findIdx?_eq_none_iff.1 h
  have h2:l.any p=false:=by
   rw [List.any_eq_false]
   intro x hx
   simp [this x hx]
  rw [h2]
  simp
 | some i=>
  obtain ⟨h1,h2,_⟩:=List.findIdx?_eq_some_iff_getElem.1 h
  have h3:l.any p=true:=ju.2 ⟨_,List.getElem_mem h1,h2⟩
  rw [h3]
  simp
def fF:Nat:=4611686018427387904
theorem RO (l:List V) (f:AV) (p:V->Bool) (hf:f.closed=true) (nI:f.er=f) (hlen:l.length < fF) (hp: ∀v∈l,dx cA gU f [v.enc]=some (.bool (p v))) :
  cR 100 [.vsl (l.map V.enc) none,f]=some (.int .i64 (bQ p l 0)):=by
 unfold fF at hlen
 refine aG (F:=F100) rfl ?_
 simp only [KZ,EM,F100,ax,az,seval,VX]
 refine gT (S:=Nat) (fun j=> [(0, .vsl (l.map V.enc) none),(1,f),(7, .int .i64 l.length),(8, .int .i64 (j:Int))]) (fun _=> .empty) (fun j=>l.length - j) (fun j=>bQ p l j=bQ p l 0) ?_ 0 rfl
 intro b j hj ih
 by_cases aR:j < l.length
 ·obtain ⟨v,hv⟩:=cq aR
  have cl:=cB (f:=V.enc) (sz:=5) (c:=none) hv (by simp [V.enc_cells])
  have bP:=hp v (bZ hv)
  have aK:=pD aR
  simp only [T6Fa,az,seval,VX,ae,aK,cl,hf,nI,bP]
  split
  ·rename_i BI
   rw [←hj,ja hv BI]
  ·rename_i BI
   refine ih (j+1) _ _ aa ?_ ?_ rfl
   ·rw [←ix hv (by simpa using BI)]; exact hj
   ·rw [cL aR aa]
    simp only [az,seval]
 ·have aK:=pE (Nat.not_lt.1 aR)
  simp only [T6Fa,az,seval,VX,aK]
  rw [←hj,jb aa]
theorem FA (l:List V) (f:AV) (p:V->Bool) (hf:f.closed=true) (nI:f.er=f) (hlen:l.length < fF) (hp: ∀v∈l,dx cA gU f [v.enc]=some (.bool (p v))) :
  cR 90 [.vsl (l.map V.enc) none,f]=some (.bool (l.any p)):=by
 refine aG (F:=F90) rfl ?_
 simp only [F90,az,seval,VX,hf,nI,RO l f p hf nI hlen hp,lu]
mutual
def V.fine:V->Bool
 | .mk k n s l m=>
  if k=0 then (V.mk k n s l m).bare
  else if k=1 then (V.mk k 0 s l m).bare && (n == 0 || n == 1)
  else if k=2 then (V.mk k 0 s l m).bare && p7 n
  else if k=3 then (V.mk k n [] l m).bare && vu s
  else if k=4 then (V.mk k n s [] m).bare && gS l
  else if k=5 then (V.mk k n s l []).bare && iN none m
  else false
def gS:List V->Bool
 | []=>true
 | v ::r=>v.fine && gS r
def iN:Option Bs->List (Bs×V)->Bool
 | _, []=>true
 | p,(k,v) ::r=>vu k && ((match p with | none=>true | some q=>bytesLess q k) && (v.fine && iN (some k) r))
end
def EP (p:Option Bs) (k:Bs):Bool:=match p with | none=>true | some q=>bytesLess q k
theorem dX (p:Option Bs) (k:Bs) (v:V) (r:List Mem):iN p ((k,v) ::r)=(vu k && (EP p k && (v.fine && iN (some k) r))):=by
 cases p <;> rw [iN.eq_def] <;> rfl
theorem B0: ∀l:List V,gS l= !(l.any fun v=> !v.fine)
 | []=>by simp [gS]
 | v ::r=>by simp [gS,B0 r]
theorem V.fine_eq (v:V):v.fine=if v.kind=0 then v.bare
  else if v.kind=1 then (V.mk v.kind 0 v.s v.l v.m).bare && (v.n == 0 || v.n == 1)
  else if v.kind=2 then (V.mk v.kind 0 v.s v.l v.m).bare && p7 v.n
  else if v.kind=3 then (V.mk v.kind v.n [] v.l v.m).bare && vu v.s
  else if v.kind=4 then (V.mk v.kind v.n v.s [] v.m).bare && gS v.l
  else if v.kind=5 then (V.mk v.kind v.n v.s v.l []).bare && iN none v.m
  else false:=by
 cases v; rw [V.fine]; rfl
def rW (m:List Mem) (j:Nat):Option Bs:=if j=0 then none else (m[j - 1]?).map (·.1)
theorem sA {m:List Mem} {j:Nat} {x:Mem} (h:m[j]? =some x):rW m (j+1)=some x.1:=by
 simp [rW,h]
theorem Bm (k:Nat) (h:k < 6):cR 65 [.int .i64 (k:Int)]=some (.tup [.fn (match k with | 0=>84 | 1=>85 | 2=>86 | 3=>87 | 4=>89 | _=>92) [] [], .bool true]):=by
 match k,h with
 | 0,_ | 1,_ | 2,_ | 3,_ | 4,_ | 5,_=>exact cQ 1000 (by kernel_rfl)
theorem Xx (k:Int) (h:k < 0∨6<=k):cR 65 [.int .i64 k]=some (.tup [.lit .nilFunc, .bool false]):=by
 refine aG (F:=F65) rfl ?_
 rcases h with h | h
 ·have h1:decide (k < 0)=true:=by simp; omega
  simp only [T6Fd,az,seval,h1]
 ·have h1:decide (k < 0)=false:=by simp; omega
  have h2:decide (k≥6)=true:=by simp; omega
  simp only [T6Fd,az,seval,h1,h2]
theorem Ou (v:V):cR 87 [v.enc]=some (.bool ((V.mk v.kind v.n [] v.l v.m).bare && vu v.s)):=by
 refine aG (F:=F87) rfl ?_
 simp only [F87,az,seval,ae,VX,sv,CJ]
 repeat' split
 all_goals simp_all
theorem Ow (v:V) (h:cR 48 [v.enc]=some (.bool v.fine)):cR 91 [v.enc]=some (.bool (!v.fine)):=by
 refine aG (F:=F91) rfl ?_
 simp only [F91,az,seval,ae,VX,h]
theorem Ov (v:V) (hb:v.l.length < fF) (h: ∀x∈v.l,cR 48 [x.enc]=some (.bool x.fine)):cR 89 [v.enc]=some (.bool ((V.mk v.kind v.n v.s [] v.m).bare && gS v.l)):=by
 have hc:=FA v.l (.fn 91 [] []) (fun x=> !x.fine) rfl (by simp only [AV.er,eP]) hb (fun x hx=>Ow x (h x hx))
 refine aG (F:=F89) rfl ?_
 simp only [F89,az,seval,ae,VX,sv,hc,B0]
 repeat' split
 all_goals simp_all
theorem QG {j:Nat} (h:0 < j) (hn:j < 9223372036854775808):IntKind.wrap .i64 ((j:Int) - 1)=((j - 1:Nat):Int):=by
 simp [IntKind.wrap,IntKind.bits,IntKind.signed]
 omega
theorem Xd (v:V) (hb:v.m.length < fF) (h: ∀x∈v.m,cR 48 [x.2.enc]=some (.bool x.2.fine)):cR 92 [v.enc]=some (.bool ((V.mk v.kind v.n v.s v.l []).bare && iN none v.m)):=by
 unfold fF at hb
 refine aG (F:=F92) rfl ?_
 cases hbare:(V.mk v.kind v.n v.s v.l []).bare with
 | false=>simp only [T6Fj,az,seval,ae,VX,sv,hbare,Bool.false_and]
 | true=>
 simp only [T6Fj,ax,az,seval,ae,VX,sv,hbare]
 refine aP (S:=Nat) (fun j=> [(3, .vsl (v.m.map bp) none),(12, .vsl (v.m.map bp) none),(13, .int .i64 v.m.length),(14, .int .i64 (j:Int))]) (fun j=>v.m.length - j) (fun j _=>iN (rW v.m j) (v.m.drop j)=iN none v.m) ?_ 0 _ rfl
 intro b j σ hj ih
 by_cases aR:j < v.m.length
 ·obtain ⟨⟨key,x⟩,hx⟩:=cq aR
  have cl:=cB (f:=bp) (sz:=6) (c:=none) hx (by simp [bq])
  have aK:=pD aR
  have hfx:=h _ (bZ hx)
  simp only at hfx
  rw [drop_cons hx,dX] at hj
  have qf: ∀(fr':Fr) (σ':ag),vu key=true->EP (rW v.m j) key=true->x.fine=true->keep [3,12,13,14] fr'=_->_:=fun fr' σ' a1 a2 a3 hk=>ih (j+1) fr' σ' aa (by
   rw [sA hx,←hj,a1,a2,a3]; rfl) hk
  by_cases h0:j=0
  ·subst h0
   have d0':decide (0 < ((0:Nat):Int))=false:=rfl
   simp only [T6Fi,az,Nat.reduceEqDiff,reduceIte,reduceCtorEq,Nat.reduceAdd,Nat.reduceLeDiff,Nat.reduceSub,Nat.reduceMul,Int.reduceEq,Int.reduceBEq,Int.reduceBNe,Int.reduceLT,Int.reduceLE,Nat.reduceLT,ae,VX,aK,cl,CJ,IM,hfx,d0']
   split
   ·rename_i q1
    rw [←hj]; simp_all
   split
   ·rename_i q1 q2
    rw [←hj]; simp_all
   rename_i q1 q2
   exact qf _ _ (by simpa using q1) rfl (by simpa using q2) (by rw [cL aR aa]; simp only [az,seval])
  ·obtain ⟨⟨pk,px⟩,V6⟩:=cq (l:=v.m) (j:=j - 1) aa
   have l9:=cB (f:=bp) (sz:=6) (c:=none) V6 (by simp [bq])
   have d0':decide (0 < (j:Int))=true:=by simp; omega
   have hw:=QG (j:=j) aa aa
   have hp:EP (rW v.m j) key=bytesLess pk key:=by simp [rW,h0,V6,EP]
   rw [hp] at hj qf
   simp only [T6Fi,az,seval,ae,VX,aK,cl,CJ,IM,hfx,d0',hw,l9]
   split
   ·rename_i q1
    rw [←hj]; simp_all
   split
   ·rename_i q1 q2
    rw [←hj]; simp_all
   split
   ·rename_i q1 q2 q3
    rw [←hj]; simp_all
   rename_i q1 q2 q3
   exact qf _ _ (by simpa using q1) (by simpa using q2) (by simpa using q3) (by rw [cL aR aa]; simp only [az,seval])
 ·have aK:=pE (Nat.not_lt.1 aR)
  simp only [T6Fi,az,seval,VX,aK]
  rw [←hj,cc aa,iN]
theorem Xt: ∀(n:Nat) (v:V),v.sz < n->v.sz < fF->cR 48 [v.enc]=some (.bool v.fine):=by
 intro n
 induction n with
 | zero=>intro v h; omega
 | succ n ih=>
  intro v h hb
  have fb:=v.sz_eq
  have hl:=oD v.l
  have hm:=oC v.m
  have ihL: ∀x∈v.l,cR 48 [x.enc]=some (.bool x.fine):=fun x hx=>by
   have:=jB hx
   exact ih x aa aa
  have ihM: ∀x∈v.m,cR 48 [x.2.enc]=some (.bool x.2.fine):=fun x hx=>by
   have:=gI hx
   exact ih x.2 aa aa
  have t1:=Ov v aa ihL
  have t2:=Xd v aa ihM
  refine aG (F:=F48) rfl ?_
  rw [V.fine_eq]
  by_cases hk:v.kind < 0∨6<=v.kind
  ·have e0:v.kind≠0:=by omega
   have e1:v.kind≠1:=by omega
   have e2:v.kind≠2:=by omega
   have e3:v.kind≠3:=by omega
   have e4:v.kind≠4:=by omega
   have e5:v.kind≠5:=by omega
   simp only [T6Fc,az,seval,ae,VX,Xx v.kind hk,e0,e1,e2,e3,e4,e5]
  ·obtain ⟨k,nn,s,l,m⟩:=v
   simp only [V.kind_mk,V.n_mk,V.s_mk,V.l_mk,V.m_mk] at hk t1 t2 ⊢
   have hcases:k=0∨k=1∨k=2∨k=3∨k=4∨k=5:=by omega
   have a0:cR 65 [.int .i64 0]=some (.tup [.fn 84 [] [], .bool true]):=Bm 0 aa
   have a1:cR 65 [.int .i64 1]=some (.tup [.fn 85 [] [], .bool true]):=Bm 1 aa
   have a2:cR 65 [.int .i64 2]=some (.tup [.fn 86 [] [], .bool true]):=Bm 2 aa
   have a3:cR 65 [.int .i64 3]=some (.tup [.fn 87 [] [], .bool true]):=Bm 3 aa
   have a4:cR 65 [.int .i64 4]=some (.tup [.fn 89 [] [], .bool true]):=Bm 4 aa
   have a5:cR 65 [.int .i64 5]=some (.tup [.fn 92 [] [], .bool true]):=Bm 5 aa
   rcases hcases with rfl | rfl | rfl | rfl | rfl | rfl
   all_goals simp only [T6Fc,az,seval,ae,VX,a0,a1,a2,a3,a4,a5,sv,r_bit,RJ,Ou,t1,t2,Int.reduceEq]
theorem r_fine (v:V) (hb:v.sz < fF):cR 48 [v.enc]=some (.bool v.fine):=Xt (v.sz+1) v (aV _) hb
end Go.Ab
namespace Go.Ab
open Go.RowKit Go.ChangeShapes Go.WideShapes
theorem W7 {σ:ag} {n:Nat} {x:AV} {b:Bool} (h:rb σ (n+1) x=some (.bool b)):x= .bool b:=by
 cases x <;> simp only [rb] at h <;> (repeat' (split at h)) <;> simp_all
theorem Uo {x:AV} {b:Bool} (h:x.er= .bool b):x= .bool b:=by
 cases x <;> simp only [AV.er] at h <;> simp_all
theorem HQ {id:Nat} {args:ai} {b:Bool} (h:cR id args=some (.bool b)): ∃n σ1,acall cA gU n id args=some (.bool b,σ1):=by
 unfold cR dx at h
 rw [Option.bind_eq_some_iff] at h
 obtain ⟨⟨r,σ1⟩,h1,h2⟩:=h
 obtain ⟨n,hn⟩:=dY.1 h1
 refine ⟨n,σ1,?_⟩
 unfold rbE at h2
 rw [cH] at h2
 obtain ⟨y,h3,h4⟩:=h2
 obtain rfl:=Uo h4
 obtain rfl:=W7 (n:=23) h3
 exact hn
section
variable {P:Program} {fm gm:Nat->aA}
theorem MR (g:Nat):ay (gU g)=true:=by
 unfold gU
 split
 ·kernel_rfl
 ·split
  ·kernel_rfl
  ·split
   ·rfl
   ·split <;> rfl
def RVs (fm:Nat->aA) (w:World) (l:ai) (vs:List Value):Prop:=l.length=vs.length/\∀j,RV fm w (fun _=>False) Mu.none (l.getD j .undef) (vs.getD j Go.undef)
theorem RVs.nil {w:World}:RVs fm w [] []:=⟨rfl,fun j=>by simpa using RV.undef _⟩
theorem RVs.cons {w:World} {x:AV} {v:Value} {l:ai} {vs:List Value} (h:RV fm w (fun _=>False) Mu.none x v) (hs:RVs fm w l vs):RVs fm w (x ::l) (v ::vs):=by
 refine ⟨by simp [hs.1],fun j=> ?_⟩
 cases j with
 | zero=>simpa using h
 | succ j=>simpa using hs.2 j
variable {H:Type} {enc:TypeId×Value->H}
theorem LB {w:World} {g':Nat} {cells:ai} {vs:List Value} (aR:g' < w.heap.size) (hl:cells.length=vs.length) (hv: ∀j,j < vs.length->w.cell? ⟨g',j,none⟩=some (vs.getD j Go.undef))
  (hr: ∀j,RV fm w (fun _=>False) Mu.none (cells.getD j .undef) (vs.getD j Go.undef)):RV fm w (fun _=>False) Mu.none (.vptr cells 0) (.pointer (some ⟨g',0,none⟩)):=
 .vptr cells 0 g' 0 (fun j=>vs.getD j Go.undef) (by rintro (h | ⟨_,_,h⟩) <;> simp [Mu.none] at h) aR (fun j hj=>by simpa using hv j aa) hr
theorem pQ {w:World} {g':Nat} {k:IntKind} {zs:List Int} (aR:g' < w.heap.size) (hv: ∀j,j < zs.length->w.cell? ⟨g',j,none⟩=some (.int k (zs.getD j 0))) :
  RV fm w (fun _=>False) Mu.none (.vptr (zs.map (AV.int k)) 0) (.pointer (some ⟨g',0,none⟩)):=by
 refine LB (vs:=zs.map (Value.int k)) aR (by simp) (fun j hj=> ?_) (fun j=> ?_)
 ·have MB:j < zs.length:=by simpa using hj
  rw [hv j MB]; simp [List.getD,MB]
 ·by_cases hj:j < zs.length
  ·have e1:(zs.map (AV.int k)).getD j .undef= .int k zs[j]:=by simp [List.getD,hj]
   have e2:(zs.map (Value.int k)).getD j Go.undef= .int k zs[j]:=by simp [List.getD,hj]
   rw [e1,e2]; exact .int _ _
  ·have e1:(zs.map (AV.int k)).getD j .undef= .undef:=by simp [List.getD,hj]
   rw [e1]; exact .undef _
theorem rP (hl:laidOutB P=true) {W W':World} {sp':Nat->Bool}: ∀ {ts:List TypeId} {vs:List Value} {ds:List (DataW H)} {ps:List MemPlace},
  (∀t∈ts,P.readableRec t=true/\t < P.types.size)->DataW.TrodAll enc P W 0 (fun _=>true) true ts vs ds ps->(∀p∈ps,W.sameAt W' p)->(∀p∈ps,sp' p.block=true)->DataW.TrodAll enc P W' 0 sp' true ts vs ds ps
 | [], [], [],_,_,h,_,_=>h
 | t ::ts,v ::vs,d ::ds,ps,hr,⟨p,q,h,hs,e⟩,wu,Ph=>by
  subst e
  refine ⟨p,q,WideElems.Trod_stays hl (hr t (by simp)).1 (hr t (by simp)).2 h (fun x hx=>wu x (by simp [hx])) (fun x hx=>Ph x (by simp [hx])),?_,rfl⟩
  exact rP hl (fun t ht=>hr t (by simp [ht])) hs (fun x hx=>wu x (by simp [hx])) (fun x hx=>Ph x (by simp [hx]))
 | [],_ ::_,_,_,_,h,_,_=>h.elim
 | [], [],_ ::_,_,_,h,_,_=>h.elim
 | _ ::_, [],_,_,_,h,_,_=>h.elim
 | _ ::_,_ ::_, [],_,_,h,_,_=>h.elim
theorem SS {f:Func} {s:ChangeSpec} {W W':World} {args:Array Value} {ds gs:List (DataW H)} {before:List MemPlace} {tb:TypeId}
  (hv:s.vars= []) (hs:s.fn H ds= { results:= [.lit (.bool true)],args:=ds }) (sG:f.resultTypes= #[tb]) (ht:P.underlying tb=some .bool)
  (hl:laidOutB P=true) (hr: ∀t∈f.params.toList,P.readableRec t=true/\t < P.types.size)
  (hW:DataW.Whole enc P f.params.toList s.vars false W args.toList ds gs before) (hb:Below W.heap.size W W') :
  s.post enc P f false true false false W args (.bool true) W':=by
 have aR: ∀p∈before,p.block < W.heap.size:=fun p hp=>hW.lt p hp
 have hW':=hW
 obtain ⟨p,q,hA,hV,rfl,_,_⟩:=hW'
 rw [hv] at hV
 obtain ⟨rfl,rfl⟩:=trodVars_none hV
 refine ⟨ds, [],p ++ [], [],p, [],hW,?_,?_,?_,World.keptBut_mono (fun x hx=>⟨hx, .inr (.inl (by simpa using hx))⟩) (hb.frame (· ∈p ++ [])),fun h=>Bool.noConfusion h⟩
 ·rw [bC,hs,sG]
  exact trodAll_cons_mk (shut_bool ht true) trodAll_mk0
 ·rw [bC,hs]
  exact rP hl hr hA (fun x hx=>hb.same (aR x (by simpa using hx))) (fun x hx=>by simpa using aR x (by simpa using hx))
 ·rw [hv,bC,hs]
  exact rfl
theorem C2 {f:Func} {s:ChangeSpec} {W:World} {args:Array Value} {ds gs:List (DataW H)} {before:List MemPlace} {tb:TypeId} {id:Nat} {f':FuncId} {avs:ai}
  (hm:P.follows .mixedOrders=true) (hP:Aq P fm gm cA oU) (hf:fm id=some f') (tY:eM fm gm gU W (fun _=>False) Mu.none)
  (bP:cR id avs=some (.bool true)) (V3:RVs fm W avs args.toList)
  (hv:s.vars= []) (hs:s.fn H ds= { results:= [.lit (.bool true)],args:=ds }) (sG:f.resultTypes= #[tb]) (ht:P.underlying tb=some .bool)
  (hl:laidOutB P=true) (hr: ∀t∈f.params.toList,P.readableRec t=true/\t < P.types.size)
  (hW:DataW.Whole enc P f.params.toList s.vars false W args.toList ds gs before) :
  Calls P f' args W fun e W'=>∃v,e= .returned v/\s.post enc P f false true false false W args v W':=by
 obtain ⟨n,σ1,hn⟩:=HQ bP
 refine (HP MR (Uz hm MR) hP hn hf tY (by simpa using V3.1) (fun j=> ?_)).mono ?_
 ·have:=V3.2 j
  simpa using this
 ·rintro e W' ⟨cv,μ',rfl,h2,h3⟩
  cases h2
  exact ⟨_,rfl,SS hv hs sG ht hl hr hW h3⟩
end
end Go.Ab
namespace Go.Ab
open Go.Lib Go.Proofs Go.Proofs.YtgfeimceppggcaaGreatDoor Go.RowKit Go.ChangeShapes Go.WideShapes
theorem zj {α:Type}: ∀ {l:List (Nat×α)} {i:Nat} {x:α},look l i=some x->(i,x)∈l
 | [],_,_,h=>by simp [look] at h
 | (j,y) ::l,i,x,h=>by
  simp only [look] at h
  split at h
  ·rename_i e
   subst e
   simp only [ah] at h
   subst h
   simp
  ·exact ec _ (zj h)
def gmD:Nat->aA:=fun i=>look [(4,0),(2,1),(0,2),(1,3),(5,5),(6,6),(7,7)] i
def chkAll (P:Program) (l:List (Nat×Nat)):Bool:=l.all fun p=>(p.1 == 153 && p.2 == 71) || match cA p.1 with | some F=>Dd P (fun i=>look l i) gmD oU F p.2 | none=>true
set_option maxRecDepth 100000
noncomputable def zeroM:Value:=((Tryz.prog.info? 52).bind (·.zero)).getD Go.undef
theorem insAt:HZ Tryz.prog 71 23 52 3 4 0 115 116 zeroM where
 hf:=by kernel_rfl
 fo:=by kernel_rfl
 uS:=by kernel_rfl
 uI:=by kernel_rfl
 uB:=by kernel_rfl
 info:=by kernel_rfl
 zs:=by kernel_rfl
 mixed:=by kernel_rfl
theorem nat153 {fm:Nat->aA}:NatOk Tryz.prog fm Qf 71:=
 ⟨_,_,rfl,⟨_,insAt.hf,rfl,by decide⟩,fun X μ w σ σ' args args' r hS hX hl hr h=>ins_ok insAt hS hX hl hr h⟩
theorem AP {l:List (Nat×Nat)} (h:chkAll Tryz.prog l=true):Aq Tryz.prog (fun i=>look l i) gmD cA oU:=by
 intro id F f' hF hf
 have:=bG.1 h _ (zj hf)
 simp only [Bool.or_eq_true,ak,beq_iff_eq] at this
 rcases this with ⟨h1,h2⟩ | this
 ·subst h1 h2
  obtain rfl:Qf=F:=bT ((show cA 153=some Qf by kernel_rfl).symm.trans hF)
  exact .inr nat153
 ·simp only [hF] at this
  exact .inl this
set_option maxRecDepth 100000
theorem dOwn:ownKnob Tryz.prog.godebug=none:=by kernel_rfl
theorem dMixed:Tryz.prog.follows .mixedOrders=true:=by kernel_rfl
theorem UE:laidOutB Tryz.prog=true:=by kernel_rfl
theorem dG0:Tryz.prog.globalNamed "unicode/utf8.first" =some 2:=by kernel_rfl
theorem dG1:Tryz.prog.globalNamed "unicode/utf8.acceptRanges" =some 3:=by kernel_rfl
theorem dY0:(Tryz.prog.globals[2]?).map (·.type)=some 277:=by kernel_rfl
theorem dY1:(Tryz.prog.globals[3]?).map (·.type)=some 280:=by kernel_rfl
theorem dG4:Tryz.prog.globalNamed "internal/strconv.uint64pow10" =some 5:=by kernel_rfl
theorem dG6:Tryz.prog.globalNamed "math/bits.deBruijn32tab" =some 6:=by kernel_rfl
theorem dG7:Tryz.prog.globalNamed "math/bits.deBruijn64tab" =some 7:=by kernel_rfl
theorem dG3:Tryz.prog.globalNamed "introit/b64.standard" =some 0:=by kernel_rfl
theorem dY3:(Tryz.prog.globals[0]?).map (·.type)=some 102:=by kernel_rfl
theorem dFirst:Pinned.utf8First=tabData .u8 xL:=by kernel_rfl
def P9:List Int:= [0x80,0xBF,0xA0,0xBF,0x80,0x9F,0x90,0xBF,0x80,0x8F] ++List.replicate 22 0
theorem dAcc:(Rows.laid_unicode_utf8_acceptRanges:DataW Unit)= .agg ((List.range 16).map fun i=> .agg ([P9.getD (2*i) 0,P9.getD (2*i+1) 0].map fun z=> .lit (.int .u8 z))):=by kernel_rfl
theorem TH:zL=P9.map (AV.int .u8):=by kernel_rfl
def va (cs:Array Value):Obj->Obj
 | .cells _ t frozen=> .cells cs t frozen
 | o=>o
def d32L:List Int:= [0,1,28,2,29,14,24,3,30,22,20,15,25,17,4,8,31,27,13,23,21,19,16,7,26,12,18,6,11,5,10,9]
def d64L:List Int:= [0,1,56,2,57,49,28,3,61,58,42,50,38,29,17,4,62,47,59,36,45,43,51,22,53,39,33,30,24,18,12,5,63,55,48,27,60,41,37,16,46,35,44,21,52,32,23,11,54,26,40,15,34,20,31,10,25,14,19,9,13,8,7,6]
def p10L:List Int:= [1,10,100,1000,10000,100000,1000000,10000000,100000000,1000000000,10000000000,100000000000,1000000000000,10000000000000,100000000000000,1000000000000000,10000000000000000,100000000000000000,1000000000000000000,10000000000000000000]
noncomputable def vm (os:Os):World:=
 { World.holding Tryz.prog os ⟨#[],#[], []⟩ with
  heap:=((((((World.holding Tryz.prog os ⟨#[],#[], []⟩).heap.modify 0 (va ([43,47].map (Value.int .u8)).toArray)).modify 2 (va (xL.map (Value.int .u8)).toArray)).modify 3 (va (P9.map (Value.int .u8)).toArray)).modify 5 (va (p10L.map (Value.int .u64)).toArray)).modify 6 (va (d32L.map (Value.int .u8)).toArray)).modify 7 (va (d64L.map (Value.int .u8)).toArray) }
theorem g_lt {W:World} {n:String} {d:DataW Unit} {g:Nat} (h:VarReads Tryz.prog W n d) (hg:Tryz.prog.globalNamed n=some g):g < W.heap.size:=by
 obtain ⟨g',t,cs,fuel,p,MD,_,Gb,_⟩:=h
 obtain rfl:=bT (hg.symm.trans MD)
 simp only [World.var?,hg,Option.bind_some] at Gb
 rcases Nat.lt_or_ge g W.heap.size with h' | h'
 ·exact h'
 ·have:W.heap[g]? =none:=by simpa using h'
  simp [this] at Gb
theorem Dq {W:World} (h:VarReads Tryz.prog W "unicode/utf8.first" Pinned.utf8First): ∀j,j < xL.length->W.cell? ⟨2,j,none⟩=some (.int .u8 (xL.getD j 0)):=by
 intro j hj
 obtain ⟨g,t,cs,fuel,p,hg,hty,Gb,hd⟩:=h
 obtain rfl:=bT (dG0.symm.trans hg)
 obtain rfl:=bT (dY0.symm.trans hty)
 rw [dFirst] at hd
 have ma:=cells_of_tab (n:=256) (e:=5) Tryz.underlying277 Tryz.underlying5 (by kernel_rfl) (by kernel_rfl) hd
 have:=World.var?_cell hg Gb j
 rw [this,←Array.getElem?_toList,ma]
 simp [List.getD,hj]
theorem JY {W:World} (h:VarReads Tryz.prog W "unicode/utf8.acceptRanges" Rows.laid_unicode_utf8_acceptRanges): ∀j,j < P9.length->W.cell? ⟨3,j,none⟩=some (.int .u8 (P9.getD j 0)):=by
 intro j hj
 obtain ⟨g,t,cs,fuel,p,hg,hty,Gb,hd⟩:=h
 obtain rfl:=bT (dG1.symm.trans hg)
 obtain rfl:=bT (dY1.symm.trans hty)
 rw [dAcc] at hd
 have hi:j / 2 < 16:=by have:j < 32:=hj; omega
 obtain ⟨fuel',d,q,hdi,he⟩:=array_elem (n:=16) (e:=279) Tryz.underlying280 hd (j / 2) hi
 simp only [bV,List.getElem?_range hi,Option.map_some,ah] at hdi
 subst hdi
 rw [show Tryz.prog.cellsOf 279=2 by kernel_rfl] at he
 have ma:=ints_of_struct Tryz.underlying279 (fun i f hf=>by
  match i,hf with
  | 0,hf=>simp at hf; subst hf; exact ⟨Tryz.underlying5,rfl,by kernel_rfl⟩
  | 1,hf=>simp at hf; subst hf; exact ⟨Tryz.underlying5,rfl,by kernel_rfl⟩
  | i+2,hf=>simp at hf) (by kernel_rfl) he
 have e0:=congrArg (·[j % 2]?) ma
 simp only [List.getElem?_take,List.getElem?_drop] at e0
 rw [World.var?_cell hg Gb j,←Array.getElem?_toList]
 have Y3:j / 2*2+j % 2=j:=by omega
 rw [Y3] at e0
 rw [if_pos aa] at e0
 rw [e0]
 rcases (by omega:j % 2=0∨j % 2=1) with h | h
 ·rw [h]; simp; congr 2; omega
 ·rw [h]; simp; congr 2; omega
theorem JX {W:World} (h:VarReads Tryz.prog W "introit/b64.standard" Rows.laid_introit_b64_standard): ∀j,j < 2->W.cell? ⟨0,j,none⟩=some (.int .u8 ([43,47].getD j 0)):=by
 intro j hj
 obtain ⟨g,t,cs,fuel,p,hg,hty,Gb,hd⟩:=h
 obtain rfl:=bT (dG3.symm.trans hg)
 obtain rfl:=bT (dY3.symm.trans hty)
 rw [show (Rows.laid_introit_b64_standard:DataW Unit)= .agg ([43,47].map fun z=> .lit (.int .u8 z)) from rfl] at hd
 have ma:=ints_of_struct Tryz.underlying102 (fun i f hf=>by
  match i,hf with
  | 0,hf=>simp at hf; subst hf; exact ⟨Tryz.underlying5,rfl,by kernel_rfl⟩
  | 1,hf=>simp at hf; subst hf; exact ⟨Tryz.underlying5,rfl,by kernel_rfl⟩
  | i+2,hf=>simp at hf) (by kernel_rfl) hd
 rw [World.var?_cell hg Gb j,←Array.getElem?_toList,ma]
 rcases (by omega:j=0∨j=1) with rfl | rfl <;> rfl
theorem globOK {W:World} {fm:Nat->aA} (h:laidMetH Tryz.prog Rows.rulesKnownRow.laid W) (hs:W.ShapedOpen Tryz.prog):eM fm gmD gU W (fun _=>False) Mu.none:=by
 have hl:laidMet Tryz.prog Rows.rulesKnownRow.laid W:=h
 have m: ∀ {n d},(n,d)∈Rows.rulesKnownRow.laid->VarReads Tryz.prog W n d:=fun hm=>Lib.laidMet.reads hl hm
 have h0:=Dq (m (n:= "unicode/utf8.first") (d:=Pinned.utf8First) (ec _ (ec _ (ec _ (ec _ (ec _ List.mem_cons_self))))))
 have h1:=JY (m (n:= "unicode/utf8.acceptRanges") (d:=Rows.laid_unicode_utf8_acceptRanges) (ec _ (ec _ (ec _ List.mem_cons_self))))
 have h3:=JX (m (n:= "introit/b64.standard") (d:=Rows.laid_introit_b64_standard) (ec _ (ec _ (ec _ (ec _ List.mem_cons_self)))))
 have h4:=g_lt (m (n:= "internal/strconv.uint64pow10") (d:=Rows.laid_internal_strconv_uint64pow10) (ec _ (ec _ List.mem_cons_self))) dG4
 have h6:=g_lt (m (n:= "math/bits.deBruijn32tab") (d:=Rows.laid_math_bits_deBruijn32tab) List.mem_cons_self) dG6
 have h7:=g_lt (m (n:= "math/bits.deBruijn64tab") (d:=Rows.laid_math_bits_deBruijn64tab) (ec _ List.mem_cons_self)) dG7
 obtain ⟨m,h2⟩:=cell_of_shapedOpen_int (g:=1) (t:=3) (zero:=#[.int .i64 0]) (k:= .i64) hs (of_decide_eq_true (by kernel_rfl)) (by kernel_rfl) rfl (by kernel_rfl) (by kernel_rfl) Tryz.underlying3
 have aR: ∀g off v,W.cell? ⟨g,off,none⟩=some v->g < W.heap.size:=fun g off v h=>by
  unfold World.cell? at h
  rcases Nat.lt_or_ge g W.heap.size with h' | h'
  ·exact h'
  ·have:W.heap[g]? =none:=by simpa using h'
   simp [this] at h
 intro g g' hg
 have MG:(g=4/\g'=0)∨(g=2/\g'=1)∨(g=0/\g'=2)∨(g=1/\g'=3)∨(g=5/\g'=5)∨(g=6/\g'=6)∨(g=7/\g'=7):=by
  have:=zj hg
  simpa using this
 have nil: ∀ {g g':Nat},gU g= []->g' < W.heap.size->RV fm W (fun _=>False) Mu.none (.vptr (gU g) 0) (.pointer (some ⟨g',0,none⟩)):=fun e aR=>
  LB (vs:= []) aR (by rw [e]; rfl) (fun j hj=>absurd hj (Nat.not_lt_zero _)) (fun j=>by rw [e]; simpa using RV.undef _)
 rcases MG with ⟨rfl,rfl⟩ | ⟨rfl,rfl⟩ | ⟨rfl,rfl⟩ | ⟨rfl,rfl⟩ | ⟨rfl,rfl⟩ | ⟨rfl,rfl⟩ | ⟨rfl,rfl⟩
 ·exact pQ (zs:= [43,47]) (aR _ _ _ (h3 0 (by decide))) h3
 ·exact nil rfl (aR _ _ _ h2)
 ·exact pQ (zs:=xL) (aR _ _ _ (h0 0 (of_decide_eq_true (by kernel_rfl)))) h0
 ·show RV fm W _ _ (.vptr zL 0) _
  rw [TH]
  exact pQ (aR _ _ _ (h1 0 (of_decide_eq_true (by kernel_rfl)))) h1
 ·exact nil rfl h4
 ·exact nil rfl h6
 ·exact nil rfl h7
end Go.Ab
namespace Go.Ab
open Go.RowKit Go.ChangeShapes Go.WideShapes
mutual
def jr {H:Type}:DataW H->AV
 | .lit (.int k n)=> .int k n
 | .lit (.bool b)=> .bool b
 | .lit (.string s)=> .str s
 | .slice els _=> .vsl (Hu els) none
 | .nil=> .vsl [] none
 | .agg ps=> .agg (Ut ps)
 | _=> .undef
def Hu {H:Type}:List (DataW H)->ai
 | []=> []
 | d ::r=>jr d ::Hu r
def Ut {H:Type}:List (DataW H)->ai
 | []=> []
 | d ::r=>(jr d).cells ++Ut r
end
theorem B8 {H:Type}: ∀l:List (DataW H),Hu l=l.map jr
 | []=>by simp [Hu]
 | d ::r=>by simp [Hu,B8 r]
def qo (P:Program) (S:List TypeId):List Field->Nat->Nat->Bool
 | [],o,n=>o == n
 | f ::r,o,n=>f.offset == o && S.contains f.type && qo P S r (o+P.cellsOf f.type) n
def xn (P:Program) (S:List TypeId) (t:TypeId):Bool:=
 match P.underlying t with
 | some .bool | some (.int _) | some .string=>P.cellsOf t == 1
 | some (.slice e)=>P.cellsOf t == 1 && S.contains e && decide (1<=P.cellsOf e)
 | some (.struct fs)=>qo P S fs.toList 0 (P.cellsOf t)
 | _=>false
section
variable {P:Program} {fm:Nat->aA} {H:Type} {enc:TypeId×Value->H} {w:World} {base:Nat} {sp:Nat->Bool} {held:Bool} {S:List TypeId}
def RC (fm:Nat->aA) (w:World) (l:ai) (vs:List Value):Prop:=l.length=vs.length/\∀j,RV fm w (fun _=>False) Mu.none (l.getD j .undef) (vs.getD j Go.undef)
theorem RC.one {x:AV} {v:Value} (h:RV fm w (fun _=>False) Mu.none x v):RC fm w [x] [v]:=by
 refine ⟨rfl,fun j=> ?_⟩
 cases j with
 | zero=>exact h
 | succ j=>simpa using RV.undef _
theorem RC.append {l l':ai} {vs rN:List Value} (h:RC fm w l vs) (h':RC fm w l' rN):RC fm w (l ++l') (vs ++rN):=by
 refine ⟨by simp [h.1,h'.1],fun j=> ?_⟩
 by_cases hj:j < l.length
 ·have e1:(l ++l').getD j .undef=l.getD j .undef:=by simp [List.getD,eX hj]
  have e2:(vs ++rN).getD j Go.undef=vs.getD j Go.undef:=by simp [List.getD,eX (h.1▸hj:j < vs.length)]
  rw [e1,e2]; exact h.2 j
 ·have e1:(l ++l').getD j .undef=l'.getD (j - l.length) .undef:=by simp [List.getD,eI (Nat.not_lt.1 hj)]
  have e2:(vs ++rN).getD j Go.undef=rN.getD (j - l.length) Go.undef:=by
   have:=Nat.not_lt.1 hj
   rw [h.1] at this ⊢
   simp [List.getD,eI this]
  rw [e1,e2]; exact h'.2 _
theorem cells?_get {a:Addr} {n:Nat} {cs:List Value} (h:w.cells? base a n=some cs):cs.length=n/\∀i,i < n->w.cell? (a.add i)=some (cs.getD i Go.undef):=by
 unfold World.cells? at h
 split at h
 ·have h1:=Lib.mapM_length h
  simp at h1
  refine ⟨h1,fun i hi=> ?_⟩
  obtain ⟨b,hb,hf⟩:=Lib.mapM_at h i i (by simp [hi])
  rw [hf]; simp [List.getD,hb]
 ·simp at h
theorem B4 (n0:Nat) (ih: ∀(t:TypeId) (cs:List Value) (d:DataW H) (p:List MemPlace),t∈S->DataW.trod enc P w base sp held n0 t cs=some (d,p)->cs.length=P.cellsOf t/\RC fm w (jr d).cells cs) {cs:List Value} :
  ∀(fl:List Field) (xs:List (DataW H×List MemPlace)) (o:Nat),qo P S fl o cs.length=true->xs.length=fl.length->
   (∀(i:Nat) (f:Field),fl[i]? =some f->DataW.trod enc P w base sp held n0 f.type ((cs.drop f.offset).take (P.cellsOf f.type))=xs[i]?)->
   o<=cs.length/\RC fm w (Ut (xs.map (·.1))) (cs.drop o)
 | [], [],o,h,_,_=>by
  simp only [qo,beq_iff_eq] at h
  subst h
  refine ⟨aD _,?_⟩
  simp only [List.map_nil,Ut,List.drop_length]
  exact ⟨rfl,fun j=>by simpa using RV.undef _⟩
 | [],_ ::_,_,_,h,_=>by simp at h
 | _ ::_, [],_,_,h,_=>by simp at h
 | f ::fl,x ::xs,o,h,hl,hx=>by
  simp only [qo,ak,beq_iff_eq] at h
  obtain ⟨⟨ho,hS⟩,h⟩:=h
  have h0:=hx 0 f rfl
  simp only [List.getElem?_cons_zero] at h0
  obtain ⟨gh,hrc⟩:=ih f.type _ x.1 x.2 (by simpa using hS) h0
  obtain ⟨hle,hr⟩:=B4 n0 ih fl xs _ h (by simpa using hl) (fun i g hg=>hx (i+1) g hg)
  refine ⟨by omega,?_⟩
  have e:cs.drop o=(cs.drop o).take (P.cellsOf f.type) ++cs.drop (o+P.cellsOf f.type):=by
   rw [←List.drop_drop,ed]
  rw [e]
  simp only [List.map_cons,Ut]
  rw [ho] at hrc
  exact hrc.append hr
theorem W0 (hS:S.all (xn P S)=true): ∀(fuel:Nat) (t:TypeId) (cs:List Value) (d:DataW H) (p:List MemPlace),t∈S->DataW.trod enc P w base sp held fuel t cs=some (d,p)->
  cs.length=P.cellsOf t/\RC fm w (jr d).cells cs:=by
 intro fuel
 induction fuel with
 | zero=>intro t cs d p _ h; simp [DataW.trod] at h
 | succ n ih=>
  intro t cs d p ht h
  have hp:=bG.1 hS t ht
  unfold xn at hp
  split at hp
  ·rename_i hu
   obtain ⟨b,rfl,hx⟩:=DataW.trod_bool hu h
   simp only [aL] at hx
   obtain ⟨rfl,_⟩:=hx
   simp only [beq_iff_eq] at hp
   exact ⟨hp.symm,by simp only [jr]; exact .one (.bool b)⟩
  ·rename_i k hu
   obtain ⟨z,rfl,hx,_⟩:=DataW.trod_int hu h
   simp only [aL] at hx
   obtain ⟨rfl,_⟩:=hx
   simp only [beq_iff_eq] at hp
   exact ⟨hp.symm,by simp only [jr]; exact .one (.int k z)⟩
  ·rename_i hu
   obtain ⟨s,rfl,hx,_⟩:=DataW.trod_string hu h
   simp only [aL] at hx
   obtain ⟨rfl,_⟩:=hx
   simp only [beq_iff_eq] at hp
   exact ⟨hp.symm,by simp only [jr]; exact .one (.str _ s rfl)⟩
  ·rename_i e hu
   simp only [ak,beq_iff_eq,dZ] at hp
   obtain ⟨⟨YV,he⟩,fb⟩:=hp
   have Ps:e∈S:=by simpa using he
   rcases DataW.trod_slice hu h with ⟨rfl,hx⟩ | ⟨a,len,cap,elems,rest,m,hm,rfl,hx,_,Tp,_,Pr,di,_,_⟩
   ·simp only [aL] at hx
    obtain ⟨rfl,_⟩:=hx
    exact ⟨YV.symm,by simp only [jr]; exact .one (.vslNil _ (.inl rfl))⟩
   ·simp only [aL] at hx
    obtain ⟨rfl,_⟩:=hx
    obtain rfl:n=m:=by omega
    refine ⟨YV.symm,?_⟩
    simp only [jr,B8]
    refine .one ?_
    by_cases h0:len=0
    ·subst h0
     have:elems= []:=List.length_eq_zero_iff.1 Pr
     subst this
     exact .vslEmpty _ _ _ (.inl rfl)
    have one: ∀i,i < len->∃ci y,w.cells? base (a.add (i*P.cellsOf e)) (P.cellsOf e)=some ci/\elems[i]? =some y/\DataW.trod enc P w base sp held n e ci=some y:=by
     intro i hi
     have h1:=di i hi
     have h2:elems[i]? =some (elems[i]'(by omega)):=by simp
     rw [h2,Option.bind_eq_some_iff] at h1
     obtain ⟨ci,h3,h4⟩:=h1
     exact ⟨ci,_,h3,h2,h4⟩
    obtain ⟨c0,y0,k1,k2,k3⟩:=one 0 aa
    have lF:=(cells?_get k1).2 0 aa
    have hspot:=World.cell?_spot lF
    obtain ⟨blk,off,spot⟩:=a
    have Ph:spot=none:=by simpa [Addr.add] using hspot
    subst Ph
    simp only [add_plain] at one lF
    have hb:blk < w.heap.size:=by
     unfold World.cell? at lF
     have h':w.heap[blk]? ≠none:=fun e=>by simp [e] at lF
     rcases Nat.lt_or_ge blk w.heap.size with h | h
     ·exact h
     ·exact absurd (by simpa using h) h'
    have hels: ∀x∈(elems.map (·.1)).map jr,x.cells.length=P.cellsOf e:=by
     intro x hx
     simp only [List.map_map,List.mem_map] at hx
     obtain ⟨y,hy,rfl⟩:=hx
     obtain ⟨i,hi,rfl⟩:=List.mem_iff_getElem.1 hy
     obtain ⟨ci,y',q1,q2,q3⟩:=one i aa
     have q4:elems[i]? =some elems[i]:=by simp
     rw [q4] at q2
     simp only [ah] at q2
     subst q2
     obtain ⟨r1,r2,_⟩:=ih e ci _ _ Ps q3
     exact r2.trans r1
    have hlen:((elems.map (·.1)).map jr).length=len:=by simp [Pr]
    have gA: ∀j,j < len*P.cellsOf e->∃v,w.cell? ⟨blk,off+j,none⟩=some v/\RV fm w (fun _=>False) Mu.none ((((elems.map (·.1)).map jr).flatMap AV.cells).getD j .undef) v:=by
     intro j hj
     have hq:j / P.cellsOf e < len:=by rw [Nat.div_lt_iff_lt_mul aa]; exact hj
     have hr:j % P.cellsOf e < P.cellsOf e:=aZ _ aa
     obtain ⟨ci,y,q1,q2,q3⟩:=one (j / P.cellsOf e) hq
     obtain ⟨g1,g2⟩:=cells?_get q1
     have g3:=g2 (j % P.cellsOf e) hr
     obtain ⟨r1,r2,r3⟩:=ih e ci _ _ Ps q3
     have Y3:off+j / P.cellsOf e*P.cellsOf e+j % P.cellsOf e=off+j:=by
      have:=Nat.div_add_mod j (P.cellsOf e)
      rw [Nat.mul_comm] at this
      omega
     rw [add_plain,Y3] at g3
     refine ⟨_,g3,?_⟩
     have e1:j=(j / P.cellsOf e)*P.cellsOf e+j % P.cellsOf e:=by
      have:=Nat.div_add_mod j (P.cellsOf e)
      rw [Nat.mul_comm] at this
      omega
     have e2:(((elems.map (·.1)).map jr).flatMap AV.cells).getD j .undef=(jr y.1).cells.getD (j % P.cellsOf e) .undef:=by
      have aR:j / P.cellsOf e < ((elems.map (·.1)).map jr).length:=by rw [hlen]; exact hq
      have hy:((elems.map (·.1)).map jr)[j / P.cellsOf e]=jr y.1:=by
       simp only [List.getElem_map]
       have:elems[j / P.cellsOf e]'(by omega)=y:=by
        have q4:elems[j / P.cellsOf e]? =some (elems[j / P.cellsOf e]'(by omega)):=by simp
        rw [q4] at q2; simpa using q2
       rw [this]
      conv=>lhs; rw [e1]
      rw [qU _ _ hels,List.drop_eq_getElem_cons aR,List.flatMap_cons,hy]
      have:j % P.cellsOf e < (jr y.1).cells.length:=by rw [r2,g1]; exact hr
      simp [List.getD,eX this]
     rw [e2]
     exact r3 _
    have:=RV.vsl (fm:=fm) (w:=w) (X:=fun _=>False) (μ:=Mu.none) ((elems.map (·.1)).map jr) none blk off (P.cellsOf e) cap
     (fun j=>if j < len*P.cellsOf e then (w.cell? ⟨blk,off+j,none⟩).getD Go.undef else Go.undef)
     (by rintro (h | ⟨_,_,h⟩) <;> simp [Mu.none] at h) hb hels (by rw [hlen]; exact Tp) (.inl rfl)
     (fun j hj=>by
      rw [hlen] at hj
      obtain ⟨v,h1,_⟩:=gA j hj
      simp only [hj,if_true,h1,Option.getD_some])
     (fun j=>by
      by_cases hj:j < len*P.cellsOf e
      ·obtain ⟨v,h1,h2⟩:=gA j hj
       simp only [hj,if_true,h1,Option.getD_some]
       exact h2
      ·have:(((elems.map (·.1)).map jr).flatMap AV.cells).getD j .undef= .undef:=by
        have hl:=jz _ hels
        rw [hlen] at hl
        rw [List.getD,cM aa]; rfl
       rw [this]; exact .undef _)
    rw [hlen] at this
    exact this
  ·rename_i fs hu
   obtain ⟨xs,m,hm,hx,gh,hxl,di⟩:=DataW.trod_struct hu h
   simp only [aL] at hx
   obtain ⟨rfl,_⟩:=hx
   obtain rfl:n=m:=by omega
   refine ⟨gh,?_⟩
   rw [←gh] at hp
   have:=(B4 n ih fs.toList xs 0 hp (by simpa using hxl) (fun i f hf=>di i f (by simpa using hf))).2
   simpa only [jr,AV.cells,List.drop_zero] using this
  ·simp at hp
end
end Go.Ab
namespace Go.Ab
open Go.RowKit Go.ChangeShapes Go.WideShapes
def Ip:List Bs->Nat
 | []=>0
 | s ::r=>s.length+Ip r
def Ev.sz (e:Ev):Nat:=e.v.sz+e.id.length+e.room.length+e.type.length+e.sender.length+e.key.length+(e.prev.length+Ip e.prev)+(e.auth.length+Ip e.auth)+e.content.sz
structure Tys (P:Program) where
 int:TypeId
 i64:TypeId
 str:TypeId
 bool:TypeId
 val:TypeId
 vals:TypeId
 mem:TypeId
 mems:TypeId
 strs:TypeId
 ev:TypeId
 evs:TypeId
 slot:TypeId
 fval:Array Field
 fmem:Array Field
 fev:Array Field
 fslot:Array Field
 uint:P.underlying int=some (.int .i64)
 ui64:P.underlying i64=some (.int .i64)
 ustr:P.underlying str=some .string
 ubool:P.underlying bool=some .bool
 uval:P.underlying val=some (.struct fval)
 uvals:P.underlying vals=some (.slice val)
 umem:P.underlying mem=some (.struct fmem)
 umems:P.underlying mems=some (.slice mem)
 ustrs:P.underlying strs=some (.slice str)
 uev:P.underlying ev=some (.struct fev)
 uevs:P.underlying evs=some (.slice ev)
 uslot:P.underlying slot=some (.struct fslot)
 tval:fval.toList.map (·.type)= [int,i64,str,vals,mems]
 tmem:fmem.toList.map (·.type)= [str,val]
 tev:fev.toList.map (·.type)= [val,str,str,str,str,str,bool,i64,i64,strs,strs,val]
 tslot:fslot.toList.map (·.type)= [str,str]
structure Bulk (H:Type) where
 B:DataW H->Nat
 L:List (DataW H)->Nat
 str: ∀b,B (.lit (.string b))=b.length+1
 int: ∀k n,B (.lit (.int k n))=1
 bool: ∀b,B (.lit (.bool b))=1
 slice: ∀a b,B (.slice a b)=L a+L b+1
 agg: ∀ps,B (.agg ps)=L ps+1
 nil:L []=0
 cons: ∀d r,L (d ::r)=B d+L r
section
variable {P:Program} {H:Type} {enc:TypeId×Value->H} {w:World} {base:Nat} {sp:Nat->Bool} {held:Bool} (T:Tys P) (K:Bulk H)
theorem Jt {t:TypeId} {k:IntKind} (hu:P.underlying t=some (.int k)) {fuel:Nat} {cs:List Value} {x:DataW H×List MemPlace} (h:DataW.trod enc P w base sp held fuel t cs=some x): ∃n:Int,jr x.1= .int k n:=by
 obtain ⟨n,_,hx,_⟩:=DataW.trod_int hu h
 subst hx
 exact ⟨n,by simp only [jr]⟩
theorem qY {fm:Nat->aA} {S:List TypeId} (hS:S.all (xn P S)=true) {t:TypeId} (ht:t∈S) {v:Value} {fuel:Nat} {x:DataW H×List MemPlace} (hv:v.cells= #[v]) (hx:(jr x.1).cells= [jr x.1])
  (h:DataW.trod enc P w base sp held fuel t v.cells.toList=some x):RV fm w (fun _=>False) Mu.none (jr x.1) v:=by
 have h2:=(W0 (fm:=fm) hS fuel t _ x.1 x.2 ht h).2.2 0
 rw [hv,hx] at h2
 exact h2
end
end Go.Ab
namespace Go.Ab
set_option maxRecDepth 100000
theorem gl (x:UInt64):x.toNat < 18446744073709551616:=x.toNat_lt
theorem DF (x:Nat) (h:x < 18446744073709551616):x >>> 63=0/\x < 9223372036854775808∨x >>> 63=1/\9223372036854775808<=x:=by
 rw [Nat.shiftRight_eq_div_pow]; omega
theorem CW (x:UInt64):(~~~x).toNat=18446744073709551615 - x.toNat:=by
 rw [UInt64.toNat_not]; rfl
def mG (x y c:UInt64):UInt64:=((x &&& y) ||| ((x ||| y) &&& ~~~(x+y+c))) >>> 63
def AL (x y b:UInt64):UInt64:=((~~~x &&& y) ||| (~~~(x ^^^ y) &&& (x - y - b))) >>> 63
theorem Vl (x y c:UInt64):(mG x y c).toNat=(((x.toNat >>> 63) &&& (y.toNat >>> 63)) ||| (((x.toNat >>> 63) ||| (y.toNat >>> 63)) &&& ((~~~(x+y+c)).toNat >>> 63))):=by
 rw [mG,UInt64.toNat_shiftRight]
 simp only [UInt64.toNat_or,UInt64.toNat_and]
 rw [show (63:UInt64).toNat % 64=63 from rfl]
 simp only [Nat.shiftRight_or_distrib,Nat.shiftRight_and_distrib]
theorem jh (x y c:UInt64) (hc:c.toNat<=1):(x+y+c).toNat+18446744073709551616*(mG x y c).toNat=x.toNat+y.toNat+c.toNat:=by
 have hx:=gl x; have hy:=gl y; have hs:=gl (x+y+c)
 have e:(x+y+c).toNat=(x.toNat+y.toNat+c.toNat) % 18446744073709551616:=by
  rw [UInt64.toNat_add,UInt64.toNat_add,Nat.mod_add_mod]
 rw [Vl,CW]
 have h3:=DF (18446744073709551615 - (x+y+c).toNat) aa
 generalize (x+y+c).toNat=s at*
 generalize x.toNat=a at*
 generalize y.toNat=b at*
 rcases DF a hx with ⟨h1,Gz⟩ | ⟨h1,Gz⟩ <;> rcases DF b hy with ⟨h2,h2'⟩ | ⟨h2,h2'⟩ <;> rcases h3 with ⟨h3,h3'⟩ | ⟨h3,h3'⟩ <;> rw [h1,h2,h3] <;> simp <;> omega
theorem kr (x y c:UInt64) (hc:c.toNat<=1):(mG x y c).toNat<=1:=by
 have:=jh x y c hc
 have:=gl x; have:=gl y
 omega
theorem QZ (x y b:UInt64):(AL x y b).toNat=((((~~~x).toNat >>> 63) &&& (y.toNat >>> 63)) ||| (((~~~(x ^^^ y)).toNat >>> 63) &&& ((x - y - b).toNat >>> 63))):=by
 rw [AL,UInt64.toNat_shiftRight]
 simp only [UInt64.toNat_or,UInt64.toNat_and]
 rw [show (63:UInt64).toNat % 64=63 from rfl]
 simp only [Nat.shiftRight_or_distrib,Nat.shiftRight_and_distrib]
theorem kp (x y b:UInt64) (hb:b.toNat<=1):(x - y - b).toNat+y.toNat+b.toNat=x.toNat+18446744073709551616*(AL x y b).toNat:=by
 have hx:=gl x; have hy:=gl y; have hs:=gl (x - y - b)
 have e:((x - y - b).toNat+y.toNat+b.toNat) % 18446744073709551616=x.toNat % 18446744073709551616:=by
  have:x - y - b+y+b=x:=by
   rw [UInt64.add_assoc,UInt64.add_comm y b,←UInt64.add_assoc,UInt64.sub_add_cancel,UInt64.sub_add_cancel]
  have:=congrArg UInt64.toNat this
  rw [UInt64.toNat_add,UInt64.toNat_add,Nat.mod_add_mod] at this
  rw [aO hx]; exact this
 have hxy:(~~~(x ^^^ y)).toNat >>> 63=1 - ((x.toNat >>> 63) ^^^ (y.toNat >>> 63)):=by
  rw [CW,UInt64.toNat_xor]
  have h:=gl (x ^^^ y)
  rw [UInt64.toNat_xor] at h
  have h2:(x.toNat ^^^ y.toNat) >>> 63=(x.toNat >>> 63) ^^^ (y.toNat >>> 63):=Nat.shiftRight_xor_distrib
  rw [←h2]
  rcases DF _ h with ⟨h1,Gz⟩ | ⟨h1,Gz⟩ <;> rw [h1] <;> rcases DF (18446744073709551615 - (x.toNat ^^^ y.toNat)) aa with ⟨k,k'⟩ | ⟨k,k'⟩ <;> rw [k] <;> omega
 rw [QZ,CW,hxy]
 have h3:=DF (x - y - b).toNat hs
 have h4:=DF (18446744073709551615 - x.toNat) aa
 generalize (x - y - b).toNat=s at*
 generalize x.toNat=a at*
 generalize y.toNat=b' at*
 rcases DF a hx with ⟨h1,Gz⟩ | ⟨h1,Gz⟩ <;> rcases DF b' hy with ⟨h2,h2'⟩ | ⟨h2,h2'⟩ <;> rcases h3 with ⟨h3,h3'⟩ | ⟨h3,h3'⟩ <;> rcases h4 with ⟨h4,h4'⟩ | ⟨h4,h4'⟩ <;> rw [h1,h2,h3,h4] <;> simp <;> omega
theorem iD (x y b:UInt64) (hb:b.toNat<=1):(AL x y b).toNat<=1:=by
 have:=kp x y b hb
 have:=gl x; have:=gl y; have:=gl (x - y - b)
 omega
def fG (x y:UInt64):UInt64:=
 let x0:=x &&& 4294967295; let x1:=x >>> 32; let y0:=y &&& 4294967295; let y1:=y >>> 32
 let t:=x1*y0+(x0*y0) >>> 32
 x1*y1+t >>> 32+((t &&& 4294967295)+x0*y1) >>> 32
theorem lo32 (x:UInt64):(x &&& 4294967295).toNat=x.toNat % 4294967296:=by
 rw [UInt64.toNat_and]; exact Nat.and_two_pow_sub_one_eq_mod _ 32
theorem hi32 (x:UInt64):(x >>> 32).toNat=x.toNat / 4294967296:=by
 rw [UInt64.toNat_shiftRight,show (32:UInt64).toNat % 64=32 from rfl,Nat.shiftRight_eq_div_pow]
theorem BE (x y:UInt64):(fG x y).toNat=x.toNat*y.toNat / 18446744073709551616:=by
 have hx:=gl x; have hy:=gl y
 simp only [fG,UInt64.toNat_add,UInt64.toNat_mul,lo32,hi32]
 generalize x.toNat=a at*
 generalize y.toNat=b at*
 have ea:a=a / 4294967296*4294967296+a % 4294967296:=by omega
 have eb:b=b / 4294967296*4294967296+b % 4294967296:=by omega
 have k1:a / 4294967296 < 4294967296:=by omega
 have k0:a % 4294967296 < 4294967296:=by omega
 have l1:b / 4294967296 < 4294967296:=by omega
 have l0:b % 4294967296 < 4294967296:=by omega
 generalize a / 4294967296=a1 at*
 generalize a % 4294967296=a0 at*
 generalize b / 4294967296=b1 at*
 generalize b % 4294967296=b0 at*
 subst ea eb
 have e:(a1*4294967296+a0)*(b1*4294967296+b0)=a1*b1*18446744073709551616+(a1*b0+a0*b1)*4294967296+a0*b0:=by grind
 rw [e]
 have m:=fun p q (hp:p < 4294967296) (hq:q < 4294967296)=>(Nat.mul_le_mul (Nat.le_sub_one_of_lt hp) (Nat.le_sub_one_of_lt hq):p*q<=_)
 have m11:=m _ _ k1 l1; have m10:=m _ _ k1 l0; have m01:=m _ _ k0 l1; have m00:=m _ _ k0 l0
 generalize a1*b1=p at*
 generalize a1*b0=q at*
 generalize a0*b1=r at*
 generalize a0*b0=s at*
 omega
theorem mul_eq (x y:UInt64):(x*y).toNat+18446744073709551616*(fG x y).toNat=x.toNat*y.toNat:=by
 rw [BE,UInt64.toNat_mul]
 have:(2:Nat) ^ 64=18446744073709551616:=rfl
 rw [this]
 exact Nat.mod_add_div _ _
def wO (p:Nat):Prop:=1 < p/\∀m,m∣p->m=1∨m=p
theorem wO.cop {p a:Nat} (h:wO p) (ha: ¬p∣a):Nat.Coprime p a:=by
 rcases h.2 _ (Nat.gcd_dvd_left p a) with e | e
 ·exact e
 ·exact absurd (e▸Nat.gcd_dvd_right p a) ha
theorem wO.mul {p a b:Nat} (h:wO p) (hab:p∣a*b):p∣a∨p∣b:=by
 by_cases ha:p∣a
 ·exact .inl ha
 ·exact .inr ((h.cop ha).dvd_of_dvd_mul_left hab)
theorem prm_of (n:Nat) (h:1 < n): ∃p,wO p/\p∣n:=by
 induction n using Nat.strongRecOn with
 | ind n ih=>
  by_cases hn:wO n
  ·exact ⟨n,hn,Nat.dvd_refl n⟩
  ·have: ∃m,m∣n/\m≠1/\m≠n:=by
    refine Classical.byContradiction fun hc=>hn ⟨h,fun m hm=> ?_⟩
    by_cases h1:m=1
    ·exact .inl h1
    ·by_cases h2:m=n
     ·exact .inr h2
     ·exact absurd ⟨m,hm,h1,h2⟩ hc
   obtain ⟨m,hm,h1,h2⟩:=this
   have h3:m<=n:=Nat.le_of_dvd aa hm
   have h4:m≠0:=by rintro rfl; simp at hm; omega
   obtain ⟨p,hp,hd⟩:=ih m aa aa
   exact ⟨p,hp,Nat.dvd_trans hd hm⟩
def ch:Nat->Nat->Nat
 | _,0=>1
 | 0,_+1=>0
 | n+1,k+1=>ch n k+ch n (k+1)
theorem Dw: ∀n k,(k+1)*ch (n+1) (k+1)=(n+1)*ch n k
 | 0,0=>rfl
 | 0,k+1=>by simp [ch]
 | n+1,0=>by
  have:=Dw n 0
  simp only [ch,Nat.zero_add,Nat.one_mul,Nat.mul_one] at this ⊢
  omega
 | n+1,k+1=>by
  have a:=Dw n k
  have b:=Dw n (k+1)
  have e:ch (n+2) (k+2)=ch (n+1) (k+1)+ch (n+1) (k+2):=rfl
  have e2:ch (n+1) (k+1)=ch n k+ch n (k+1):=rfl
  rw [e,Nat.mul_add,show k+1+1=k+2 from rfl,b,Nat.add_mul (k+1) 1,a,e2]
  simp only [Nat.add_mul,Nat.mul_add]
  omega
theorem xI: ∀n k,n < k->ch n k=0
 | 0,k+1,_=>rfl
 | n+1,k+1,h=>by rw [ch,xI n k aa,xI n (k+1) aa]
 | n,0,h=>by omega
theorem MO: ∀n,ch n n=1
 | 0=>rfl
 | n+1=>by rw [ch,MO n,xI n (n+1) aa]
def n9 (n x:Nat):Nat->Nat
 | 0=>0
 | j+1=>n9 n x j+ch n j*x ^ j
theorem Ck (n x:Nat): ∀j,n9 (n+1) x (j+1)=n9 n x (j+1)+x*n9 n x j
 | 0=>by cases n <;> simp [n9,ch]
 | j+1=>by
  have:=Ck n x j
  have e:n9 n x (j+1+1)=n9 n x (j+1)+ch n (j+1)*(x ^ j*x):=rfl
  have e1:n9 n x (j+1)=n9 n x j+ch n j*x ^ j:=rfl
  have e2:n9 (n+1) x (j+1+1)=n9 (n+1) x (j+1)+(ch n j+ch n (j+1))*(x ^ j*x):=rfl
  have k:x*(ch n j*x ^ j)=ch n j*(x ^ j*x):=by rw [Nat.mul_left_comm,Nat.mul_comm x]
  rw [e2,this,e,e1,Nat.add_mul,Nat.mul_add,k]
  omega
theorem HM (x:Nat): ∀n,n9 n x (n+1)=(x+1) ^ n
 | 0=>by simp [n9,ch]
 | n+1=>by
  rw [Ck,n9,xI n (n+1) aa,HM x n,Nat.pow_succ]
  rw [Nat.zero_mul,Nat.add_zero,Nat.mul_comm x,Nat.pow_succ,Nat.mul_add,Nat.mul_one]; omega
theorem HN {p:Nat} (hp:wO p) (x:Nat): ∀j,j < p->n9 p x (j+1) % p=1 % p
 | 0,_=>by cases p <;> simp [n9,ch]
 | j+1,h=>by
  have h1:=hp.1
  have d:p∣ch p (j+1):=by
   have e:=Dw (p - 1) j
   rw [show p - 1+1=p by omega] at e
   rcases hp.mul (e▸Nat.dvd_mul_right p _:p∣(j+1)*ch p (j+1)) with k | k
   ·have:=Nat.le_of_dvd aa k; omega
   ·exact k
  rw [n9,Nat.add_mod,HN hp x j aa,Nat.mod_eq_zero_of_dvd (Nat.dvd_trans d (Nat.dvd_mul_right _ _))]
  simp
theorem T5 {p:Nat} (hp:wO p): ∀x,x ^ p % p=x % p
 | 0=>by rw [Nat.zero_pow (by have:=hp.1; omega)]
 | x+1=>by
  have h1:=hp.1
  rw [←HM x p,n9,MO,Nat.one_mul,Nat.add_mod,T5 hp x,show n9 p x p=n9 p x (p - 1+1) by rw [show p - 1+1=p by omega],HN hp x (p - 1) aa,←Nat.add_mod,Nat.add_comm]
theorem xB {p:Nat} (hp:wO p) {x:Nat} (hx: ¬p∣x):x ^ (p - 1) % p=1:=by
 have h1:=hp.1
 have f:=T5 hp x
 have hx0:0 < x:=by
  rcases Nat.eq_zero_or_pos x with rfl | h; · simp at hx
  ·exact h
 have YT:0 < x ^ (p - 1):=Nat.pow_pos hx0
 have e:x ^ p=x ^ (p - 1)*x:=by rw [←Nat.pow_succ,Nat.succ_eq_add_one,show p - 1+1=p by omega]
 have d:p∣(x ^ (p - 1) - 1)*x:=by
  rw [Nat.sub_mul,←e,Nat.one_mul]
  exact Nat.dvd_of_mod_eq_zero (Nat.sub_mod_eq_zero_of_mod_eq f)
 rcases hp.mul d with k | k
 ·obtain ⟨c,hc⟩:=k
  rw [show x ^ (p - 1)=1+p*c by omega,Nat.add_mul_mod_self_left,aO h1]
 ·exact absurd k hx
theorem XH (p b:Nat) (m n:Nat):b ^ m % p=1 % p->b ^ n % p=1 % p->b ^ (Nat.gcd m n) % p=1 % p:=by
 induction m,n using Nat.gcd.induction with
 | H0 n=>intro _ h; simpa using h
 | H1 m n hm ih=>
  intro h k
  rw [Nat.gcd_rec]
  refine ih ?_ h
  have e:b ^ n=(b ^ m) ^ (n / m)*b ^ (n % m):=by rw [←Nat.pow_mul,←Nat.pow_add,Nat.div_add_mod]
  rw [e,Nat.mul_mod,Nat.pow_mod,h,←Nat.pow_mod,Nat.one_pow,←Nat.mul_mod,Nat.one_mul] at k
  exact k
theorem pock {N q p a:Nat} (hN:1 < N) (hq:wO q) (hp:wO p) (hpN:p∣N) (hd:q∣N - 1) (h1:a ^ (N - 1) % N=1) (h2:Nat.gcd (a ^ ((N - 1) / q) % N+(N - 1)) N=1):q∣p - 1:=by
 refine Classical.byContradiction fun hc=> ?_
 have Ie:=hq.cop hc
 have YV:=hp.1
 have md: ∀x y,x % N=y % N->x % p=y % p:=fun x y h=>by rw [←Nat.mod_mod_of_dvd x hpN,h,Nat.mod_mod_of_dvd y hpN]
 have e1:(a ^ ((N - 1) / q)) ^ q % p=1 % p:=by
  rw [←Nat.pow_mul,Nat.div_mul_cancel hd]; exact md _ _ (by rw [h1,aO hN])
 have na: ¬p∣a ^ ((N - 1) / q):=fun h=>by
  have:p∣(a ^ ((N - 1) / q)) ^ q:=by
   have V5:=hq.1
   generalize a ^ ((N - 1) / q)=b at*
   rw [show q=q - 1+1 by omega,Nat.pow_succ]; exact Nat.dvd_trans h (Nat.dvd_mul_left _ _)
  rw [Nat.mod_eq_zero_of_dvd this,aO YV] at e1; omega
 have e2:=xB hp na
 have e3:=XH p _ _ _ e1 (by rw [e2,aO YV])
 rw [Ie,Nat.pow_one] at e3
 have:p∣a ^ ((N - 1) / q) % N+(N - 1):=by
  apply Nat.dvd_of_mod_eq_zero
  rw [Nat.add_mod,Nat.mod_mod_of_dvd _ hpN,e3,←Nat.add_mod,show 1+(N - 1)=N by omega]
  exact Nat.mod_eq_zero_of_dvd hpN
 have g:p∣1:=h2▸Nat.dvd_gcd this hpN
 have:=Nat.le_of_dvd aa g
 omega
theorem xk {N F:Nat} (hN:1 < N) (hF:N < (F+1)*(F+1)) (h: ∀p,wO p->p∣N->F∣p - 1):wO N:=by
 refine ⟨hN,fun m hm=> ?_⟩
 obtain ⟨k,hk⟩:=hm
 have fF: ∀m k,N=m*k->m≠1->F+1<=m:=by
  intro m k hk h1
  have h0:m≠0:=by rintro rfl; omega
  obtain ⟨p,hp,hd⟩:=prm_of m aa
  have a:=Nat.le_of_dvd (by have:=hp.1; omega) (h p hp (Nat.dvd_trans hd ⟨k,hk⟩))
  have b:=Nat.le_of_dvd aa hd
  have:=hp.1
  omega
 by_cases h1:m=1
 ·exact .inl h1
 ·by_cases h2:k=1
  ·exact .inr (by rw [hk,h2,Nat.mul_one])
  ·have a:=fF m k hk h1
   have b:=fF k m (by rw [hk,Nat.mul_comm]) h2
   have:=Nat.mul_le_mul a b
   omega
def Mf (n:Nat):Nat->Bool
 | 0=>true
 | k+1=>(n % (k+2) != 0) && Mf n k
theorem sB (n:Nat): ∀k,Mf n k=true->∀m,2<=m->m < k+2->¬m∣n
 | 0,_,m,h2,h3,_=>by omega
 | k+1,h,m,h2,h3,hd=>by
  rw [Mf,ak,bne_iff_ne] at h
  by_cases e:m=k+2
  ·subst e; exact h.1 (Nat.mod_eq_zero_of_dvd hd)
  ·exact sB n k h.2 m h2 aa hd
theorem qG (n k:Nat) (h1:1 < n) (hk:n < (k+2)*(k+2)) (h:Mf n k=true):wO n:=by
 refine ⟨h1,fun m hm=> ?_⟩
 obtain ⟨c,hc⟩:=hm
 have Pm:m≠0:=by rintro rfl; omega
 have lF:c≠0:=by rintro rfl; omega
 by_cases e1:m=1
 ·exact .inl e1
 by_cases e2:c=1
 ·exact .inr (by rw [hc,e2,Nat.mul_one])
 exfalso
 have a: ¬m < k+2:=fun hl=>sB n k h m aa hl ⟨c,hc⟩
 have b: ¬c < k+2:=fun hl=>sB n k h c aa hl ⟨m,by rw [hc,Nat.mul_comm]⟩
 have:=Nat.mul_le_mul (Nat.not_lt.1 a) (Nat.not_lt.1 b)
 omega
def stN (h:Nat) (f:Nat->Nat):Nat:=match h with
 | 0=>f 0
 | k+1=>f (k+1)
theorem stN_eq (h:Nat) (f:Nat->Nat):stN h f=f h:=by cases h <;> rfl
def pw (n a:Nat):Nat->Nat->Nat
 | 0,_=>1 % n
 | f+1,e=>stN (pw n a f (e / 2)) fun h=>if e % 2=1 then h*h % n*a % n else h*h % n
theorem Br (n a:Nat): ∀f e,e < 2 ^ f->pw n a f e=a ^ e % n
 | 0,e,h=>by rw [show e=0 by simpa using h]; rfl
 | f+1,e,h=>by
  rw [pw,stN_eq,Br n a f (e / 2) (by rw [Nat.pow_succ] at h; omega)]
  have e1:a ^ (e / 2) % n*(a ^ (e / 2) % n) % n=a ^ (2*(e / 2)) % n:=by
   rw [←Nat.mul_mod,←Nat.pow_add,Nat.two_mul]
  split
  ·rw [e1,Nat.mod_mul_mod,←Nat.pow_succ,show (2*(e / 2)).succ=e by omega]
  ·rw [e1,show 2*(e / 2)=e by omega]
theorem y8 {N q p:Nat} (a:Nat) (f:Nat) (hq:wO q) (hf:N < 2 ^ f) (hN:1 < N) (hd:(N - 1) % q=0) (h1:pw N a f (N - 1)=1) (h2:Nat.gcd (pw N a f ((N - 1) / q)+(N - 1)) N=1) (hp:wO p) (hpN:p∣N):q∣p - 1:=by
 rw [Br _ _ _ _ aa] at h1
 rw [Br _ _ _ _ (Nat.lt_of_le_of_lt (Nat.div_le_self _ _) aa)] at h2
 exact pock hN hq hp hpN (Nat.dvd_of_mod_eq_zero hd) h1 h2
theorem tn {q r p:Nat} (hq:wO q) (hr:wO r) (hqr:q < r) (h1:q∣p - 1) (h2:r∣p - 1):q*r∣p - 1:=
 Nat.Coprime.mul_dvd_of_dvd_of_dvd (hq.cop fun h=>by
  rcases hr.2 _ h with e | e
  ·have:=hq.1; omega
  ·omega) h1 h2
theorem Bv:wO 57467:=qG 57467 239 (by decide) (by decide+kernel) (by decide+kernel)
theorem Bu:wO 75707:=qG 75707 275 (by decide) (by decide+kernel) (by decide+kernel)
theorem L0:wO 127:=qG 127 11 (by decide) (by decide+kernel) (by decide+kernel)
theorem we:wO 8574133:=qG 8574133 2928 (by decide) (by decide+kernel) (by decide+kernel)
theorem Sc:wO 1919519569386763:=xk (F:=1088914891) (by decide) (by decide+kernel) fun p hp hd=>tn L0 we (by decide) (y8 2 51 L0 (by decide+kernel) (by decide+kernel) (by decide+kernel) (by decide+kernel) (by decide+kernel) hp hd) (y8 2 51 we (by decide+kernel) (by decide+kernel) (by decide+kernel) (by decide+kernel) (by decide+kernel) hp hd)
theorem Sd:wO 75445702479781427272750846543864801:=xk (F:=145321068039563666441) (by decide) (by decide+kernel) fun p hp hd=>tn Bu Sc (by decide) (y8 2 116 Bu (by decide+kernel) (by decide+kernel) (by decide+kernel) (by decide+kernel) (by decide+kernel) hp hd) (y8 2 116 Sc (by decide+kernel) (by decide+kernel) (by decide+kernel) (by decide+kernel) (by decide+kernel) hp hd)
theorem prm_q1:wO 74058212732561358302231226437062788676166966415465897661863160754340907:=xk (F:=4335638184405599281083172898336278519067) (by decide) (by decide+kernel) fun p hp hd=>tn Bv Sd (by decide) (y8 2 236 Bv (by decide+kernel) (by decide+kernel) (by decide+kernel) (by decide+kernel) (by decide+kernel) hp hd) (y8 2 236 Sd (by decide+kernel) (by decide+kernel) (by decide+kernel) (by decide+kernel) (by decide+kernel) hp hd)
abbrev PP:Nat:=57896044618658097711785492504343953926634992332820282019728792003956564819949
theorem CP:wO 57896044618658097711785492504343953926634992332820282019728792003956564819949:=xk (F:=74058212732561358302231226437062788676166966415465897661863160754340907) (by decide) (by decide+kernel) fun p hp hd=>(y8 2 255 prm_q1 (by decide+kernel) (by decide+kernel) (by decide+kernel) (by decide+kernel) (by decide+kernel) hp hd)
instance :NeZero PP:=⟨by decide⟩
abbrev K:Type:=Fin PP
def dK:K:=⟨37095705934669439343138083508754565189542113879843219016388785533085940283555,by decide⟩
def iK:K:=⟨19681161376707505956807079304988542015446066515923890162744021073123829784752,by decide⟩
theorem Tb:iK*iK= -1:=by decide+kernel
theorem HX {a:K} (h:a≠0): ¬PP∣a.val:=fun k=>h (Fin.ext (by
 have:=a.isLt
 rw [Fin.val_zero]
 exact Nat.eq_zero_of_dvd_of_lt k this))
theorem vJ {a b:K} (h:a*b=0):a=0∨b=0:=by
 have h1:PP∣a.val*b.val:=Nat.dvd_of_mod_eq_zero (by rw [←Fin.val_mul,h]; rfl)
 rcases CP.mul h1 with k | k
 ·exact .inl (Classical.byContradiction fun c=>HX c k)
 ·exact .inr (Classical.byContradiction fun c=>HX c k)
theorem eU {a b:K} (h:a≠0) (k:b≠0):a*b≠0:=fun c=>(vJ c).elim h k
def cY (a:K):K:=⟨a.val ^ (PP - 2) % PP,aZ _ (by decide)⟩
theorem cT {a:K} (h:a≠0):a*cY a=1:=by
 have f: ∀M,M+1=PP - 1->a.val*(a.val ^ M % PP) % PP=1:=fun M hM=>by
  have:=xB CP (HX h)
  rewrite [←hM] at this
  rewrite [Nat.mul_mod_mod,Nat.mul_comm,←Nat.pow_succ]
  exact this
 apply Fin.ext
 rewrite [Fin.val_mul,cY]
 exact f _ (by decide+kernel)
theorem HY {a b c:K} (h:c≠0) (k:c*a=c*b):a=b:=by
 have:=cT h
 grobner
def fy (a:K) (n:Nat):K:=⟨a.val ^ n % PP,aZ _ (by decide)⟩
theorem d_pow:pw PP dK.val 256 ((PP - 1) / 2)=PP - 1:=by decide+kernel
theorem d_nsq {s:K} (h:s*s=dK):False:=by
 have h0:s≠0:=by rintro rfl; revert h; decide+kernel
 have f: ∀M,M=PP - 1->s.val ^ M % PP=1:=fun M hM=>by
  have:=xB CP (HX h0)
  rewrite [←hM] at this
  exact this
 have e:dK.val=s.val*s.val % PP:=by rw [←h,Fin.val_mul]
 have key: ∀N:Nat,N < 2 ^ 256->2*N=PP - 1->pw PP dK.val 256 N=PP - 1->False:=fun N hN h2 p=>by
  rewrite [Br _ _ _ _ hN,e,←Nat.pow_mod,←Nat.pow_two,←Nat.pow_mul,f _ h2] at p
  revert p; decide+kernel
 exact key _ (by decide+kernel) (by decide+kernel) d_pow
theorem UD {a b:K} (h:a*a=dK*b*b):b=0:=by
 refine Classical.byContradiction fun hb=> ?_
 have:=cT hb
 exact d_nsq (s:=a*cY b) (by grobner)
def A9 (x y:K):Prop:=y*y=1+dK*x*x*y*y+x*x
theorem A9.neg {x y:K} (h:A9 x y):A9 (-x) y:=by unfold A9 at*; grobner
theorem complete {x1 y1 x2 y2:K} (h1:A9 x1 y1) (h2:A9 x2 y2) {e:K} (he:e=dK*x1*x2*y1*y2):e*e≠1:=fun hs=>by
 unfold A9 at h1 h2
 have hi:=Tb
 generalize hd:dK=d at*
 generalize iK=i at*
 have ns: ∀a b:K,a*a=d*b*b->b=0:=fun a b h=>UD (hd▸h)
 have n1:(1:K)≠0:=by decide+kernel
 have hx:x1*y1≠0:=fun c=>n1 (by grobner)
 have k1:=ns (i*x1+e*y1) (x1*y1*(i*x2+y2)) (by grobner)
 have k2:=ns (i*x1 - e*y1) (x1*y1*(i*x2 - y2)) (by grobner)
 have g1:=(vJ k1).resolve_left hx
 have g2:=(vJ k2).resolve_left hx
 have h22:(2:K)*y2=0:=by grobner
 have y0:y2=0:=(vJ h22).resolve_left (by decide+kernel)
 exact n1 (by grobner)
theorem Hy {x1 y1 x2 y2:K} (h1:A9 x1 y1) (h2:A9 x2 y2):1+dK*x1*x2*y1*y2≠0:=fun c=>complete h1 h2 rfl (by grobner)
theorem Hx {x1 y1 x2 y2:K} (h1:A9 x1 y1) (h2:A9 x2 y2):1 - dK*x1*x2*y1*y2≠0:=fun c=>complete h1 h2 rfl (by grobner)
def fZ (p q:K×K):K×K:=
 ((p.1*q.2+q.1*p.2)*cY (1+dK*p.1*q.1*p.2*q.2),(p.2*q.2+p.1*q.1)*cY (1 - dK*p.1*q.1*p.2*q.2))
def On (p:K×K):Prop:=A9 p.1 p.2
theorem I3 {p q:K×K} (hp:On p) (hq:On q):On (fZ p q):=by
 obtain ⟨x1,y1⟩:=p; obtain ⟨x2,y2⟩:=q
 have hu:=cT (Hy hp hq)
 have hv:=cT (Hx hp hq)
 simp only [On,fZ,A9] at*
 generalize cY _=u at*
 generalize cY _=v at*
 generalize dK=d at*
 grobner
theorem vI (p q:K×K):fZ p q=fZ q p:=by
 obtain ⟨x1,y1⟩:=p; obtain ⟨x2,y2⟩:=q
 have e:dK*x1*x2*y1*y2=dK*x2*x1*y2*y1:=by grobner
 simp only [fZ,e,aL]
 exact ⟨by grobner,by grobner⟩
def gP (p:K×K):K×K:=(-p.1,p.2)
def kW:K×K:=(0,1)
theorem Yj:On kW:=by simp only [On,A9,kW]; grobner
theorem vh {p:K×K} (h:On p):On (gP p):=A9.neg h
theorem Vj (p q:K×K):fZ (gP p) (gP q)=gP (fZ p q):=by
 obtain ⟨x1,y1⟩:=p; obtain ⟨x2,y2⟩:=q
 have e:dK* -x1* -x2*y1*y2=dK*x1*x2*y1*y2:=by grobner
 simp only [fZ,gP,e,aL]
 exact ⟨by grobner,by grobner⟩
theorem inv_one:cY 1=1:=by
 have:=cT (a:=1) (by decide+kernel)
 grobner
theorem add_zero' (p:K×K):fZ p kW=p:=by
 obtain ⟨x,y⟩:=p
 have e1:1+dK*x*0*y*1=1:=by grobner
 have e2:1 - dK*x*0*y*1=1:=by grobner
 simp only [fZ,kW,e1,e2,inv_one,aL]
 exact ⟨by grobner,by grobner⟩
theorem SG {p:K×K} (h:On p):fZ (gP p) p=kW:=by
 have d1:=cT (Hy (vh h) h)
 have d2:=cT (Hx (vh h) h)
 obtain ⟨x,y⟩:=p
 simp only [fZ,kW,gP,On,A9,aL] at*
 generalize cY _=u at*
 generalize cY _=v at*
 generalize dK=d at*
 exact ⟨by grobner,by grobner⟩
theorem aaa (d x1 y1 x2 y2 x3 y3 A B k A' B' k':K) (h1:y1*y1=1+d*x1*x1*y1*y1+x1*x1) (h2:y2*y2=1+d*x2*x2*y2*y2+x2*x2) (h3:y3*y3=1+d*x3*x3*y3*y3+x3*x3)
  (hA:A=x1*y2+x2*y1) (hB:B=y1*y2+x1*x2) (hk:k=d*x1*x2*y1*y2) (hA':A'=x2*y3+x3*y2) (hB':B'=y2*y3+x2*x3) (hk':k'=d*x2*x3*y2*y3) :
  (A*(1 - k)*y3+x3*B*(1+k))*((1+k')*(1 - k')+d*x1*A'*y1*B')=(x1*B'*(1+k')+A'*(1 - k')*y1)*((1+k)*(1 - k)+d*A*x3*B*y3):=by
 subst hA hB hk hA' hB' hk'
 grobner
theorem Z9 (d x1 y1 x2 y2 x3 y3 A B k A' B' k':K) (h1:y1*y1=1+d*x1*x1*y1*y1+x1*x1) (h2:y2*y2=1+d*x2*x2*y2*y2+x2*x2) (h3:y3*y3=1+d*x3*x3*y3*y3+x3*x3)
  (hA:A=x1*y2+x2*y1) (hB:B=y1*y2+x1*x2) (hk:k=d*x1*x2*y1*y2) (hA':A'=x2*y3+x3*y2) (hB':B'=y2*y3+x2*x3) (hk':k'=d*x2*x3*y2*y3) :
  (B*(1+k)*y3+A*(1 - k)*x3)*((1+k')*(1 - k') - d*x1*A'*y1*B')=(y1*B'*(1+k')+x1*A'*(1 - k'))*((1+k)*(1 - k) - d*A*x3*B*y3):=by
 subst hA hB hk hA' hB' hk'
 grobner
theorem fac1 {d u v k A B x y:K} (hu:(1+k)*u=1) (hv:(1 - k)*v=1):(1+k)*(1 - k)+d*A*x*B*y=(1+k)*(1 - k)*(1+d*(A*u)*x*(B*v)*y):=by grobner
theorem fac2 {d u v k A B x y:K} (hu:(1+k)*u=1) (hv:(1 - k)*v=1):(1+k)*(1 - k) - d*A*x*B*y=(1+k)*(1 - k)*(1 - d*(A*u)*x*(B*v)*y):=by grobner
theorem fac3 {d u v k A B x y:K} (hu:(1+k)*u=1) (hv:(1 - k)*v=1):(1+k)*(1 - k)+d*x*A*y*B=(1+k)*(1 - k)*(1+d*x*(A*u)*y*(B*v)):=by grobner
theorem fac4 {d u v k A B x y:K} (hu:(1+k)*u=1) (hv:(1 - k)*v=1):(1+k)*(1 - k) - d*x*A*y*B=(1+k)*(1 - k)*(1 - d*x*(A*u)*y*(B*v)):=by grobner
theorem num1 {u v k A B x y:K} (hu:(1+k)*u=1) (hv:(1 - k)*v=1):A*(1 - k)*y+x*B*(1+k)=(1+k)*(1 - k)*(A*u*y+x*(B*v)):=by grobner
theorem num2 {u v k A B x y:K} (hu:(1+k)*u=1) (hv:(1 - k)*v=1):B*(1+k)*y+A*(1 - k)*x=(1+k)*(1 - k)*(B*v*y+A*u*x):=by grobner
theorem num3 {u v k A B x y:K} (hu:(1+k)*u=1) (hv:(1 - k)*v=1):x*B*(1+k)+A*(1 - k)*y=(1+k)*(1 - k)*(x*(B*v)+A*u*y):=by grobner
theorem num4 {u v k A B x y:K} (hu:(1+k)*u=1) (hv:(1 - k)*v=1):y*B*(1+k)+x*A*(1 - k)=(1+k)*(1 - k)*(y*(B*v)+x*(A*u)):=by grobner
theorem T4 {g h w w' e e' s s':K} (hs:e*s=1) (Ti:e'*s'=1) (X:w*g*(w'*e')=w'*h*(w*e)):w*e*(w'*e')*(g*s)=w*e*(w'*e')*(h*s'):=by grobner
theorem Ao {p q r:K×K} (hp:On p) (hq:On q) (hr:On r):fZ (fZ p q) r=fZ p (fZ q r):=by
 have hpq:=I3 hp hq
 have hqr:=I3 hq hr
 have s1:=Hy hpq hr
 have s2:=Hx hpq hr
 have t1:=Hy hp hqr
 have t2:=Hx hp hqr
 have a1:=Hy hp hq
 have a2:=Hx hp hq
 have b1:=Hy hq hr
 have b2:=Hx hq hr
 obtain ⟨x1,y1⟩:=p; obtain ⟨x2,y2⟩:=q; obtain ⟨x3,y3⟩:=r
 have X:=aaa dK x1 y1 x2 y2 x3 y3 _ _ _ _ _ _ hp hq hr rfl rfl rfl rfl rfl rfl
 have Y:=Z9 dK x1 y1 x2 y2 x3 y3 _ _ _ _ _ _ hp hq hr rfl rfl rfl rfl rfl rfl
 simp only [fZ,aL] at*
 have hu:=cT a1; have hv:=cT a2; have hp:=cT b1; have hq:=cT b2
 have hs:=cT s1; have ht:=cT s2; have Ti:=cT t1; have ht':=cT t2
 generalize cY (1+dK*x1*x2*y1*y2)=u at*
 generalize cY (1 - dK*x1*x2*y1*y2)=v at*
 generalize cY (1+dK*x2*x3*y2*y3)=p at*
 generalize cY (1 - dK*x2*x3*y2*y3)=q at*
 generalize hA:x1*y2+x2*y1=A at*
 generalize hB:y1*y2+x1*x2=B at*
 generalize hA':x2*y3+x3*y2=A' at*
 generalize hB':y2*y3+x2*x3=B' at*
 generalize hk:dK*x1*x2*y1*y2=k at*
 generalize hk':dK*x2*x3*y2*y3=k' at*
 generalize cY _=s at*
 generalize cY _=t at*
 generalize cY _=s' at*
 generalize cY _=t' at*
 have n1:(1+k)*(1 - k)≠0:=eU a1 a2
 have n2:(1+k')*(1 - k')≠0:=eU b1 b2
 have D1:= @fac1 dK u v k A B x3 y3 hu hv
 have D2:= @fac2 dK u v k A B x3 y3 hu hv
 have D3:= @fac3 dK p q k' A' B' x1 y1 hp hq
 have D4:= @fac4 dK p q k' A' B' x1 y1 hp hq
 have m1:=eU n1 s1
 have m2:=eU n1 s2
 have m3:=eU n2 t1
 have m4:=eU n2 t2
 rw [D3,D1] at X
 rw [D4,D2] at Y
 clear D1 D2 D3 D4
 have N1:= @num1 u v k A B x3 y3 hu hv
 have N2:= @num2 u v k A B x3 y3 hu hv
 have N3:= @num3 p q k' A' B' x1 y1 hp hq
 have N4:= @num4 p q k' A' B' x1 y1 hp hq
 rw [N1,N3] at X
 rw [N2,N4] at Y
 exact ⟨HY (eU m1 m3) (T4 hs Ti X),HY (eU m2 m4) (T4 ht ht' Y)⟩
structure Wd where
 x:K
 y:K
 z:K
 t:K
def A8 (w:Wd) (p:K×K):Prop:=w.z≠0/\w.x=p.1*w.z/\w.y=p.2*w.z/\w.t=p.1*p.2*w.z
def nD (p q:Wd):Wd:=
 let a:=(p.y - p.x)*(q.y - q.x); let b:=(p.y+p.x)*(q.y+q.x)
 let c:=p.t*q.t*dK; let d:=p.z*q.z
 let e:=b - a; let f:=d+d - (c+c); let g:=d+d+(c+c); let h:=b+a
 ⟨e*f,g*h,f*g,e*h⟩
def Aa (p:Wd):Wd:=
 let a:=p.x*p.x; let b:=p.y*p.y; let c:=p.z*p.z; let s:=p.x+p.y
 let e:=s*s - a - b; let g:=b - a; let f:=g - (c+c); let h:=0 - a - b
 ⟨e*f,g*h,f*g,e*h⟩
theorem two_ne:(2:K)≠0:=by decide+kernel
theorem tf {w w':Wd} {p p':K×K} (h:A8 w p) (h':A8 w' p') (o:On p) (o':On p'):A8 (nD w w') (fZ p p'):=by
 have n1:=Hy o o'
 have n2:=Hx o o'
 have hu:=cT n1
 have hv:=cT n2
 obtain ⟨x,y⟩:=p; obtain ⟨x',y'⟩:=p'; obtain ⟨X,Y,Z,T⟩:=w; obtain ⟨X',Y',Z',T'⟩:=w'
 obtain ⟨hz,h1,h2,h3⟩:=h; obtain ⟨hz',Gz,h2',h3'⟩:=h'
 simp only at*
 subst h1 h2 h3 Gz h2' h3'
 clear o o'
 have nz:2*(Z*Z')≠0:=eU two_ne (eU hz hz')
 have m1:=eU nz n1
 have m2:=eU nz n2
 have ef:Z*Z'+Z*Z' - (x*y*Z*(x'*y'*Z')*dK+x*y*Z*(x'*y'*Z')*dK)=2*(Z*Z')*(1 - dK*x*x'*y*y'):=by clear hu hv; grobner
 have eg:Z*Z'+Z*Z'+(x*y*Z*(x'*y'*Z')*dK+x*y*Z*(x'*y'*Z')*dK)=2*(Z*Z')*(1+dK*x*x'*y*y'):=by clear hu hv ef; grobner
 simp only [A8,nD,fZ,ef,eg]
 clear ef eg
 generalize cY _=u at*
 generalize cY _=v at*
 refine ⟨eU m2 m1,?_,?_,?_⟩
 ·clear hv m1 m2 n1 n2 nz; generalize 1 - dK*x*x'*y*y'=g at*; grobner
 ·clear hu m1 m2 n1 n2 nz; generalize 1+dK*x*x'*y*y'=g at*; grobner
 ·clear m1 m2 n1 n2 nz
  generalize 1 - dK*x*x'*y*y'=g at*; generalize 1+dK*x*x'*y*y'=f at*
  grobner
theorem W6 {w:Wd} {p:K×K} (h:A8 w p) (o:On p):A8 (Aa w) (fZ p p):=by
 have n1:=Hy o o
 have n2:=Hx o o
 have hu:=cT n1
 have hv:=cT n2
 obtain ⟨x,y⟩:=p; obtain ⟨X,Y,Z,T⟩:=w
 obtain ⟨hz,h1,h2,h3⟩:=h
 simp only [On,A9] at*
 subst h1 h2 h3
 have nz:Z*Z≠0:=eU hz hz
 have m1:=eU nz n1
 have m2:=eU nz n2
 have eg:y*Z*(y*Z) - x*Z*(x*Z)=Z*Z*(1+dK*x*x*y*y):=by clear hu hv; grobner
 have ef:Z*Z*(1+dK*x*x*y*y) - (Z*Z+Z*Z)= - (Z*Z*(1 - dK*x*x*y*y)):=by clear hu hv eg; grobner
 have nf: - (Z*Z*(1 - dK*x*x*y*y))≠0:=fun c=>m2 (by clear hu hv ef eg o; grobner)
 simp only [A8,Aa,fZ,eg,ef]
 clear ef eg
 generalize cY _=u at*
 generalize cY _=v at*
 refine ⟨eU nf m1,?_,?_,?_⟩
 ·clear hv m1 m2 n1 n2 nz nf o; generalize 1 - dK*x*x*y*y=g at*; generalize 1+dK*x*x*y*y=f at*; grobner
 ·clear hu m1 m2 n1 n2 nz nf o; generalize 1+dK*x*x*y*y=g at*; generalize 1 - dK*x*x*y*y=f at*; grobner
 ·clear m1 m2 n1 n2 nz nf o
  generalize 1 - dK*x*x*y*y=g at*; generalize 1+dK*x*x*y*y=f at*
  grobner
def bX (p:K×K):Nat->K×K
 | 0=>kW
 | n+1=>fZ (bX p n) p
theorem jj {p:K×K} (h:On p): ∀n,On (bX p n)
 | 0=>Yj
 | n+1=>I3 (jj h n) h
theorem NO (p:K×K):fZ kW p=p:=by rw [vI,add_zero']
theorem p9 {p:K×K} (h:On p) (m:Nat): ∀n,bX p (m+n)=fZ (bX p m) (bX p n)
 | 0=>by rw [Nat.add_zero,bX,add_zero']
 | n+1=>by rw [←Nat.add_assoc,bX,p9 h m n,bX,Ao (jj h m) (jj h n) h]
theorem BD: ∀n,bX kW n=kW
 | 0=>rfl
 | n+1=>by rw [bX,BD n,add_zero']
theorem zg {p:K×K} (h:On p) (m:Nat): ∀n,bX p (m*n)=bX (bX p m) n
 | 0=>rfl
 | n+1=>by rw [Nat.mul_succ,p9 h,zg h m n,bX]
theorem FW {p:K×K}: ∀n,bX (gP p) n=gP (bX p n)
 | 0=>by simp only [bX,gP,kW,aL]; exact ⟨by grobner,trivial⟩
 | n+1=>by rw [bX,FW n,Vj,bX]
theorem mul_two {p:K×K} (h:On p) (n:Nat):bX p (2*n)=fZ (bX p n) (bX p n):=by rw [Nat.two_mul,p9 h]
def gZ:Wd:=⟨0,1,1,0⟩
theorem Fi:A8 gZ kW:=⟨by decide+kernel,by simp only [kW,gZ]; grobner,by simp only [kW,gZ]; grobner,by simp only [kW,gZ]; grobner⟩
def gR (p:K×K):Wd:=⟨p.1,p.2,1,p.1*p.2⟩
theorem nP (p:K×K):A8 (gR p) p:=⟨by simp only [gR]; decide+kernel,by simp only [gR]; grobner,by simp only [gR]; grobner,by simp only [gR]; grobner⟩
def An (w:Wd):K×K:=(w.x*cY w.z,w.y*cY w.z)
theorem xh {w:Wd} {p:K×K} (h:A8 w p):An w=p:=by
 obtain ⟨hz,h1,h2,_⟩:=h
 have:=cT hz
 obtain ⟨x,y⟩:=p
 simp only [An,h1,h2,aL]
 exact ⟨by clear h1 h2; grobner,by clear h1 h2; grobner⟩
def jW (w:Wd) (k:Nat):Nat->Wd->Wd
 | 0,s=>s
 | n+1,s=>jW w k n (if k / 2 ^ n % 2=1 then nD (Aa s) w else Aa s)
theorem Bk {w:Wd} {p:K×K} (h:A8 w p) (o:On p) (k:Nat): ∀n s,A8 s (bX p (k / 2 ^ n))->A8 (jW w k n s) (bX p k)
 | 0,s,hs=>by simpa [jW] using hs
 | n+1,s,hs=>by
  rw [jW]
  apply Bk h o k n
  have e:k / 2 ^ n=2*(k / 2 ^ (n+1))+k / 2 ^ n % 2:=by
   rw [Nat.pow_succ,←ee]; omega
  have d:=W6 hs (jj o _)
  rw [←mul_two o] at d
  split
  ·rename_i hb
   rw [e,hb]
   exact tf d h (jj o _) o
  ·rename_i hb
   rw [e,show k / 2 ^ n % 2=0 by omega]
   exact d
theorem LD {w:Wd} {p:K×K} (h:A8 w p) (o:On p) (k:Nat) (hk:k < 2 ^ 256):A8 (jW w k 256 gZ) (bX p k):=
 Bk h o k 256 _ (by rw [Nat.div_eq_of_lt hk]; exact Fi)
theorem tq (a:K) (n:Nat):(fy a n).val=a.val ^ n % PP:=rfl
theorem lD (a:K):fy a 0=1:=Fin.ext (by rw [tq,Nat.pow_zero]; rfl)
theorem jy (a:K) (n:Nat):fy a (n+1)=fy a n*a:=Fin.ext (by rw [Fin.val_mul,tq,tq,Nat.pow_succ,Nat.mod_mul_mod])
theorem kC (a:K) (m:Nat): ∀n,fy a (m+n)=fy a m*fy a n
 | 0=>by rw [Nat.add_zero,lD]; grobner
 | n+1=>by rw [←Nat.add_assoc,jy,kC a m n,jy]; grobner
theorem XI (a:K) (n:Nat):fy (a*a) n=fy a n*fy a n:=by
 induction n with
 | zero=>rw [lD,lD]; grobner
 | succ n ih=>rw [jy,ih,jy]; grobner
theorem Sh (a:K):fy a (PP - 2)=cY a:=rfl
def powE (a:K) (n:Nat):K:=Fin.ofNat PP (pw PP a.val 256 n)
theorem CQ (a:K) {n:Nat} (h:n < 2 ^ 256):powE a n=fy a n:=Fin.ext (by
 rw [powE,Br _ _ _ _ h,tq]; exact Nat.mod_mod _ _)
def ug:Nat:=(PP+3) / 8
def pg (a:K):Option K:=
 let r:=fy a ug
 let s:=if r*r=a then r else r*iK
 if s*s=a then some (if s.val % 2=1 then 0 - s else s) else none
theorem K_odd {s:K} (h:s.val % 2=1):(0 - s).val % 2=0:=by
 have:=s.isLt
 have e:(0 - s).val=PP - s.val:=by
  rw [Fin.sub_def]
  show (PP - s.val+0) % PP=_
  rw [Nat.add_zero,aO aa]
 have:PP % 2=1:=rfl
 omega
theorem K_even {s:K} (h:s.val % 2=0) (h0:s≠0):(0 - s).val % 2=1:=by
 have:=s.isLt
 have n0:s.val≠0:=fun c=>h0 (Fin.ext (by rw [c]; rfl))
 have e:(0 - s).val=PP - s.val:=by
  rw [Fin.sub_def]
  show (PP - s.val+0) % PP=_
  rw [Nat.add_zero,aO aa]
 have:PP % 2=1:=rfl
 omega
theorem Iz {a r:K} (h:pg a=some r):r*r=a/\r.val % 2=0:=by
 unfold pg at h
 revert h
 generalize fy a ug=r0
 intro h
 simp only at h
 generalize (if r0*r0=a then r0 else r0*iK)=s at h
 split at h
 ·rename_i hs
  split at h
  ·rename_i ho
   cases h
   exact ⟨by grobner,K_odd ho⟩
  ·cases h
   exact ⟨hs,by omega⟩
 ·cases h
theorem TD (s:K) (h:s≠0):fy s ((PP - 1) / 2)=1∨fy s ((PP - 1) / 2)= -1:=by
 have f: ∀M,M=PP - 1->fy s M=1:=fun M hM=>by
  have:=xB CP (HX h)
  rewrite [←hM] at this
  exact Fin.ext this
 have e: ∀N,N+N=PP - 1->fy s N*fy s N=1:=fun N hN=>by
  rewrite [←kC]
  exact f _ hN
 replace e:=e ((PP - 1) / 2) (by decide+kernel)
 generalize fy s ((PP - 1) / 2)=w at*
 have:(w - 1)*(w+1)=0:=by grobner
 rcases vJ this with k | k
 ·exact .inl (by grobner)
 ·exact .inr (by grobner)
theorem Fh {s:K} (hs:s.val % 2=0):pg (s*s)=some s:=by
 have pm: ∀r:K,r*r=s*s->(if r.val % 2=1 then 0 - r else r)=s:=by
  intro r hr
  have:(r - s)*(r+s)=0:=by grobner
  rcases vJ this with k | k
  ·have:r=s:=by grobner
   subst this; rw [if_neg aa]
  ·have e:r=0 - s:=by grobner
   subst e
   by_cases h0:s=0
   ·subst h0; decide+kernel
   ·rw [if_pos (K_even hs h0)]; grobner
 have key:fy (s*s) ug*fy (s*s) ug=s*s∨fy (s*s) ug*iK*(fy (s*s) ug*iK)=s*s:=by
  by_cases h0:s=0
  ·subst h0; left
   rw [show (0:K)*0=0 by grobner,←CQ _ (by decide+kernel)]; decide+kernel
  ·have e:fy (s*s) ug*fy (s*s) ug=fy s ((PP - 1) / 2)*(s*s):=by
    rw [XI,←kC,←kC,show ug+ug+(ug+ug)=(PP - 1) / 2+2 by decide+kernel,kC,show (2:Nat)=0+1+1 from rfl,jy,jy,lD]
    grobner
   have hi:=Tb
   rcases TD s h0 with k | k
   ·left; rw [e,k]; grobner
   ·right
    rw [k] at e
    generalize fy (s*s) ug=g at*
    grobner
 unfold pg
 simp only
 generalize fy (s*s) ug=g at*
 by_cases h1:g*g=s*s
 ·rw [if_pos h1,if_pos h1,pm _ h1]
 ·rw [if_neg h1]
  have h2:=key.resolve_left h1
  rw [if_pos h2,pm _ h2]
def bM (p:K×K):Nat:=p.2.val+2 ^ 255*(p.1.val % 2)
def eF (n:Nat):Option (K×K):=
 if h:n % 2 ^ 255 < PP then
  let y:K:=⟨n % 2 ^ 255,h⟩
  match pg ((y*y - 1)*cY (y*y*dK+1)) with
  | none=>none
  | some x=>if n / 2 ^ 255 % 2=1 then if x=0 then none else some (0 - x,y) else some (x,y)
 else none
theorem CS (p:K×K):bM p < 2 ^ 256:=by
 have:=p.2.isLt
 unfold bM
 have:PP < 2 ^ 255:=by decide+kernel
 have:p.1.val % 2 < 2:=aZ _ (by decide)
 omega
theorem d_sq (y:K):y*y*dK+1≠0:=fun c=>by
 have hi:=Tb
 have y0:=UD (a:=iK) (b:=y) (by generalize dK=d at*; generalize iK=i at*; grobner)
 have:(1:K)=0:=by generalize dK=d at*; grobner
 revert this; decide+kernel
theorem tC {n:Nat} {p:K×K} (h:eF n=some p):On p:=by
 unfold eF at h
 split at h
 case isFalse=>cases h
 rename_i hl
 simp only at h
 generalize (⟨n % 2 ^ 255,hl⟩ :K)=y at*
 have hv:=cT (d_sq y)
 split at h
 ·cases h
 rename_i x hx
 have hr:=(Iz hx).1
 generalize cY _=v at*
 have:On (x,y):=by simp only [On,A9]; generalize dK=d at*; grobner
 split at h
 ·split at h
  ·cases h
  ·cases h
   simp only [On,A9] at*; generalize dK=d at*; clear hr hv; grobner
 ·cases h; exact this
theorem lE {p:K×K} (o:On p):eF (bM p)=some p:=by
 obtain ⟨x,y⟩:=p
 have hy:=y.isLt
 have hP:PP < 2 ^ 255:=by decide+kernel
 have e1:bM (x,y) % 2 ^ 255=y.val:=by simp only [bM]; omega
 have e2:bM (x,y) / 2 ^ 255 % 2=x.val % 2:=by simp only [bM]; omega
 have hl:bM (x,y) % 2 ^ 255 < PP:=by omega
 have ey:(⟨bM (x,y) % 2 ^ 255,hl⟩ :K)=y:=Fin.ext e1
 unfold eF
 rw [dif_pos hl]
 simp only [ey,e2]
 have hv:=cT (d_sq y)
 have hx:(y*y - 1)*cY (y*y*dK+1)=x*x:=by
  generalize cY _=v at*
  simp only [On,A9] at o; generalize dK=d at*; grobner
 rw [hx]
 by_cases hb:x.val % 2=1
 ·have h0:x≠0:=by rintro rfl; revert hb; decide+kernel
  have e:x*x=(0 - x)*(0 - x):=by grobner
  rw [e,Fh (K_odd hb)]
  simp only [hb,if_true]
  rw [if_neg (fun c=>h0 (by grobner))]
  simp only [ah,aL]
  exact ⟨by grobner,trivial⟩
 ·rw [Fh aa]
  simp only [hb,if_false]
def cd:K×K:=(⟨15112221349535400772501151409588531511454012693041857206046113283949847762202,by decide⟩,⟨46316835694926478169428394003475163141307993866256225615783033603165251855960,by decide⟩)
theorem jf:On cd:=by unfold On A9; decide+kernel
def LL:Nat:=7237005577332262213973186563042994240857116359379907606001950938285454250989
def st {α:Type} (h:Nat) (f:Nat->α):α:=match h with
 | 0=>f 0
 | k+1=>f (k+1)
theorem Q2 {α:Type} (h:Nat) (f:Nat->α):st h f=f h:=by cases h <;> rfl
def cN (n:Nat):K:=Fin.ofNat PP n
theorem pb (v:K):cN v.val=v:=Fin.ext (aO v.isLt)
theorem pM {n:Nat} {v:K} (h:cN n=v):n % PP=v.val:=by rw [←h]; rfl
theorem cN_eq {m n:Nat} (h:m % PP=n % PP):cN m=cN n:=Fin.ext h
theorem kf (n:Nat):cN (n % PP)=cN n:=cN_eq (Nat.mod_mod _ _)
theorem jt (m n:Nat):cN (m+n)=cN m+cN n:=Fin.ext (by rw [Fin.val_add]; exact Nat.add_mod _ _ _)
theorem pc (m n:Nat):cN (m*n)=cN m*cN n:=Fin.ext (by rw [Fin.val_mul]; exact Nat.mul_mod _ _ _)
theorem sK {m n:Nat} (h:n<=m):cN (m - n)=cN m - cN n:=by
 have:cN (m - n)+cN n=cN m:=by rw [←jt,Nat.sub_add_cancel h]
 grobner
theorem HG:cN PP=0:=by decide+kernel
theorem xK {m n:Nat} (h:n < PP):cN (m+PP - n)=cN m - cN n:=by
 rw [sK aa,jt,HG]; grobner
theorem qx (m:Nat):cN (2*m)=cN m+cN m:=by rw [Nat.two_mul,jt]
def addN {α:Type} (x y z t x' y' z' t':Nat) (k:Nat->Nat->Nat->Nat->α):α:=
 st ((y+PP - x)*(y'+PP - x') % PP) fun a=>st ((y+x)*(y'+x') % PP) fun b=>
 st (t*t' % PP*dK.val % PP) fun c=>st (z*z' % PP) fun d=>
 st (b+PP - a) fun e=>st (2*d+2*PP - 2*c) fun f=>st (2*d+2*c) fun g=>st (b+a) fun h=>
 st (e*f % PP) fun X=>st (g*h % PP) fun Y=>st (f*g % PP) fun Z=>st (e*h % PP) fun T=>k X Y Z T
def dblN {α:Type} (x y z:Nat) (k:Nat->Nat->Nat->Nat->α):α:=
 st (x*x % PP) fun a=>st (y*y % PP) fun b=>st (z*z % PP) fun c=>st ((x+y)*(x+y) % PP) fun s=>
 st (s+2*PP - a - b) fun e=>st (b+PP - a) fun g=>st (g+2*PP - 2*c) fun f=>st (2*PP - a - b) fun h=>
 st (e*f % PP) fun X=>st (g*h % PP) fun Y=>st (f*g % PP) fun Z=>st (e*h % PP) fun T=>k X Y Z T
theorem cong4 {α:Type} (k:Nat->Nat->Nat->Nat->α) {a b c d a' b' c' d':Nat} (h1:a=a') (h2:b=b') (h3:c=c') (h4:d=d'):k a b c d=k a' b' c' d':=by subst h1 h2 h3 h4; rfl
theorem sN (n:Nat):n % PP < PP:=aZ _ (by decide)
theorem aaf {α:Type} (w w':Wd) (k:Nat->Nat->Nat->Nat->α):addN w.x.val w.y.val w.z.val w.t.val w'.x.val w'.y.val w'.z.val w'.t.val k=k (nD w w').x.val (nD w w').y.val (nD w w').z.val (nD w w').t.val:=by
 simp only [addN,Q2]
 have hc: ∀n m,cN (2*(n % PP)+2*PP - 2*(m % PP))=cN n+cN n - (cN m+cN m):=by
  intro n m
  have:=sN m
  rw [sK aa,jt,qx,qx,qx,HG,kf,kf]; grobner
 have hg: ∀n m,cN (2*(n % PP)+2*(m % PP))=cN n+cN n+(cN m+cN m):=by
  intro n m
  rw [jt,qx,qx,kf,kf]
 apply cong4 <;> apply pM <;> rw [pc] <;> (try rw [hc]) <;> (try rw [hg]) <;>
  simp only [pc,jt,kf,xK (sN _),xK (Fin.isLt _),pb,nD]
theorem Zv {α:Type} (w:Wd) (k:Nat->Nat->Nat->Nat->α):dblN w.x.val w.y.val w.z.val k=k (Aa w).x.val (Aa w).y.val (Aa w).z.val (Aa w).t.val:=by
 simp only [dblN,Q2]
 have h1: ∀n a b,cN (n+2*PP - a % PP - b % PP)=cN n - cN a - cN b:=by
  intro n a b
  have:=sN a; have:=sN b
  rw [sK aa,sK aa,jt,qx,HG,kf,kf]; grobner
 have h2: ∀n c,cN (n+2*PP - 2*(c % PP))=cN n - (cN c+cN c):=by
  intro n c
  have:=sN c
  rw [sK aa,jt,qx,qx,HG,kf]; grobner
 have h3: ∀a b,cN (2*PP - a % PP - b % PP)=0 - cN a - cN b:=by
  intro a b
  have:=h1 0 a b
  rw [Nat.zero_add] at this
  rw [this]; rfl
 apply cong4 <;> apply pM <;>
  simp only [h1,h2,h3,pc,jt,kf,xK (sN _),xK (Fin.isLt _),pb,Aa]
def yG {α:Type} (x y z t e:Nat) (k:Nat->Nat->Nat->Nat->α):Nat->Nat->Nat->Nat->Nat->α
 | 0,X,Y,Z,T=>k X Y Z T
 | n+1,X,Y,Z,T=>dblN X Y Z fun X Y Z T=>match e / 2 ^ n % 2 with
  | 0=>yG x y z t e k n X Y Z T
  | _+1=>addN X Y Z T x y z t fun X Y Z T=>yG x y z t e k n X Y Z T
theorem uR {α:Type} (w:Wd) (e:Nat) (k:Nat->Nat->Nat->Nat->α): ∀n (s:Wd),yG w.x.val w.y.val w.z.val w.t.val e k n s.x.val s.y.val s.z.val s.t.val=k (jW w e n s).x.val (jW w e n s).y.val (jW w e n s).z.val (jW w e n s).t.val
 | 0,s=>rfl
 | n+1,s=>by
  rw [yG,Zv,jW]
  split
  ·rename_i h0
   rw [if_neg aa,uR w e k n]
  ·rename_i m h1
   rw [if_pos aa,aaf,uR w e k n]
def mulE (p:K×K) (e:Nat):K×K:=
 yG p.1.val p.2.val 1 (p.1.val*p.2.val % PP) e (fun X Y Z _=>st (pw PP Z 256 (PP - 2)) fun i=>(cN (X*i),cN (Y*i))) 256 0 1 1 0
theorem Yr {p:K×K} (o:On p) {e:Nat} (h:e < 2 ^ 256):mulE p e=bX p e:=by
 have r:=xh (LD (nP p) o e h)
 rw [mulE]
 have:=uR (gR p) e (fun X Y Z _=>st (pw PP Z 256 (PP - 2)) fun i=>(cN (X*i),cN (Y*i))) 256 gZ
 rw [show (gR p).t.val=p.1.val*p.2.val % PP from Fin.val_mul _ _] at this
 refine Eq.trans this ?_
 rw [←r]
 generalize jW (gR p) e 256 gZ=s
 have e1:cN (pw PP s.z.val 256 (PP - 2))=cY s.z:=by
  rw [Br _ _ _ _ (by decide+kernel)]
  exact kf _
 simp only [Q2,pc,pb,e1,An]
theorem order:bX cd LL=kW:=by
 rw [←Yr jf (by decide+kernel)]
 decide+kernel
theorem mul_mod (n:Nat):bX cd (n % LL)=bX cd n:=by
 conv=>rhs; rw [←Nat.div_add_mod n LL,p9 jf,zg jf,order,BD,NO]
def v4 (a b c d:UInt64):Nat:=a.toNat+18446744073709551616*(b.toNat+18446744073709551616*(c.toNat+18446744073709551616*d.toNat))
def aQ:Nat:=115792089237316195423570985008687907853269984665640564039457584007913129639936
def wq (n i:Nat):UInt64:=UInt64.ofNat (n / 18446744073709551616 ^ i)
theorem lK (n i:Nat):(wq n i).toNat=n / 18446744073709551616 ^ i % 18446744073709551616:=bY
theorem rO (a b c d:UInt64):v4 a b c d < aQ:=by
 have:=gl a; have:=gl b; have:=gl c; have:=gl d
 unfold v4 aQ; omega
theorem QI (a b c d:UInt64):wq (v4 a b c d) 0=a/\wq (v4 a b c d) 1=b/\wq (v4 a b c d) 2=c/\wq (v4 a b c d) 3=d:=by
 have:=gl a; have:=gl b; have:=gl c; have:=gl d
 unfold v4
 refine ⟨?_,?_,?_,?_⟩ <;> apply UInt64.toNat_inj.1 <;> rw [lK] <;> simp only [Nat.pow_zero,Nat.pow_succ,Nat.one_mul,Nat.reduceMul] <;> omega
theorem QS {n:Nat} (h:n < aQ):v4 (wq n 0) (wq n 1) (wq n 2) (wq n 3)=n:=by
 unfold v4
 simp only [lK,Nat.pow_zero,Nat.pow_succ,Nat.one_mul,Nat.reduceMul]
 unfold aQ at h
 omega
theorem kv {n:Nat} (h:n < aQ): ∃a b c d,n=v4 a b c d:=⟨_,_,_,_,(QS h).symm⟩
def Lm (X n:Nat):Nat:=if X+n < aQ then X+n else X+n - aQ+38
def aE (X Y:Nat):Nat:=let s:=X*Y % aQ+38*(X*Y / aQ); Lm (s % aQ) (38*(s / aQ))
def gd (X Y:Nat):Nat:=Lm ((X+Y) % aQ) (38*((X+Y) / aQ))
def cX (X Y:Nat):Nat:=gd X (PP - Y % PP)
theorem MT:cN aQ=38:=by decide+kernel
theorem MU:cN 38=38:=by decide+kernel
theorem cN_up {X n:Nat}:cN (Lm X n)=cN X+cN n:=by
 unfold Lm
 split
 ·exact jt _ _
 ·rename_i h
  rw [jt,sK aa,jt,MT,MU]; grobner
theorem up_lt {X n:Nat} (h:X < aQ) (hn:n < 18446744073709551616):Lm X n < aQ:=by
 unfold Lm
 split
 ·assumption
 ·unfold aQ at*; omega
theorem Ah (n:Nat):cN n=cN (n % aQ)+38*cN (n / aQ):=by
 conv=>lhs; rw [←Nat.mod_add_div n aQ,jt,pc,MT]
theorem xJ (X Y:Nat):cN (gd X Y)=cN X+cN Y:=by
 rw [gd,cN_up,pc,MU,←Ah,jt]
theorem ej (X Y:Nat):cN (aE X Y)=cN X*cN Y:=by
 simp only [aE]
 rw [cN_up,pc 38,MU,←Ah,jt,pc 38,MU,←Ah,pc]
theorem nZ (X Y:Nat):cN (cX X Y)=cN X - cN Y:=by
 have:=sN Y
 rw [cX,xJ,sK aa,HG,kf]; grobner
theorem fS {X Y:Nat} (hX:X < aQ) (hY:Y < aQ):gd X Y < aQ:=by
 apply up_lt (aZ _ (by decide+kernel))
 have:(X+Y) / aQ < 2:=Nat.div_lt_of_lt_mul aa
 omega
theorem cV {X Y:Nat} (hX:X < aQ):cX X Y < aQ:=fS hX (Nat.lt_of_le_of_lt (Nat.sub_le _ _) (by decide+kernel))
theorem bA {X Y:Nat} (hX:X < aQ) (hY:Y < aQ):aE X Y < aQ:=by
 simp only [aE]
 apply up_lt (aZ _ (by decide+kernel))
 have h1:X*Y / aQ < aQ:=Nat.div_lt_of_lt_mul (Nat.mul_lt_mul'' hX hY)
 have h2:=aZ (X*Y) (show aQ > 0 by decide+kernel)
 generalize X*Y / aQ=u at*
 generalize X*Y % aQ=v at*
 unfold aQ at*
 omega
def kT (X e:Nat):Nat->Nat->Nat
 | 0,r=>r
 | n+1,r=>kT X e n (if e / 2 ^ n % 2=1 then aE (aE r r) X else aE r r)
theorem MS (X e:Nat): ∀n r,cN r=fy (cN X) (e / 2 ^ n)->cN (kT X e n r)=fy (cN X) e
 | 0,r,h=>by simpa [kT] using h
 | n+1,r,h=>by
  rw [kT]
  apply MS X e n
  have e1:e / 2 ^ n=e / 2 ^ (n+1)+e / 2 ^ (n+1)+e / 2 ^ n % 2:=by
   rw [Nat.pow_succ,←ee]; omega
  have e2:fy (cN X) (e / 2 ^ (n+1)+e / 2 ^ (n+1))=cN r*cN r:=by rw [kC,h]
  split
  ·rename_i hb
   rw [e1,hb,jy,e2,ej,ej]
  ·rename_i hb
   rw [e1,show e / 2 ^ n % 2=0 by omega,Nat.add_zero,e2,ej]
theorem Dz {X e:Nat} (h:e < 2 ^ 256):cN (kT X e 256 1)=fy (cN X) e:=
 MS X e 256 1 (by rw [Nat.div_eq_of_lt h,lD]; rfl)
theorem xm {X:Nat} (hX:X < aQ) (e:Nat): ∀n r,r < aQ->kT X e n r < aQ
 | 0,r,h=>h
 | n+1,r,h=>by
  rw [kT]
  apply xm hX e n
  split
  ·exact bA (bA h h) hX
  ·exact bA h h
def wR (X:Nat):Nat:=kT X (PP - 2) 256 1
theorem DA (X:Nat):cN (wR X)=cY (cN X):=Dz (by decide+kernel)
def te (X:Nat):aA:=
 let r:=kT (X % PP) ug 256 1
 let s:=if aE r r % PP=X % PP then r else aE r (kT 2 ((PP - 1) / 4) 256 1)
 if aE s s % PP=X % PP then some (if s % PP % 2=1 then cX 0 (s % PP) % PP else s % PP) else none
theorem Tc:cN (kT 2 ((PP - 1) / 4) 256 1)=iK:=by
 rw [Dz (by decide+kernel),←CQ _ (by decide+kernel)]; decide+kernel
theorem Mg (a b:Nat):a % PP=b % PP↔cN a=cN b:=⟨cN_eq,fun h=>congrArg Fin.val h⟩
theorem Fg (X:Nat):te X=(pg (cN X)).map Fin.val:=by
 have e0:cN (kT (X % PP) ug 256 1)=fy (cN X) ug:=by rw [Dz (by decide+kernel),kf]
 simp only [te,pg]
 generalize kT (X % PP) ug 256 1=r at*
 generalize fy (cN X) ug=r' at*
 subst e0
 have e1:(aE r r % PP=X % PP)=(cN r*cN r=cN X):=by rw [eq_iff_iff,Mg,ej]
 simp only [e1]
 have e2:cN (if cN r*cN r=cN X then r else aE r (kT 2 ((PP - 1) / 4) 256 1))=if cN r*cN r=cN X then cN r else cN r*iK:=by
  split
  ·rfl
  ·rw [ej,Tc]
 rw [←e2]
 generalize (if cN r*cN r=cN X then r else aE r (kT 2 ((PP - 1) / 4) 256 1))=s
 have e3:(aE s s % PP=X % PP)=(cN s*cN s=cN X):=by rw [eq_iff_iff,Mg,ej]
 simp only [e3]
 split
 ·show some _=some _
  congr 1
  have:(cN s).val=s % PP:=rfl
  rw [this]
  split
  ·have:cX 0 (s % PP) % PP=(0 - cN s).val:=pM (by rw [nZ,kf]; rfl)
   rw [this]
  ·rfl
 ·rfl
end Go.Ab
