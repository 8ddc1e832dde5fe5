/- What functions of the program, and of the library, answer. Conditions: none. -/
import Derived.Test.YtgfeimceppggcaaGreatDoorEx
import Derived.Test.YtgfeimceppggcaaGreatDoorDraw
import Derived.Test.YtgfeimceppggcaaGreatDoorLaw9
import Derived.Test.YtgfeimceppggcaaGreatDoorLaw4
set_option linter.unusedVariables false
set_option linter.unusedSimpArgs false
set_option linter.defProp false
set_option linter.unnecessarySimpa false
namespace Go.Ab
section
variable {ip:Nat->Option au} {G:Nat->ai} {fr fr':Fr} {σ:ag} {Q:Fr->ag->Prop} {k:List Item}
end
end Go.Ab
namespace Go.Ab
set_option maxHeartbeats 1000000
set_option maxRecDepth 100000
section
variable {l:List Ev} {e:Ev} {j:Nat} {c:al} {k:List Item} {σ:ag} {Q:Fr->ag->Prop}
end
end Go.Ab
namespace Go.Ab
set_option maxHeartbeats 1000000
def Vp:=J @H3.eq_1 (J @H2.eq_1 (J @Az.eq_1 (J @VD.eq_1 (J @Ay.eq_1 (J @DI.eq_1 (@F72.eq_1))))))
def Vo:=J @H3.eq_1 (J @H2.eq_1 (J @Az.eq_1 (J @Ay.eq_1 (J @DI.eq_1 (@F72.eq_1)))))
set_option maxRecDepth 100000
def AT (x:Mem):List Mem->List Mem
 | []=> [x]
 | y ::r=>if bytesLess x.1 y.1=true then y ::AT x r else x ::y ::r
def rR:List Mem->List Mem->List Mem
 | acc, []=>acc
 | acc,x ::r=>rR (AT x acc) r
def pf (l:List Mem):List Mem:=(rR [] l).reverse
theorem F9 (x:Mem): ∀l,(AT x l).length=l.length+1
 | []=>rfl
 | y ::r=>by simp only [AT]; split <;> simp [F9 x r]
theorem uU: ∀(l acc:List Mem),(rR acc l).length=acc.length+l.length
 | [],acc=>by simp [rR]
 | x ::r,acc=>by rw [rR,uU r,F9]; simp; omega
section
variable {α:Type} (L:fE α)
theorem fE.cells_append (l m:List α):L.cells (l ++m)=L.cells l ++L.cells m:=by simp [fE.cells]
theorem fE.cells_cons (a:α) (l:List α):L.cells (a ::l)=(L.f a).cells ++L.cells l:=by simp [fE.cells]
theorem fE.take {l:List α} {j:Nat} (h:j<=l.length):(L.cells l).take (j*L.sz)=L.cells (l.take j):=by
 have e:L.cells l=L.cells (l.take j) ++L.cells (l.drop j):=by rw [←L.cells_append,ed]
 have hl:(L.cells (l.take j)).length=j*L.sz:=by rw [L.cells_len,bU,Nat.min_eq_left h]
 rw [e,←hl,List.take_left]
theorem fE.drop {l:List α} {j:Nat} (h:j<=l.length):(L.cells l).drop (j*L.sz)=L.cells (l.drop j):=by
 have e:L.cells l=L.cells (l.take j) ++L.cells (l.drop j):=by rw [←L.cells_append,ed]
 have hl:(L.cells (l.take j)).length=j*L.sz:=by rw [L.cells_len,bU,Nat.min_eq_left h]
 rw [e,←hl,List.drop_left]
theorem fE.read {l:List α} {j:Nat} {a:α} (h:l[j]? =some a) (hs:L.sz≠1):df (L.cells l) (j*L.sz) (some L.sz)=some (L.f a):=by
 have aR:=qP h
 have gh:=L.cells_len l
 have hle:j*L.sz+L.sz<=(L.cells l).length:=by
  rw [gh]
  have:=Nat.mul_le_mul_right L.sz (Nat.succ_le_of_lt aR)
  rw [Nat.succ_mul] at this
  exact this
 show (if j*L.sz+L.sz<=(L.cells l).length then some (AV.agg (((L.cells l).drop (j*L.sz)).take L.sz)) else none)=_
 rw [if_pos hle,L.drop (Nat.le_of_lt aR),drop_cons h,L.cells_cons]
 have ha:=L.agg a
 rw [if_neg hs] at ha
 obtain ⟨cs,ma⟩:=ha
 have hl:=L.len a
 rw [ma] at hl ⊢
 simp only [AV.cells] at hl ⊢
 rw [←hl,List.take_left]
theorem fE.splice {l:List α} {j:Nat} (a:α) (h:j < l.length):(L.cells l).take (j*L.sz) ++(L.f a).cells ++(L.cells l).drop (j*L.sz+L.sz)=L.cells (l.set j a):=by
 have e:j*L.sz+L.sz=(j+1)*L.sz:=by rw [Nat.add_mul]; simp
 rw [e,L.take (Nat.le_of_lt h),L.drop h,List.set_eq_take_append_cons_drop,if_pos h,L.cells_append,L.cells_cons,bb]
end
theorem QY {α:Type} (A B:List α) (x y:α):((A ++y ::x ::B).set (A.length+1) y).set A.length x=A ++x ::y ::B:=by
 induction A with
 | nil=>rfl
 | cons a A ih=>simp [ih]
theorem nG.blk {α:Type} {L:fE α} {σ:ag} {b:Nat} {l:List α} (h:nG L σ (some b) l):look σ.m b=some (.own (L.cells l)):=h.1
def InsQ (σ:ag) (b:Nat) (l:List Mem) (τ:ag):Prop:=nG bm τ (some b) l/\τ.next=σ.next/\∀b',b'≠b->τ.get b'=σ.get b'
theorem c_ins (b N:Nat) (l:List Mem) (σ:ag) (hN:l.length=N) (aR:N < 64) (ho:nG bm σ (some b) l) :
  ∃σ',cj cA gU (.fn 72 [] []) [.sl b 0 N 6 none, .int .i64 0, .int .i64 (N:Int), .fn 40 [] []] σ=some (.tup [],σ')/\InsQ σ b (pf l) σ':=by
 have main:Ex cA gU [.code F72.body] (fK [.sl b 0 N 6 none, .int .i64 0, .int .i64 (N:Int), .fn 40 [] []]) σ fun fr' σ1=>iO fr' σ1 F72.res=some (.tup [])/\InsQ σ b (pf l) σ1:=by
  have w1:IntKind.wrap .i64 (0+1)=((1:Nat):Int):=by decide
  cases l with
  | nil=>
   subst hN
   have d0:decide (((1:Nat):Int) < (([] :List Mem).length:Int))=false:=rfl
   simp only [Vo,ax,az,seval,w1,d0]
   exact ⟨ho,rfl,fun _ _=>rfl⟩
  | cons x0 r0=>
  simp only [H3,H2,Az,Ay,F72,ax,az,seval,w1]
  refine aP (S:=List Mem×List Mem) (fun p=> [(0, .sl b 0 N 6 none),(1, .int .i64 0),(2, .int .i64 (N:Int)),(3, .fn 40 [] []),(8, .int .i64 (p.1.length:Int))]) (fun p=>p.2.length)
   (fun p τ=>0 < p.1.length/\p.1.length+p.2.length=N/\rR p.1 p.2=rR [] (x0 ::r0)/\nG bm τ (some b) (p.1.reverse ++p.2)/\τ.next=σ.next/\∀b',b'≠b->τ.get b'=σ.get b') ?_ ([x0],r0) σ ⟨by simp,by simp at hN ⊢; omega,rfl,ho,rfl,fun _ _=>rfl⟩
  rintro bd ⟨acc,rest⟩ τ ⟨k1,k2,k3,k4,k5,k6⟩ ih
  simp only at k1 k2 k3 k4 k5 k6 ih ⊢
  cases rest with
  | nil=>
   have d0:decide ((acc.length:Int) < (N:Int))=false:=by simp at k2 ⊢; omega
   simp only [Vo,az,seval,d0]
   have k3':acc=rR [] (x0 ::r0):=k3
   refine ⟨?_,k5,k6⟩
   unfold pf
   rw [←k3']; simpa using k4
  | cons x rest=>
   have d0:decide ((acc.length:Int) < (N:Int))=true:=by simp at k2 ⊢; omega
   simp only [Vo,ax,az,seval,d0]
   have k3':rR (AT x acc) rest=rR [] (x0 ::r0):=k3
   refine aP (S:=List Mem×List Mem) (fun p=> [(0, .sl b 0 N 6 none),(1, .int .i64 0),(2, .int .i64 (N:Int)),(3, .fn 40 [] []),(8, .int .i64 (acc.length:Int)),(9, .int .i64 (p.1.length:Int))]) (fun p=>p.1.length)
    (fun p ρ=>p.1.length+p.2.length=acc.length/\p.2 ++AT x p.1=AT x acc/\nG bm ρ (some b) (p.1.reverse ++x ::(p.2.reverse ++rest))/\ρ.next=σ.next/\∀b',b'≠b->ρ.get b'=σ.get b') ?_ (acc, []) τ ⟨by simp,rfl,by simpa using k4,k5,k6⟩
   rintro bd2 ⟨left,iP⟩ ρ ⟨q1,q2,q3,q4,q5⟩ iY
   simp only at q1 q2 q3 q4 q5 iY ⊢
   have fin: ∀(fr':Fr) (ρ':ag),iP ++x ::left=AT x acc->nG bm ρ' (some b) (left.reverse ++x ::(iP.reverse ++rest))->ρ'.next=σ.next->(∀b',b'≠b->ρ'.get b'=σ.get b')->
     keep [0,1,2,3,8] fr'= [(0, .sl b 0 N 6 none),(1, .int .i64 0),(2, .int .i64 (N:Int)),(3, .fn 40 [] []),(8, .int .i64 ((acc.length+1:Nat):Int))]->_:=fun fr' ρ' e1 e2 e3 e4 e5=>
    ih (iP ++x ::left,rest) fr' ρ' (by simp) ⟨by simp; omega,by simp at k2 ⊢; omega,by rw [e1]; exact k3',by simpa using e2,e3,e4⟩ (by
     have hh:(iP ++x ::left).length=acc.length+1:=by
      simp; omega
     rw [e5,hh])
   have hwi:=cL (j:=acc.length) (n:=64) (by simp at k2; omega) aa
   cases left with
   | nil=>
    have d1:decide (((([] :List Mem).length:Nat):Int) > 0)=false:=rfl
    have d1':decide (0 < ((([] :List Mem).length:Nat):Int))=false:=rfl
    have d1'':decide (0 < ((0:Nat):Int))=false:=rfl
    simp only [Vp,az,seval,d1,d1',d1'',hwi]
    exact fin _ _ q2 q3 q4 q5 (by simp only [az,seval])
   | cons y r=>
    have hD:(y ::r).reverse ++x ::(iP.reverse ++rest)=r.reverse ++y ::x ::(iP.reverse ++rest):=by simp
    rw [hD] at q3
    have g0:(r.reverse ++y ::x ::(iP.reverse ++rest))[r.length]? =some y:=by
     rw [eI (by simp)]; simp
    have g1:(r.reverse ++y ::x ::(iP.reverse ++rest))[r.length+1]? =some x:=by
     rw [eI (by simp)]; simp
    have hrN:r.length+1 < N:=by simp at q1 k2; omega
    have d1:decide (((r.length+1:Nat):Int) > 0)=true:=by simp
    have d1':decide (0 < ((r.length+1:Nat):Int))=true:=by simp
    have i1:idxOf 6 none (.sl b 0 N 6 none) (.int .i64 ((r.length+1:Nat):Int))=some (.ptr b ((r.length+1)*6)):=by
     simp [idxOf]
     omega
    have i0:idxOf 6 none (.sl b 0 N 6 none) (.int .i64 ((r.length:Nat):Int))=some (.ptr b (r.length*6)):=by
     have:r.length < N:=by omega
     simp [idxOf,this]
    have wp:IntKind.wrap .i64 (((r.length+1:Nat):Int) - 1)=((r.length:Nat):Int):=by
     have:=QG (j:=r.length+1) aa aa
     simpa using this
    have nA:=q3.blk
    have hlen:(r.reverse ++y ::x ::(iP.reverse ++rest)).length=N:=by simp at q1 k2 ⊢; omega
    have rd1:df (bm.cells _) ((r.length+1)*6) (some 6)=some (bp x):=bm.read g1 (by decide)
    have rd0:df (bm.cells _) (r.length*6) (some 6)=some (bp y):=bm.read g0 (by decide)
    have hk:=RM x y
    cases hb:bytesLess x.1 y.1
    ·simp only [Vp,az,seval,VX,d1,d1',i1,i0,wp,nA,rd1,rd0,hk,xp,hb,hwi]
     simp only [AT,hb,bh,if_false] at q2
     exact fin _ _ q2 (by rw [hD]; exact q3) q4 q5 (by simp only [az,seval])
    ·simp only [AT,hb,if_true] at q2
     have hCl:=bm.cells_len (r.reverse ++y ::x ::(iP.reverse ++rest))
     rw [hlen] at hCl
     have sw:=QY r.reverse (iP.reverse ++rest) x y
     rw [List.length_reverse] at sw
     have sp1:=bm.splice (l:=r.reverse ++y ::x ::(iP.reverse ++rest)) (j:=r.length+1) y aa
     generalize hD1:(r.reverse ++y ::x ::(iP.reverse ++rest)).set (r.length+1) y=D1 at sp1 sw
     have Y1:D1.length=N:=by rw [←hD1,List.length_set,hlen]
     have sp2:=bm.splice (l:=D1) (j:=r.length) x aa
     rw [sw] at sp2
     simp only [show ∀z,bm.f z=bp z from fun _=>rfl,bq,show bm.sz=6 from rfl] at sp1 sp2
     have r7:((r.length+1)*6+6<=(bm.cells (r.reverse ++y ::x ::(iP.reverse ++rest))).length)=True:=eq_true (by rw [hCl]; show _<=N*6; omega)
     have rZ:(r.length*6+6<=(bm.cells D1).length)=True:=eq_true (by rw [bm.cells_len,Y1]; show _<=N*6; omega)
     simp only [Vp,az,seval,VX,d1,d1',i1,i0,wp,nA,rd1,rd0,hk,xp,hb,hwi,r7,sp1,rZ,sp2]
     refine iY (r,iP ++ [y]) _ _ (by simp) ⟨by simp at q1 ⊢; omega,by simpa using q2,?_,q4,?_⟩ (by simp only [az,seval])
     ·obtain ⟨o1,o2,o3,o4⟩:=q3
      refine ⟨?_,by simpa using bm.cells_len (r.reverse ++x ::((iP ++ [y]).reverse ++rest)),o3,by simp; omega⟩
      simp [ag.get,look]
     ·intro b' nJ
      rw [←q5 b' nJ]
      simp only [ag.get,look]
      rw [if_neg (fun hh=>nJ hh.symm),if_neg (fun hh=>nJ hh.symm)]
 obtain ⟨n,fr',σ1,h1,h2,h3⟩:=main
 exact ⟨σ1,cU (F:=F72) rfl (first:= []) (caps:= []) ⟨n,fr',σ1,h1,h2,rfl⟩,h3⟩
end Go.Ab
namespace Go.Ab
set_option maxRecDepth 100000
def T14Fb:= @F39.eq_1
theorem c_ins0 (v:AV) (σ:ag):cj cA gU (.fn 72 [] []) [v, .int .i64 0, .int .i64 0, .fn 40 [] []] σ=some (.tup [],σ):=by
 refine cU (F:=F72) rfl (first:= []) (caps:= []) ?_
 have w1:IntKind.wrap .i64 (0+1)=((1:Nat):Int):=by decide
 have d0:decide (((1:Nat):Int) < 0)=false:=rfl
 simp only [H3,H2,Az,Ay,DI,F72,ax,az,Nat.reduceEqDiff,reduceIte,reduceCtorEq,Nat.reduceAdd,Nat.reduceLeDiff,Nat.reduceSub,Nat.reduceMul,Int.reduceEq,Int.reduceBEq,Int.reduceBNe,Int.reduceLT,Int.reduceLE,Nat.reduceLT,w1,d0]
def UG (σ:ag) (l:List Mem):AV:=if l= [] then .vsl [] (some 0) else .sl σ.next 0 l.length 6 none
def Ad (σ:ag) (l:List Mem):ag:=if l= [] then σ else σ.alloc (bm.cells l)
theorem UZ (l:List Mem) (c:aA) (σ:ag) (hb:l.length < lim):jc cA gU .split (.fn 38 [] []) [.vsl (l.map bp) c] σ=some (UG σ l,Ad σ l):=by
 unfold lim at hb
 cases l with
 | nil=>
  have ua:both cA gU (.fn 38 [] []) σ=true:=DD 100 (by kernel_rfl) (by kernel_rfl)
  simp only [jc,List.map_nil,c9,if_true,ua,UG,Ad]
 | cons x l=>
  have ll: ∀σ',rowOf σ' 6 (.vsl ((x ::l).map bp) c)=some (bm.cells (x ::l)):=fun σ'=>bm.rowOf σ' (x ::l) c
  have ha:aF σ 6 96 (.vsl [] (some 0)) (bm.cells (x ::l)) (l.length+1)=some (.sl σ.next 0 (l.length+1) 6 none,σ.alloc (bm.cells (x ::l))):=
   Vf aa aa (by unfold aY; simp at hb; omega) (bm.cells_len (x ::l)) (bm.cells_one _) aa
  have hn:c9 [.vsl ((x ::l).map bp) c]=false:=rfl
  simp only [jc,hn,bh,if_false]
  refine cU (F:=F38) rfl (first:= []) (caps:= []) ?_
  simp only [List.map_cons] at ll
  simp only [F38,az,Nat.reduceEqDiff,reduceIte,reduceCtorEq,Nat.reduceAdd,Nat.reduceLeDiff,Nat.reduceSub,Nat.reduceMul,Int.reduceEq,Int.reduceBEq,Int.reduceBNe,Int.reduceLT,Int.reduceLE,Nat.reduceLT,VX,vk,ll,ha]
  simp [ag.alloc,UG,Ad]
theorem Zw {σ:ag} {l:List Mem} (h:l≠ []):nG bm (Ad σ l) (some σ.next) l:=by
 have hl:0 < l.length:=List.length_pos_iff.2 h
 rw [Ad,if_neg h]
 exact ⟨dW,bm.cells_len l,by simp [eK],hl⟩
theorem N5 (l:List Mem):(pf l).length=l.length:=by simp [pf,uU]
theorem c_sort (l:List Mem) (σ:ag) (hb:l.length < 20): ∃σ',cj cA gU (.fn 39 [] []) [UG σ l, .fn 40 [] []] (Ad σ l)=some (.tup [],σ')/\
  (if l= [] then σ'=σ else nG bm σ' (some σ.next) (pf l))/\Grown σ σ'/\σ'.next<=σ.next+1:=by
 have d1:decide ((20:Int)<=(l.length:Int))=false:=by simp; omega
 have d2:decide ((20:Int) < (l.length:Int))=false:=by simp; omega
 have h60: ∀(v:AV) (τ τ':ag),cj cA gU (.fn 72 [] []) [v, .int .i64 0, .int .i64 (l.length:Int), .fn 40 [] []] τ=some (.tup [],τ')->
   cj cA gU (.fn 60 [] []) [v, .int .i64 (l.length:Int), .fn 40 [] []] τ=some (.tup [],τ'):=by
  intro v τ τ' hc
  refine cU (F:=F60) rfl (first:= []) (caps:= []) ?_
  simp only [F60,ax,az,Nat.reduceEqDiff,reduceIte,reduceCtorEq,Nat.reduceAdd,Nat.reduceLeDiff,Nat.reduceSub,Nat.reduceMul,Int.reduceEq,Int.reduceBEq,Int.reduceBNe,Int.reduceLT,Int.reduceLE,Nat.reduceLT,d1,d2,hc]
 by_cases h0:l= []
 ·subst h0
  refine ⟨σ,?_,by rw [if_pos rfl],Grown.refl _,by omega⟩
  have h:=h60 (.vsl [] (some 0)) σ σ (c_ins0 _ _)
  refine cU (F:=F39) rfl (first:= []) (caps:= []) ?_
  simp only [UG,Ad,if_true]
  simp only [T14Fb,az,Nat.reduceEqDiff,reduceIte,reduceCtorEq,Nat.reduceAdd,Nat.reduceLeDiff,Nat.reduceSub,Nat.reduceMul,Int.reduceEq,Int.reduceBEq,Int.reduceBNe,Int.reduceLT,Int.reduceLE,Nat.reduceLT,VX] at h ⊢
  simp only [h,az,Nat.reduceEqDiff,reduceIte,reduceCtorEq,Nat.reduceAdd,Nat.reduceLeDiff,Nat.reduceSub,Nat.reduceMul,Int.reduceEq,Int.reduceBEq,Int.reduceBNe,Int.reduceLT,Int.reduceLE,Nat.reduceLT]
 ·have ho:=Zw (σ:=σ) h0
  obtain ⟨σ',h1,h2,h3,h4⟩:=c_ins σ.next l.length l (Ad σ l) rfl aa ho
  have h:=h60 _ _ _ h1
  have hn:(Ad σ l).next=σ.next+1:=by rw [Ad,if_neg h0]; rfl
  refine ⟨σ',?_,by rw [if_neg h0]; exact h2,⟨by omega,fun b nJ=> ?_⟩,by omega⟩
  ·refine cU (F:=F39) rfl (first:= []) (caps:= []) ?_
   simp only [UG,if_neg h0]
   simp only [T14Fb,az,Nat.reduceEqDiff,reduceIte,reduceCtorEq,Nat.reduceAdd,Nat.reduceLeDiff,Nat.reduceSub,Nat.reduceMul,Int.reduceEq,Int.reduceBEq,Int.reduceBNe,Int.reduceLT,Int.reduceLE,Nat.reduceLT,VX,h]
  ·rw [h4 b aa,Ad,if_neg h0,gB nJ]
def M3:=J @VP.eq_1 (J @KN.eq_1 (J @VQ.eq_1 (@F20.eq_1)))
structure Acc {α:Type} (L:fE α) (σ0 σ:ag) (v:AV) (l:List α):Prop where
 gr:Gr L σ v l
 far: ∀b o len sz c,v= .sl b o len sz c->σ0.next<=b
 grown:Grown σ0 σ
theorem Acc.newset {α:Type} {L:fE α} {σ0 σ:ag} {v:AV} {l:List α} (h:Acc L σ0 σ v l) (cs cs':ai):Acc L σ0 { next:=σ.next+1,m:=(σ.next, .own cs) ::(σ.next, .own cs') ::σ.m } v l where
 gr:=h.gr.newset cs cs'
 far:=h.far
 grown:=⟨by have:=h.grown.1; simp; omega,fun b hb=>by
  rw [←h.grown.2 b hb]
  have:=h.grown.1
  show look ((σ.next,jP.own cs) ::(σ.next, .own cs') ::σ.m) b=look σ.m b
  simp only [look]; rw [if_neg aa,if_neg aa]⟩
theorem Acc.app {α:Type} {L:fE α} {σ0 σ:ag} {v:AV} {l m:List α} (h:Acc L σ0 σ v l) (hm:0 < m.length):Acc L σ0 (cZ L σ v l m) (.sl σ.next 0 (l ++m).length L.sz none) (l ++m) where
 gr:=Gr.own (h.gr.next hm)
 far:=fun b o len sz c he=>by simp only [AV.sl.injEq] at he; have:=h.grown.1; omega
 grown:=⟨by rw [gG]; have:=h.grown.1; omega,fun b hb=>by
  have h1:=h.grown.1
  rw [iu h.gr aa (fun len sz c he=>by have:=h.far _ _ _ _ _ he; omega)]
  exact h.grown.2 b hb⟩
def jL:List Mem->List Mem
 | []=> []
 | [x]=> [x]
 | x ::y ::r=>if y.1=x.1 then jL (y ::r) else x ::jL (y ::r)
def mapOf (l:List Mem):V:=V.mk 5 0 [] [] (jL (pf l))
theorem z8: ∀l:List Mem,(jL l).length<=l.length
 | []=>by simp [jL]
 | [x]=>by simp [jL]
 | x ::y ::r=>by
  have:=z8 (y ::r)
  simp only [jL]
  split <;> simp at this ⊢ <;> omega
theorem v8 (l:List Mem) (hb:l.length < 20):cR 20 [.vsl (l.map bp) none]=some (mapOf l).enc:=by
 refine aG (F:=F20) rfl ?_
 simp only [VP,KN,F20,ax,az,seval,VX]
 have h1:=UZ l none ⟨1, [(0, .own [.int .i64 0, .int .i64 0, .str [], .nils, .nils])]⟩ (by unfold lim; omega)
 obtain ⟨σ1,h2,h3,h4,h5⟩:=c_sort l ⟨1, [(0, .own [.int .i64 0, .int .i64 0, .str [], .nils, .nils])]⟩ hb
 have hN:=N5 l
 have hlen:lenL (UG ⟨1, [(0, .own [.int .i64 0, .int .i64 0, .str [], .nils, .nils])]⟩ l)=some (.int .i64 (l.length:Int)):=by
  unfold UG
  split
  ·rename_i h; subst h; rfl
  ·rfl
 have cl: ∀j:Nat,j < l.length->idxOf 6 none (UG ⟨1, [(0, .own [.int .i64 0, .int .i64 0, .str [], .nils, .nils])]⟩ l) (.int .i64 (j:Int))=some (.ptr 1 (j*6)):=by
  intro j hj
  have h0:l≠ []:=by rintro rfl; simp at hj
  unfold UG
  rw [if_neg h0]
  simp [idxOf,hj]
 generalize UG ⟨1, [(0, .own [.int .i64 0, .int .i64 0, .str [], .nils, .nils])]⟩ l=cv at h1 h2 hlen cl
 simp only [h1]
 simp only [ax,az,seval,VX,h2,hlen]
 unfold mapOf
 generalize hS:pf l=S at h3 hN ⊢
 have z0:σ1.get 0=some (.own [.int .i64 0, .int .i64 0, .str [], .nils, .nils]):=h4.2 0 (by simp)
 have BJ:1<=σ1.next:=h4.1
 have own1: ∀j:Nat,j < l.length->nG bm σ1 (some 1) S:=by
  intro j hj
  have h0:l≠ []:=by rintro rfl; simp at hj
  rw [if_neg h0] at h3
  exact h3
 refine aP (S:=Nat×List Mem×AV) (fun p=> [(0,cv),(2, .ptr 0 0),(3,p.2.2),(10,cv),(11, .int .i64 (l.length:Int)),(12, .int .i64 (p.1:Int))]) (fun p=>l.length - p.1)
  (fun p τ=>Acc bm σ1 τ p.2.2 p.2.1/\p.2.1 ++jL (S.drop p.1)=jL S/\p.2.1.length<=p.1) ?_ (0, [], .nils) σ1 ⟨⟨Gr.nil _ _,fun b o len sz c h=>by simp at h,Grown.refl _⟩,by simp,by simp⟩
 rintro b ⟨j,acc,ov⟩ τ ⟨k1,k2,k3⟩ ih
 simp only at k1 k2 k3 ih ⊢
 by_cases aR:j < l.length
 ·obtain ⟨x,hx⟩:=cq (l:=S) (j:=j) aa
  have aK:=pD aR
  have ho:=own1 j aR
  have Dc:1 < σ1.next:=ho.lt
  have hg1:τ.get 1=some (.own (bm.cells S)):=by rw [k1.grown.2 1 Dc]; exact ho.1
  have nA:=zk hg1
  have fV:(τ.next=1)=False:=eq_false (by have:=k1.grown.1; omega)
  have rd:df (bm.cells S) (j*6) (some 6)=some (bp x):=bm.read hx (by decide)
  have hi:=cl j aR
  have hw:=cL (j:=j) (n:=64) aa aa
  have YW:=k1.newset
  have jm:lenOf (.vsl [bp x] (some 1))=some 1:=rfl
  have ll: ∀σ',rowOf σ' 6 (.vsl [bp x] (some 1))=some (bp x).cells:=fun σ'=>by
   have:=bm.rowOf σ' [x] (some 1)
   simpa [fE.cells,bm] using this
  rw [drop_cons hx] at k2
  by_cases hlast:j+1=l.length
  ·have q1:(((j+1:Nat):Int) == (l.length:Int))=true:=by simp; omega
   have hd:S.drop (j+1)= []:=cc aa
   rw [hd] at k2
   have da: ∀cs cs',aF _ 6 96 ov (bp x).cells 1=some _:=fun cs cs'=>(YW cs cs').gr.push (a:=x) (bytes:=96) aa (by unfold aY; omega)
   simp only [bq] at da ll
   simp only [M3,az,seval,VX,ae,aK,hi,nA,fV,rd,hw,hlen,q1,jm,ll,da]
   refine ih (j+1,acc ++ [x],_) _ _ (by simp; omega) ⟨(YW _ _).app (by simp),?_,by simp; omega⟩ (by simp only [az,seval])
   rw [hd]
   simpa [jL] using k2
  ·have q1:(((j+1:Nat):Int) == (l.length:Int))=false:=by
    rw [cE]; omega
   obtain ⟨y,hy⟩:=cq (l:=S) (j:=j+1) aa
   have sH:=cl (j+1) aa
   have hy0:df (bm.cells S) ((j+1)*6) none=some (.str y.1):=by
    have:=bm.read hy (by decide)
    show (bm.cells S)[(j+1)*6]? =_
    have e:=bm.drop (l:=S) (j:=j+1) aa
    rw [drop_cons hy,bm.cells_cons] at e
    have e2:((bm.cells S).drop ((j+1)*6))[0]? =some (.str y.1):=by
     show ((bm.cells S).drop ((j+1)*bm.sz))[0]? =_
     rw [e]
     show ((bp y).cells ++_)[0]? =_
     rw [bq]; rfl
    rw [List.getElem?_drop] at e2
    simpa using e2
   rw [drop_cons hy] at k2
   have hy1:(bm.cells S)[(j+1)*6]? =some (.str y.1):=hy0
   by_cases hxy:y.1=x.1
   ·have q2:(!(y.1 == x.1))=false:=by simp [hxy]
    simp only [jL,hxy,if_true] at k2
    simp only [M3,az,seval,VX,ae,aK,hi,nA,fV,rd,hw,hlen,q1,sH,hy1,q2]
    refine ih (j+1,acc,ov) _ _ (by simp; omega) ⟨YW _ _,?_,by simp; omega⟩ (by simp only [az,seval])
    rw [drop_cons hy]; exact k2
   ·have q2:(!(y.1 == x.1))=true:=by simp [hxy]
    simp only [jL,hxy,if_false] at k2
    have da: ∀cs cs',aF _ 6 96 ov (bp x).cells 1=some _:=fun cs cs'=>(YW cs cs').gr.push (a:=x) (bytes:=96) aa (by unfold aY; omega)
    simp only [bq] at da ll
    simp only [M3,az,seval,VX,ae,aK,hi,nA,fV,rd,hw,hlen,q1,sH,hy1,q2,jm,ll,da]
    refine ih (j+1,acc ++ [x],_) _ _ (by simp; omega) ⟨(YW _ _).app (by simp),?_,by simp; omega⟩ (by simp only [az,seval])
    rw [drop_cons hy]
    simpa using k2
 ·have aK:=pE (Nat.not_lt.1 aR)
  have hd:S.drop j= []:=cc aa
  rw [hd] at k2
  simp only [jL,bC] at k2
  obtain ⟨p1,p2,p3,p4⟩:=k1.gr.plain
  have hlk0:=zk ((k1.grown.2 0 aa).trans z0)
  have Pq:Gr bm { next:=τ.next,m:=(0, .own [.int .i64 5, .int .i64 0, .str [], .nils,ov]) ::τ.m } ov acc:=by
   rcases k1.gr with h | ⟨b',rfl,h⟩ | h
   ·exact .inl h
   ·have Dc:=k1.far b' _ _ _ _ rfl
    exact Gr.own (h.frame (by show look ((0,_) ::τ.m) b'=_; simp only [look]; rw [if_neg aa]; rfl) (aD _))
   ·exact .inr (.inr h)
  have Tk:=jS.agg (jS.clo (x:= .int .i64 5) rfl (jS.clo (x:= .int .i64 0) rfl (jS.clo (x:= .str []) rfl (jS.clo (x:= .nils) rfl (jS.gr Pq (jS.nil _ 23))))))
  simp only [M3,az,seval,VX,ae,aK,p1,p2,p3,p4,hlk0,Tk]
  rw [←k2]
  exact V.fold1 5 0 [] acc
def iW:List Mem->Bs->Option V
 | [],_=>none
 | x ::r,k=>if x.1=k then some x.2 else iW r k
def HS (m:List Mem):Prop:=m.Pairwise fun x y=>bytesLess x.1 y.1=true
theorem nT {m:List Mem} {i:Nat} {x:Mem} (h:m[i]? =some x):iX m i=x.1:=by simp [iX,h]
theorem uY {m:List Mem} (h:HS m) {i j:Nat} (hij:i < j) (hj:j < m.length):bytesLess (iX m i) (iX m j)=true:=by
 have hi:i < m.length:=by omega
 rw [nT (bx hi),nT (bx hj)]
 exact List.pairwise_iff_getElem.1 h i j hi hj hij
theorem U3 {m:List Mem} {k:Bs} (h:HS m): ∀(n i j:Nat),j - i<=n->i<=j->j<=m.length->(∀t,t < i->bytesLess (iX m t) k=true)->(∀t,j<=t->t < m.length->bytesLess (iX m t) k=false)->
  i<=sL m k i j/\sL m k i j<=j/\(∀t,t < sL m k i j->bytesLess (iX m t) k=true)/\(∀t,sL m k i j<=t->t < m.length->bytesLess (iX m t) k=false):=by
 intro n
 induction n with
 | zero=>
  intro i j h1 h2 h3 h4 h5
  have:i=j:=by omega
  subst this
  have e:sL m k i i=i:=by rw [sL,if_neg (Nat.lt_irrefl _)]
  rw [e]; exact ⟨aD _,aD _,h4,h5⟩
 | succ n ih=>
  intro i j h1 h2 h3 h4 h5
  by_cases hij:i < j
  ·obtain ⟨c,hc⟩ : ∃c,c=(i+j) / 2:=⟨_,rfl⟩
   have qf:sL m k i j=if bytesLess (iX m c) k=true then sL m k (c+1) j else sL m k i c:=by rw [sL,if_pos hij,←hc]
   rw [qf]
   by_cases hb:bytesLess (iX m c) k=true
   ·rw [if_pos hb]
    obtain ⟨g1,g2,g3,g4⟩:=ih (c+1) j aa aa h3 (fun t ht=>by
     by_cases htc:t=c
     ·rw [htc]; exact hb
     ·exact um (uY h (show t < c by omega) aa) hb) h5
    exact ⟨by omega,g2,g3,g4⟩
   ·rw [if_neg hb]
    have nJ:bytesLess (iX m c) k=false:=by simpa using hb
    obtain ⟨g1,g2,g3,g4⟩:=ih i c aa aa aa h4 (fun t ht htl=>by
     by_cases htc:t=c
     ·rw [htc]; exact nJ
     ·cases hh:bytesLess (iX m t) k
      ·rfl
      ·rw [um (uY h (show c < t by omega) htl) hh] at nJ; simp at nJ)
    exact ⟨g1,by omega,g3,g4⟩
  ·have:i=j:=by omega
   subst this
   have e:sL m k i i=i:=by rw [sL,if_neg (Nat.lt_irrefl _)]
   rw [e]; exact ⟨aD _,aD _,h4,h5⟩
theorem zl {k:Bs} {v:V}: ∀ {m:List Mem},iW m k=some v->∃i:Nat,m[i]? =some (k,v)
 | x ::r,h=>by
  simp only [iW] at h
  split at h
  ·rename_i hk
   obtain ⟨a,b⟩:=x
   simp only [ah] at h hk
   exact ⟨0,by simp [h,hk]⟩
  ·obtain ⟨i,hi⟩:=zl h
   exact ⟨i+1,by simpa using hi⟩
theorem zm {k:Bs}: ∀ {m:List Mem},iW m k=none->∀(i:Nat) (x:Mem),m[i]? =some x->x.1≠k
 | [],_,i,x,h=>by simp at h
 | y ::r,h,i,x,hx=>by
  simp only [iW] at h
  split at h
  ·simp at h
  ·rename_i hk
   cases i with
   | zero=>simp at hx; rw [←hx]; exact hk
   | succ i=>exact zm h i x (by simpa using hx)
theorem zJ {v:V} (k:Bs) (h5:v.kind=5) (hr:HS v.m):iZ v k=match iW v.m k with | some x=>(x,true) | none=>(V.zero,false):=by
 obtain ⟨g1,g2,g3,g4⟩:=U3 (k:=k) hr v.m.length 0 v.m.length aa aa (aD _) (fun t ht=>by omega) (fun t h1 h2=>by omega)
 unfold iZ gK
 rw [if_pos h5]
 simp only
 generalize sL v.m k 0 v.m.length=i at g1 g2 g3 g4
 cases hl:iW v.m k with
 | some x=>
  obtain ⟨j,hj⟩:=zl hl
  have lj:=qP hj
  have JA:j=i:=by
   rcases Nat.lt_trichotomy j i with h1 | h1 | h1
   ·have:=g3 j h1
    rw [nT hj,n7] at this; simp at this
   ·exact h1
   ·have h2:=uY hr h1 lj
    rw [nT hj] at h2
    have h3:=g4 i (aD _) aa
    rw [h2] at h3; simp at h3
  subst JA
  have hk:iX v.m j=k:=nT hj
  simp only [lj,decide_true,Bool.true_and,hk,beq_self_eq_true,hj]
 | none=>
  by_cases hi:i < v.m.length
  ·obtain ⟨x,hx⟩:=cq hi
   have fV:(iX v.m i == k)=false:=by
    rw [cE,nT hx]; exact zm hl i x hx
   simp only [fV,bg]
  ·simp only [hi,decide_false,Bool.false_and]
theorem oO {v:V} (k:Bs) (h5:v.kind≠5):iZ v k=(V.zero,false):=by
 unfold iZ gK
 rw [if_neg h5]
theorem wA: ∀(m:List Mem) (p:Option Bs),iN p m=true->HS m/\∀q,p=some q->∀x∈m,bytesLess q x.1=true
 | [],p,_=>⟨List.Pairwise.nil,fun q _ x hx=>by simp at hx⟩
 | (k,v) ::r,p,h=>by
  rw [dX] at h
  simp only [ak] at h
  obtain ⟨h1,h2,h3,h4⟩:=h
  obtain ⟨i1,i2⟩:=wA r (some k) h4
  refine ⟨List.Pairwise.cons (fun x hx=>i2 k rfl x hx) i1,fun q hq x hx=> ?_⟩
  subst hq
  rcases List.mem_cons.1 hx with rfl | hx
  ·exact h2
  ·exact um h2 (i2 k rfl x hx)
theorem zS {v:V} (h5:v.kind=5) (h:v.fine=true):HS v.m:=by
 rw [V.fine_eq,h5] at h
 simp at h
 exact (wA v.m none h.2).1
theorem BY: ∀ {m:List Mem} {p:Option Bs},iN p m=true->∀x∈m,x.2.fine=true/\vu x.1=true
 | (k,v) ::r,p,h,x,hx=>by
  rw [dX] at h
  simp only [ak] at h
  obtain ⟨h1,h2,h3,h4⟩:=h
  rcases List.mem_cons.1 hx with rfl | hx
  ·exact ⟨h3,h1⟩
  ·exact BY h4 x hx
theorem YL {l:List Bs} {j:Nat} {s:Bs} {c:aA} (h:l[j]? =some s):idxOf 1 none (.vsl (l.map AV.str) c) (.int .i64 (j:Int))=some (.vptr [.str s] 0):=cB (f:=AV.str) h rfl
theorem Bl:cR 17 []=some (.bool true):=cQ 5000 (by kernel_rfl)
def S3Fa:=J @VA.eq_1 (J @Kr.eq_1 (J @VC.eq_1 (J @Kq.eq_1 (J @Kp.eq_1 (J @VB.eq_1 (@F79.eq_1))))))
def S3Fb:=J @VA.eq_1 (J @Kr.eq_1 (J @Kq.eq_1 (J @Kp.eq_1 (@F79.eq_1))))
theorem Ol: ∀(n:Nat) (v:V),v.sz < n->v.sz < fF->cR 79 [v.enc]=some (.int .i64 (v.dep:Nat)):=by
 intro n
 induction n with
 | zero=>intro v h; omega
 | succ n ih=>
  intro v h hb
  have fb:=v.sz_eq
  have hl:=oD v.l
  have hm:=oC v.m
  have Za:=xG v.l
  have hdm:=xF v.m
  unfold fF at hb
  have ihL: ∀x∈v.l,cR 79 [x.enc]=some (.int .i64 (x.dep:Nat)):=fun x hx=>by
   have:=jB hx
   exact ih x aa (by unfold fF; omega)
  have ihM: ∀x∈v.m,cR 79 [x.2.enc]=some (.int .i64 (x.2.dep:Nat)):=fun x hx=>by
   have:=gI hx
   exact ih x.2 aa (by unfold fF; omega)
  refine aG (F:=F79) rfl ?_
  rw [V.dep_eq]
  by_cases h4:v.kind=4
  ·have q4:(v.kind == 4)=true:=by simp [h4]
   simp only [S3Fb,ax,az,seval,VX,ae,q4,h4]
   refine aP (S:=Nat×Nat) (fun p=> [(1, .vptr [.int .i64 4, .int .i64 v.n, .str v.s, .vsl (v.l.map V.enc) none, .vsl (v.m.map bp) none] 0),(3, .int .i64 (p.2:Int)),(4, .int .i64 (p.1:Int))]) (fun p=>v.l.length - p.1) (fun p _=>max p.2 (rL (v.l.drop p.1))=rL v.l) ?_ (0,0) _ (by simp)
   rintro b ⟨j,a⟩ σ hj iY
   simp only at hj iY ⊢
   by_cases aR:j < v.l.length
   ·obtain ⟨x,hx⟩:=cq aR
    have cl:=cB (f:=V.enc) (sz:=5) (c:=none) hx (by simp [V.enc_cells])
    have aK:=pD aR
    have bP:=ihL x (bZ hx)
    rw [drop_cons hx,rL] at hj
    simp only [S3Fa,az,seval,VX,ae,aK,cl,bP,CZ]
    exact iY (j+1,max a x.dep) _ _ (by simp; omega) (by simp only; omega) (by rw [cL aR aa]; simp only [az,seval])
   ·have aK:=pE (Nat.not_lt.1 aR)
    rw [cc aa,rL] at hj
    have hw:=cL (j:=a) (n:=AD v.l+1) aa aa
    simp only [S3Fa,az,seval,VX,aK,hw]
    rw [show a=rL v.l by omega]
  ·have q4:(v.kind == 4)=false:=by simp [h4]
   by_cases h5:v.kind=5
   ·have q5:(v.kind == 5)=true:=by simp [h5]
    simp only [S3Fb,ax,az,seval,VX,ae,q4,q5,h4,h5]
    refine aP (S:=Nat×Nat) (fun p=> [(1, .vptr [.int .i64 5, .int .i64 v.n, .str v.s, .vsl (v.l.map V.enc) none, .vsl (v.m.map bp) none] 0),(3, .int .i64 (p.2:Int)),(5, .int .i64 (p.1:Int))]) (fun p=>v.m.length - p.1) (fun p _=>max p.2 (pF (v.m.drop p.1))=pF v.m) ?_ (0,0) _ (by simp)
    rintro b ⟨j,a⟩ σ hj iY
    simp only at hj iY ⊢
    by_cases aR:j < v.m.length
    ·obtain ⟨x,hx⟩:=cq aR
     have cl:=cB (f:=bp) (sz:=6) (c:=none) hx (by simp [bq])
     have aK:=pD aR
     have bP:=ihM x (bZ hx)
     rw [drop_cons hx,Ca] at hj
     simp only [S3Fa,az,seval,VX,ae,aK,cl,bP,CZ]
     exact iY (j+1,max a x.2.dep) _ _ (by simp; omega) (by simp only; omega) (by rw [cL aR aa]; simp only [az,seval])
    ·have aK:=pE (Nat.not_lt.1 aR)
     rw [cc aa,pF] at hj
     have hw:=cL (j:=a) (n:=pI v.m+1) aa aa
     simp only [S3Fa,az,seval,VX,aK,hw]
     rw [show a=pF v.m by omega]
   ·have q5:(v.kind == 5)=false:=by simp [h5]
    simp only [S3Fb,az,Nat.reduceEqDiff,reduceIte,reduceCtorEq,Nat.reduceAdd,Nat.reduceLeDiff,Nat.reduceSub,Nat.reduceMul,Int.reduceEq,Int.reduceBEq,Int.reduceBNe,Int.reduceLT,Int.reduceLE,Nat.reduceLT,VX,ae,q4,q5,h4,h5]
    rfl
theorem Rv (v:V) (hb:v.sz < fF):cR 79 [v.enc]=some (.int .i64 (v.dep:Nat)):=Ol (v.sz+1) v (aV _) hb
def S4Fa:=J @vR.eq_1 (J @vQ.eq_1 (J @vP.eq_1 (J @vO.eq_1 (@Qc.eq_1))))
theorem gL {α:Type} (l:List α):((l.length:Int) == 0)=l.isEmpty:=by
 cases l <;> simp; omega
theorem qn {k a:Int} (h:k≠a):(k == a)=false:=by simp [h]
theorem i00:((0:Int) == 0)=true:=rfl
theorem may0 (v:V) (h:v.kind=0):cR 80 [v.enc]=some (.bool v.fine):=by
 obtain ⟨r,hr⟩ : ∃r,r=AV.bool v.fine:=⟨_,rfl⟩
 rw [←hr]
 rw [V.fine_eq] at hr
 have qe:(([] :Bs) == [])=true:=rfl
 simp only [h,if_true,if_false,V.bare,V.n_mk,V.s_mk,V.l_mk,V.m_mk,i00,qe,Bool.true_and,p7] at hr
 refine aG (F:=Qc) rfl ?_
 have q0:((0:Int) == 0)=true:=rfl
 simp only [S4Fa,az,seval,VX,ae,h,q0,gL,aH]
 cases h1:v.n == 0 with
 | false=>
  simp only [h1,aW,Bool.true_and,Bool.false_and,bg,Bool.and_true,Bool.or_self,Bool.true_or,Bool.or_true,Bool.or_false,Bool.false_or] at hr
  simp only [az,seval,VX,ae,gL,h1,hr,aH]
 | true=>
 cases h2:v.s == [] with
 | false=>
  simp only [h1,h2,aW,Bool.true_and,Bool.false_and,bg,Bool.and_true,Bool.or_self,Bool.true_or,Bool.or_true,Bool.or_false,Bool.false_or] at hr
  simp only [az,seval,VX,ae,gL,h1,h2,hr,aH]
 | true=>
 cases h3:v.l.isEmpty with
 | false=>
  simp only [h1,h2,h3,aW,Bool.true_and,Bool.false_and,bg,Bool.and_true,Bool.or_self,Bool.true_or,Bool.or_true,Bool.or_false,Bool.false_or] at hr
  simp only [az,seval,VX,ae,gL,h1,h2,h3,hr,aH]
 | true=>
 cases h4:v.m.isEmpty with
 | false=>
  simp only [h1,h2,h3,h4,aW,Bool.true_and,Bool.false_and,bg,Bool.and_true,Bool.or_self,Bool.true_or,Bool.or_true,Bool.or_false,Bool.false_or] at hr
  simp only [az,seval,VX,ae,gL,h1,h2,h3,h4,hr,aH]
 | true=>
 simp only [h1,h2,h3,h4,aW,Bool.true_and,Bool.false_and,bg,Bool.and_true,Bool.or_self,Bool.true_or,Bool.or_true,Bool.or_false,Bool.false_or] at hr
 simp only [az,seval,VX,ae,gL,h1,h2,h3,h4,hr,aH]
theorem may1 (v:V) (h:v.kind=1):cR 80 [v.enc]=some (.bool v.fine):=by
 obtain ⟨r,hr⟩ : ∃r,r=AV.bool v.fine:=⟨_,rfl⟩
 rw [←hr]
 rw [V.fine_eq] at hr
 have qe:(([] :Bs) == [])=true:=rfl
 simp only [h,show ((1:Int)=0)=False by simp,if_true,if_false,V.bare,V.n_mk,V.s_mk,V.l_mk,V.m_mk,i00,qe,Bool.true_and,p7] at hr
 refine aG (F:=Qc) rfl ?_
 have q0:((1:Int) == 0)=false:=rfl
 have q1:((1:Int) == 1)=true:=rfl
 simp only [S4Fa,az,seval,VX,ae,h,q0,q1,gL,aH]
 cases h0:v.n == 0 with
 | false=>
  cases h1:v.n == 1 with
  | false=>
   simp only [h0,h1,aW,Bool.true_and,Bool.false_and,bg,Bool.and_true,Bool.or_self,Bool.true_or,Bool.or_true,Bool.or_false,Bool.false_or] at hr
   simp only [az,seval,VX,ae,gL,h0,h1,hr,aH]
  | true=>
   cases h2:v.s == [] with
   | false=>
    simp only [h0,h1,h2,aW,Bool.true_and,Bool.false_and,bg,Bool.and_true,Bool.or_self,Bool.true_or,Bool.or_true,Bool.or_false,Bool.false_or] at hr
    simp only [az,seval,VX,ae,gL,h0,h1,h2,hr,aH]
   | true=>
    cases h3:v.l.isEmpty with
    | false=>
     simp only [h0,h1,h2,h3,aW,Bool.true_and,Bool.false_and,bg,Bool.and_true,Bool.or_self,Bool.true_or,Bool.or_true,Bool.or_false,Bool.false_or] at hr
     simp only [az,seval,VX,ae,gL,h0,h1,h2,h3,hr,aH]
    | true=>
     cases h4:v.m.isEmpty with
     | false=>
      simp only [h0,h1,h2,h3,h4,aW,Bool.true_and,Bool.false_and,bg,Bool.and_true,Bool.or_self,Bool.true_or,Bool.or_true,Bool.or_false,Bool.false_or] at hr
      simp only [az,seval,VX,ae,gL,h0,h1,h2,h3,h4,hr,aH]
     | true=>
      simp only [h0,h1,h2,h3,h4,aW,Bool.true_and,Bool.false_and,bg,Bool.and_true,Bool.or_self,Bool.true_or,Bool.or_true,Bool.or_false,Bool.false_or] at hr
      simp only [az,seval,VX,ae,gL,h0,h1,h2,h3,h4,hr,aH]
 | true=>
  cases h2:v.s == [] with
  | false=>
   simp only [h0,h2,aW,Bool.true_and,Bool.false_and,bg,Bool.and_true,Bool.or_self,Bool.true_or,Bool.or_true,Bool.or_false,Bool.false_or] at hr
   simp only [az,seval,VX,ae,gL,h0,h2,hr,aH]
  | true=>
   cases h3:v.l.isEmpty with
   | false=>
    simp only [h0,h2,h3,aW,Bool.true_and,Bool.false_and,bg,Bool.and_true,Bool.or_self,Bool.true_or,Bool.or_true,Bool.or_false,Bool.false_or] at hr
    simp only [az,seval,VX,ae,gL,h0,h2,h3,hr,aH]
   | true=>
    cases h4:v.m.isEmpty with
    | false=>
     simp only [h0,h2,h3,h4,aW,Bool.true_and,Bool.false_and,bg,Bool.and_true,Bool.or_self,Bool.true_or,Bool.or_true,Bool.or_false,Bool.false_or] at hr
     simp only [az,seval,VX,ae,gL,h0,h2,h3,h4,hr,aH]
    | true=>
     simp only [h0,h2,h3,h4,aW,Bool.true_and,Bool.false_and,bg,Bool.and_true,Bool.or_self,Bool.true_or,Bool.or_true,Bool.or_false,Bool.false_or] at hr
     simp only [az,seval,VX,ae,gL,h0,h2,h3,h4,hr,aH]
theorem may2 (v:V) (h:v.kind=2):cR 80 [v.enc]=some (.bool v.fine):=by
 obtain ⟨r,hr⟩ : ∃r,r=AV.bool v.fine:=⟨_,rfl⟩
 rw [←hr]
 rw [V.fine_eq] at hr
 have qe:(([] :Bs) == [])=true:=rfl
 simp only [h,show ((2:Int)=0)=False by simp,show ((2:Int)=1)=False by simp,if_true,if_false,V.bare,V.n_mk,V.s_mk,V.l_mk,V.m_mk,i00,qe,Bool.true_and,p7] at hr
 refine aG (F:=Qc) rfl ?_
 have q0:((2:Int) == 0)=false:=rfl
 have q1:((2:Int) == 1)=false:=rfl
 have q2:((2:Int) == 2)=true:=rfl
 simp only [S4Fa,az,seval,VX,ae,h,q0,q1,q2,gL,aH]
 have lp:decide (v.n≥ -9007199254740991)=decide (-9007199254740991<=v.n):=rfl
 cases h0:decide (-9007199254740991<=v.n) with
 | false=>
  simp only [h0,aW,Bool.true_and,Bool.false_and,bg,Bool.and_true,Bool.or_self,Bool.true_or,Bool.or_true,Bool.or_false,Bool.false_or] at hr
  simp only [az,seval,VX,ae,gL,h0,lp,hr,aH]
 | true=>
  cases h1:decide (v.n<=9007199254740991) with
  | false=>
   simp only [h0,h1,aW,Bool.true_and,Bool.false_and,bg,Bool.and_true,Bool.or_self,Bool.true_or,Bool.or_true,Bool.or_false,Bool.false_or] at hr
   simp only [az,seval,VX,ae,gL,h0,h1,lp,hr,aH]
  | true=>
   cases h2:v.s == [] with
   | false=>
    simp only [h0,h1,h2,aW,Bool.true_and,Bool.false_and,bg,Bool.and_true,Bool.or_self,Bool.true_or,Bool.or_true,Bool.or_false,Bool.false_or] at hr
    simp only [az,seval,VX,ae,gL,h0,h1,h2,lp,hr,aH]
   | true=>
    cases h3:v.l.isEmpty with
    | false=>
     simp only [h0,h1,h2,h3,aW,Bool.true_and,Bool.false_and,bg,Bool.and_true,Bool.or_self,Bool.true_or,Bool.or_true,Bool.or_false,Bool.false_or] at hr
     simp only [az,seval,VX,ae,gL,h0,h1,h2,h3,lp,hr,aH]
    | true=>
     cases h4:v.m.isEmpty with
     | false=>
      simp only [h0,h1,h2,h3,h4,aW,Bool.true_and,Bool.false_and,bg,Bool.and_true,Bool.or_self,Bool.true_or,Bool.or_true,Bool.or_false,Bool.false_or] at hr
      simp only [az,seval,VX,ae,gL,h0,h1,h2,h3,h4,lp,hr,aH]
     | true=>
      simp only [h0,h1,h2,h3,h4,aW,Bool.true_and,Bool.false_and,bg,Bool.and_true,Bool.or_self,Bool.true_or,Bool.or_true,Bool.or_false,Bool.false_or] at hr
      simp only [az,seval,VX,ae,gL,h0,h1,h2,h3,h4,lp,hr,aH]
theorem may3 (v:V) (h:v.kind=3) (hb:v.s.length < fF):cR 80 [v.enc]=some (.bool v.fine):=by
 obtain ⟨r,hr⟩ : ∃r,r=AV.bool v.fine:=⟨_,rfl⟩
 rw [←hr]
 rw [V.fine_eq] at hr
 have qe:(([] :Bs) == [])=true:=rfl
 simp only [h,show ((3:Int)=0)=False by simp,show ((3:Int)=1)=False by simp,show ((3:Int)=2)=False by simp,if_true,if_false,V.bare,V.n_mk,V.s_mk,V.l_mk,V.m_mk,i00,qe,Bool.true_and,p7] at hr
 refine aG (F:=Qc) rfl ?_
 have q0:((3:Int) == 0)=false:=rfl
 have q1:((3:Int) == 1)=false:=rfl
 have q2:((3:Int) == 2)=false:=rfl
 have q3:((3:Int) == 3)=true:=rfl
 simp only [S4Fa,az,seval,VX,ae,h,q0,q1,q2,q3,gL,aH]
 have g:=CH v.s hb
 cases h0:v.n == 0 with
 | false=>
  simp only [h0,aW,Bool.true_and,Bool.false_and,bg,Bool.and_true,Bool.or_self,Bool.true_or,Bool.or_true,Bool.or_false,Bool.false_or] at hr
  simp only [az,seval,VX,ae,gL,h0,hr,aH]
 | true=>
  cases h1:vu v.s with
  | false=>
   rw [h1] at g
   simp only [h0,h1,aW,Bool.true_and,Bool.false_and,bg,Bool.and_true,Bool.or_self,Bool.true_or,Bool.or_true,Bool.or_false,Bool.false_or] at hr
   simp only [az,seval,VX,ae,gL,h0,h1,g,hr,aH]
  | true=>
   rw [h1] at g
   cases h3:v.l.isEmpty with
   | false=>
    simp only [h0,h1,h3,aW,Bool.true_and,Bool.false_and,bg,Bool.and_true,Bool.or_self,Bool.true_or,Bool.or_true,Bool.or_false,Bool.false_or] at hr
    simp only [az,seval,VX,ae,gL,h0,h1,h3,g,hr,aH]
   | true=>
    cases h4:v.m.isEmpty with
    | false=>
     simp only [h0,h1,h3,h4,aW,Bool.true_and,Bool.false_and,bg,Bool.and_true,Bool.or_self,Bool.true_or,Bool.or_true,Bool.or_false,Bool.false_or] at hr
     simp only [az,seval,VX,ae,gL,h0,h1,h3,h4,g,hr,aH]
    | true=>
     simp only [h0,h1,h3,h4,aW,Bool.true_and,Bool.false_and,bg,Bool.and_true,Bool.or_self,Bool.true_or,Bool.or_true,Bool.or_false,Bool.false_or] at hr
     simp only [az,seval,VX,ae,gL,h0,h1,h3,h4,g,hr,aH]
def S5Fa:=J @vR.eq_1 (J @vQ.eq_1 (J @Ko.eq_1 (J @vP.eq_1 (J @vO.eq_1 (J @Kn.eq_1 (@Qc.eq_1))))))
def S5Fb:=J @vR.eq_1 (J @vQ.eq_1 (J @vP.eq_1 (J @vO.eq_1 (@Qc.eq_1))))
theorem may4 (v:V) (h:v.kind=4) (hb:v.sz < fF) (ih: ∀x∈v.l,cR 80 [x.enc]=some (.bool x.fine)):cR 80 [v.enc]=some (.bool v.fine):=by
 obtain ⟨r,hr⟩ : ∃r,r=AV.bool v.fine:=⟨_,rfl⟩
 rw [←hr]
 rw [V.fine_eq] at hr
 have hlz:=zo v
 unfold fF at hb
 have qe:(([] :List V)).isEmpty=true:=rfl
 simp only [h,show ((4:Int)=0)=False by simp,show ((4:Int)=1)=False by simp,show ((4:Int)=2)=False by simp,show ((4:Int)=3)=False by simp,if_true,if_false,V.bare,V.n_mk,V.s_mk,V.l_mk,V.m_mk,qe,Bool.true_and] at hr
 have q0:((4:Int) == 0)=false:=rfl
 have q1:((4:Int) == 1)=false:=rfl
 have q2:((4:Int) == 2)=false:=rfl
 have q3:((4:Int) == 3)=false:=rfl
 have q4:((4:Int) == 4)=true:=rfl
 refine aG (F:=Qc) rfl ?_
 simp only [S5Fb,ax,az,seval,VX,ae,h,q0,q1,q2,q3,q4]
 refine gT (S:=Nat) (fun j=> [(1, .vptr [.int .i64 4, .int .i64 v.n, .str v.s, .vsl (v.l.map V.enc) none, .vsl (v.m.map bp) none] 0),(3, .int .i64 (j:Int))]) (fun _=> .empty) (fun j=>v.l.length - j) (fun j=>gS (v.l.drop j)=gS v.l) ?_ 0 rfl
 intro b j hj iY
 by_cases aR:j < v.l.length
 ·obtain ⟨x,hx⟩:=cq aR
  have cl:=cB (f:=V.enc) (sz:=5) (c:=none) hx (by simp [V.enc_cells])
  have aK:=pD aR
  have hw:=cL aR aa
  have bP:=ih x (bZ hx)
  rw [drop_cons hx,gS] at hj
  cases hf:x.fine with
  | false=>
   rw [hf] at bP
   rw [hf,Bool.false_and] at hj
   rw [←hj,bg] at hr
   simp only [S5Fa,az,seval,VX,ae,aK,cl,bP,hr]
  | true=>
   rw [hf] at bP
   rw [hf,Bool.true_and] at hj
   simp only [S5Fa,az,seval,VX,ae,aK,cl,bP,hw]
   exact iY (j+1) _ _ aa hj rfl rfl
 ·have aK:=pE (Nat.not_lt.1 aR)
  rw [cc aa,gS] at hj
  rw [←hj,Bool.and_true] at hr
  simp only [S5Fa,az,seval,VX,ae,aK,gL,aH]
  cases h1:v.n == 0 with
  | false=>
   simp only [h1,aW,Bool.true_and,Bool.false_and,bg,Bool.and_true,Bool.or_self,Bool.true_or,Bool.or_true,Bool.or_false,Bool.false_or] at hr
   simp only [az,seval,VX,ae,gL,h1,hr,aH]
  | true=>
   cases h2:v.s == [] with
   | false=>
    simp only [h1,h2,aW,Bool.true_and,Bool.false_and,bg,Bool.and_true,Bool.or_self,Bool.true_or,Bool.or_true,Bool.or_false,Bool.false_or] at hr
    simp only [az,seval,VX,ae,gL,h1,h2,hr,aH]
   | true=>
    cases h4:v.m.isEmpty with
    | false=>
     simp only [h1,h2,h4,aW,Bool.true_and,Bool.false_and,bg,Bool.and_true,Bool.or_self,Bool.true_or,Bool.or_true,Bool.or_false,Bool.false_or] at hr
     simp only [az,seval,VX,ae,gL,h1,h2,h4,hr,aH]
    | true=>
     simp only [h1,h2,h4,aW,Bool.true_and,Bool.false_and,bg,Bool.and_true,Bool.or_self,Bool.true_or,Bool.or_true,Bool.or_false,Bool.false_or] at hr
     simp only [az,seval,VX,ae,gL,h1,h2,h4,hr,aH]
theorem mayNo (v:V) (h0:v.kind≠0) (h1:v.kind≠1) (h2:v.kind≠2) (h3:v.kind≠3) (h4:v.kind≠4) (h5:v.kind≠5):cR 80 [v.enc]=some (.bool v.fine):=by
 have hf:v.fine=false:=by
  rw [V.fine_eq,if_neg h0,if_neg h1,if_neg h2,if_neg h3,if_neg h4,if_neg h5]
 refine aG (F:=Qc) rfl ?_
 simp only [S5Fb,az,seval,VX,ae,qn h0,qn h1,qn h2,qn h3,qn h4,qn h5,hf]
def Kf:=J @vR.eq_1 (J @vQ.eq_1 (J @Ko.eq_1 (J @vP.eq_1 (J @vO.eq_1 (J @Kn.eq_1 (@Qc.eq_1))))))
theorem YD (a b:Bs):(bytesLess a b || a == b)= !(bytesLess b a):=by
 cases h:bytesLess b a with
 | true=>
  have h1:=HK h
  have h2:(a == b)=false:=by
   rw [cE]; rintro rfl; rw [n7] at h; cases h
  rw [h1,h2]; rfl
 | false=>
  cases h1:bytesLess a b with
  | true=>rfl
  | false=>have:=Aj h1 h; subst this; simp
theorem may5 (v:V) (h:v.kind=5) (hb:v.sz < fF) (ih: ∀x∈v.m,cR 80 [x.2.enc]=some (.bool x.2.fine)):cR 80 [v.enc]=some (.bool v.fine):=by
 obtain ⟨r,hr⟩ : ∃r,r=AV.bool v.fine:=⟨_,rfl⟩
 rw [←hr]
 rw [V.fine_eq] at hr
 have hmz:=iV v
 have fb:=v.sz_eq
 unfold fF at hb
 have qe:(([] :List Mem)).isEmpty=true:=rfl
 simp only [h,show ((5:Int)=0)=False by simp,show ((5:Int)=1)=False by simp,show ((5:Int)=2)=False by simp,show ((5:Int)=3)=False by simp,show ((5:Int)=4)=False by simp,if_true,if_false,V.bare,V.n_mk,V.s_mk,V.l_mk,V.m_mk,qe,Bool.and_true] at hr
 have q0:((5:Int) == 0)=false:=rfl
 have q1:((5:Int) == 1)=false:=rfl
 have q2:((5:Int) == 2)=false:=rfl
 have q3:((5:Int) == 3)=false:=rfl
 have q4:((5:Int) == 4)=false:=rfl
 have q5:((5:Int) == 5)=true:=rfl
 refine aG (F:=Qc) rfl ?_
 simp only [vR,vQ,vP,vO,Qc,ax,az,seval,VX,ae,h,q0,q1,q2,q3,q4,q5]
 refine gT (S:=Nat) (fun j=> [(1, .vptr [.int .i64 5, .int .i64 v.n, .str v.s, .vsl (v.l.map V.enc) none, .vsl (v.m.map bp) none] 0),(4, .int .i64 (j:Int))]) (fun _=> .empty) (fun j=>v.m.length - j) (fun j=>iN (rW v.m j) (v.m.drop j)=iN none v.m) ?_ 0 rfl
 intro b j hj iY
 by_cases aR:j < v.m.length
 ·obtain ⟨⟨key,x⟩,hx⟩:=cq aR
  have cl:=cB (f:=bp) (sz:=6) (c:=none) hx (by simp [bq])
  have aK:=pD aR
  have hw:=cL aR aa
  have bP:=ih _ (bZ hx)
  have hmem:=gI (bZ hx)
  simp only at bP hmem
  have hg:=CH key aa
  rw [drop_cons hx,dX] at hj
  cases g1:vu key with
  | false=>
   rw [g1] at hg
   rw [g1,Bool.false_and] at hj
   rw [←hj,bg] at hr
   simp only [Kf,az,seval,VX,ae,aK,cl,hg,hr]
  | true=>
  rw [g1] at hg
  rw [g1,Bool.true_and] at hj
  by_cases h0:j=0
  ·subst h0
   have d0:decide (((0:Nat):Int) > 0)=false:=rfl
   have hp:EP (rW v.m 0) key=true:=rfl
   rw [hp,Bool.true_and] at hj
   cases hf:x.fine with
   | false=>
    rw [hf] at bP
    rw [hf,Bool.false_and] at hj
    rw [←hj,bg] at hr
    simp only [Kf,az,Nat.reduceEqDiff,reduceIte,reduceCtorEq,Nat.reduceAdd,Nat.reduceLeDiff,Nat.reduceSub,Nat.reduceMul,Int.reduceEq,Int.reduceBEq,Int.reduceBNe,Int.reduceLT,Int.reduceLE,Nat.reduceLT,VX,ae,aK,cl,hg,d0,bP,hr]
   | true=>
    rw [hf] at bP
    rw [hf,Bool.true_and] at hj
    simp only [Kf,az,Nat.reduceEqDiff,reduceIte,reduceCtorEq,Nat.reduceAdd,Nat.reduceLeDiff,Nat.reduceSub,Nat.reduceMul,Int.reduceEq,Int.reduceBEq,Int.reduceBNe,Int.reduceLT,Int.reduceLE,Nat.reduceLT,VX,ae,aK,cl,hg,d0,bP,hw]
    exact iY 1 _ _ aa (by rw [sA hx]; exact hj) rfl rfl
  ·obtain ⟨⟨pk,px⟩,V6⟩:=cq (l:=v.m) (j:=j - 1) aa
   have l9:=cB (f:=bp) (sz:=6) (c:=none) V6 (by simp [bq])
   have d0:decide ((j:Int) > 0)=true:=by simp; omega
   have hwp:=QG (j:=j) aa aa
   have hp:EP (rW v.m j) key=bytesLess pk key:=by simp [rW,h0,V6,EP]
   rw [hp] at hj
   have hle:(bytesLess key pk || key == pk)= !(bytesLess pk key):=YD key pk
   cases hl:bytesLess pk key with
   | false=>
    rw [hl,Bool.false_and] at hj
    rw [←hj,bg] at hr
    simp only [Kf,az,seval,VX,ae,aK,cl,hg,d0,hwp,l9,hle,hl,Bool.not_false,hr]
   | true=>
   rw [hl,Bool.true_and] at hj
   cases hf:x.fine with
   | false=>
    rw [hf] at bP
    rw [hf,Bool.false_and] at hj
    rw [←hj,bg] at hr
    simp only [Kf,az,seval,VX,ae,aK,cl,hg,d0,hwp,l9,hle,hl,Bool.not_true,bP,hr]
   | true=>
    rw [hf] at bP
    rw [hf,Bool.true_and] at hj
    simp only [Kf,az,seval,VX,ae,aK,cl,hg,d0,hwp,l9,hle,hl,Bool.not_true,bP,hw]
    exact iY (j+1) _ _ aa (by rw [sA hx]; exact hj) rfl rfl
 ·have aK:=pE (Nat.not_lt.1 aR)
  rw [cc aa,iN] at hj
  rw [←hj,Bool.and_true] at hr
  simp only [Kf,az,seval,VX,ae,aK,gL,aH]
  cases h1:v.n == 0 with
  | false=>
   simp only [h1,aW,Bool.true_and,Bool.false_and,bg,Bool.and_true,Bool.or_self,Bool.true_or,Bool.or_true,Bool.or_false,Bool.false_or] at hr
   simp only [az,seval,VX,ae,gL,h1,hr,aH]
  | true=>
   cases h2:v.s == [] with
   | false=>
    simp only [h1,h2,aW,Bool.true_and,Bool.false_and,bg,Bool.and_true,Bool.or_self,Bool.true_or,Bool.or_true,Bool.or_false,Bool.false_or] at hr
    simp only [az,seval,VX,ae,gL,h1,h2,hr,aH]
   | true=>
    cases h3:v.l.isEmpty with
    | false=>
     simp only [h1,h2,h3,aW,Bool.true_and,Bool.false_and,bg,Bool.and_true,Bool.or_self,Bool.true_or,Bool.or_true,Bool.or_false,Bool.false_or] at hr
     simp only [az,seval,VX,ae,gL,h1,h2,h3,hr,aH]
    | true=>
     simp only [h1,h2,h3,aW,Bool.true_and,Bool.false_and,bg,Bool.and_true,Bool.or_self,Bool.true_or,Bool.or_true,Bool.or_false,Bool.false_or] at hr
     simp only [az,seval,VX,ae,gL,h1,h2,h3,hr,aH]
end Go.Ab
namespace Go.Ab
set_option maxHeartbeats 1000000
set_option maxRecDepth 100000
section
variable {e:Ev} {k:List Item} {σ:ag} {Q:Fr->ag->Prop}
end
end Go.Ab
namespace Go.Ab
set_option maxRecDepth 100000
theorem r_mayN: ∀(n:Nat) (v:V),v.sz < n->v.sz < fF->cR 80 [v.enc]=some (.bool v.fine):=by
 intro n
 induction n with
 | zero=>intro v h; omega
 | succ n ih=>
  intro v h hb
  have fb:=v.sz_eq
  have ihL: ∀x∈v.l,cR 80 [x.enc]=some (.bool x.fine):=fun x hx=>by
   have:=jB hx
   exact ih x aa aa
  have ihM: ∀x∈v.m,cR 80 [x.2.enc]=some (.bool x.2.fine):=fun x hx=>by
   have:=gI hx
   exact ih x.2 aa aa
  by_cases h0:v.kind=0
  ·exact may0 v h0
  by_cases h1:v.kind=1
  ·exact may1 v h1
  by_cases h2:v.kind=2
  ·exact may2 v h2
  by_cases h3:v.kind=3
  ·exact may3 v h3 aa
  by_cases h4:v.kind=4
  ·exact may4 v h4 hb ihL
  by_cases h5:v.kind=5
  ·exact may5 v h5 hb ihM
  exact mayNo v h0 h1 h2 h3 h4 h5
theorem r_may (v:V) (hb:v.sz < fF):cR 80 [v.enc]=some (.bool v.fine):=r_mayN (v.sz+1) v (aV _) hb
theorem qD (v:V) (hb:v.sz < fF):cR 69 [v.enc]=some (.bool v.good):=by
 have h1:=Rv v hb
 have h2:=r_may v hb
 have hd:decide ((v.dep:Int)<=50)=decide (v.dep<=50):=by
  rw [decide_eq_decide]; omega
 refine aG (F:=F69) rfl ?_
 unfold V.good
 cases hq:decide (v.dep<=50) <;> rw [hq] at hd <;> simp only [F69,az,seval,VX,ae,h1,h2,hd,Bool.and_true,bg]
def Q5Fa:= @F195.eq_1
theorem u9 (s:Bs):(eo s).length<=6*s.length+2:=by
 have:=Dl s
 simp only [eo,List.length_cons,aq,List.length_nil]; omega
mutual
theorem V.wr_len: ∀v:V,v.fine=true->v.wr.length+4<=32*v.sz
 | .mk k n s l m,h=>by
  have hq:=u9 s
  rw [V.fine] at h
  rw [V.wr,V.sz]
  by_cases h0:k=0
  ·rw [if_pos h0]; simp only [List.length_cons,List.length_nil]; omega
  rw [if_neg h0] at h ⊢
  by_cases h1:k=1
  ·rw [if_pos h1]; split <;> simp only [List.length_cons,List.length_nil] <;> omega
  rw [if_neg h1] at h ⊢
  by_cases h2:k=2
  ·rw [if_pos h2,ak] at h
   have:=Hz h.2
   rw [if_pos h2]; omega
  rw [if_neg h2] at h ⊢
  by_cases h3:k=3
  ·rw [if_pos h3]; omega
  rw [if_neg h3] at h ⊢
  by_cases h4:k=4
  ·rw [if_pos h4,ak] at h
   have:=K8 l h.2
   rw [if_pos h4]; simp only [List.length_cons,aq,List.length_nil,List.length_tail]; omega
  rw [if_neg h4] at h ⊢
  by_cases h5:k=5
  ·rw [if_pos h5,ak] at h
   have:=K6 m none h.2
   simp only [List.length_cons,aq,List.length_nil,List.length_tail]; omega
  ·rw [if_neg h5] at h; cases h
theorem K8: ∀l:List V,gS l=true->(vV l).length<=32*AD l
 | [],_=>by simp [vV]
 | v ::r,h=>by
  simp only [gS,ak] at h
  have h1:=V.wr_len v h.1
  have h2:=K8 r h.2
  simp only [vV,AD,List.length_cons,aq]; omega
theorem K6: ∀(l:List (Bs×V)) (p:Option Bs),iN p l=true->(vU l).length<=32*pI l
 | [],_,_=>by simp [vU]
 | (k,v) ::r,p,h=>by
  rw [dX] at h
  simp only [ak] at h
  have h1:=V.wr_len v h.2.2.1
  have h2:=K6 r (some k) h.2.2.2
  have hq:=u9 k
  simp only [vU,pI,List.length_cons,aq]; omega
end
theorem Rw {v:V} (hb:v.sz < 4294967296):cR 195 [v.enc]=some (.tup (if v.good=true then [.str v.wr, .int .i64 0] else [.str [], .int .i64 1])):=by
 have hg:=qD v (by unfold fF; omega)
 refine aG (F:=F195) rfl ?_
 cases hv:v.good
 ·rw [hv] at hg
  simp only [Q5Fa,az,seval,VX,ae,hg,hv,bh,if_false]
 ·rw [hv] at hg
  have hf:v.fine=true:=by unfold V.good at hv; rw [ak] at hv; exact hv.1
  have hl:=V.wr_len v hf
  obtain ⟨y,σ',c1,c2⟩:=c_rPut (v.sz+1) v (aV _) hf aa ⟨0, []⟩ .nils [] (.inl ⟨rfl,rfl⟩) (by simp only [List.length_nil]; omega)
  have hs:fQ (rowOf σ' 1 y)=some (.str v.wr):=by
   rw [List.nil_append] at c2
   rcases c2 with ⟨e,rfl⟩ | ⟨b,rfl,h1,h2,h3⟩
   ·rw [e]; rfl
   ·rw [xg (v:=v.wr) (by unfold AQ; rw [h1]) h3 rfl]; simp only [fQ,kL,Option.map_some]
  simp only [Q5Fa,az,seval,VX,ae,hg,hv,if_true,c1,hs]
abbrev tyB:Nat:=246
abbrev tyU:Nat:=5
def lS (b:UInt8):UInt8:=if b=34 then 34 else if b=92 then 92 else if b=8 then 98 else if b=9 then 116 else if b=10 then 110 else if b=12 then 102 else if b=13 then 114 else 0
theorem PG (b:UInt8):(lS b≠0/\gD b= [92,lS b])∨(lS b=0/\b < 32/\gD b= [92,117,48,48,rK (b >>> 4),rK (b &&& 15)])∨(lS b=0/\¬b < 32/\gD b= [b]):=by
 unfold lS gD
 by_cases h1:b=34
 ·left; simp [h1]
 by_cases h2:b=92
 ·left; simp [h2]
 by_cases h3:b=8
 ·left; simp [h3]
 by_cases h4:b=9
 ·left; simp [h4]
 by_cases h5:b=10
 ·left; simp [h5]
 by_cases h6:b=12
 ·left; simp [h6]
 by_cases h7:b=13
 ·left; simp [h7]
 right
 by_cases h8:b < 32
 ·left; simp [h1,h2,h3,h4,h5,h6,h7,h8]
 ·right; simp only [h1,h2,h3,h4,h5,h6,h7,h8,if_false]; exact ⟨trivial,not_false,trivial⟩
theorem Xg (b:UInt8):cR 388 [.int .u8 (b.toNat:Int)]=some (.int .u8 ((lS b).toNat:Int)):=by
 have k (b:UInt8):(match (dd cA (run cA gU 400) (.fn 388 [] []) [.int .u8 (b.toNat:Int)] .empty).bind (fun x=>rbE x.2 x.1) with | some (.int .u8 n)=>n == ((lS b).toNat:Int) | _=>false)=true:=
  gE (p:=fun b=>(match (dd cA (run cA gU 400) (.fn 388 [] []) [.int .u8 (b.toNat:Int)] .empty).bind (fun x=>rbE x.2 x.1) with | some (.int .u8 n)=>n == ((lS b).toNat:Int) | _=>false)) (by kernel_rfl) b
 have h:=k b
 refine cQ 400 ?_
 split at h
 ·rename_i n e; rw [e,eq_of_beq h]
 ·cases h
def HU (σ:ag) (x:AV) (t:Bs):Prop:=(t= []/\x= .nils)∨∃c,x= .sl c 0 t.length 1 none/\look σ.m c=some (.own (af t))/\c < σ.next/\0 < t.length/\σ.tagged c tyU=true
def Qh (σ:ag) (b:Nat) (t:Bs):Prop:=∃a x,look σ.m b=some (.own [a,x])/\(a= .lit (.pointer none)∨a= .ptr b 0)/\σ.tagged b tyB=true/\b < σ.next/\HU σ x t/\∀c n,x= .sl c 0 n 1 none->c≠b
theorem nN {n:Nat} {m:List (Nat×jP)} {e:Nat×jP} {b k:Nat} (h:ag.tagged ⟨n,m⟩ b k=true) (n':Nat):ag.tagged ⟨n',e ::m⟩ b k=true:=by
 unfold ag.tagged at*
 simp only [List.any_cons,Bool.or_eq_true]; exact .inr h
theorem Lt {σ:ag} {b k b' k':Nat} (h:σ.tagged b k=true):(σ.addTag b' k').tagged b k=true:=by
 unfold ag.tagged ag.addTag at*
 simp only [List.any_append,Bool.or_eq_true]; exact .inl h
theorem Cx {σ:ag} {b k:Nat}:(σ.addTag b k).tagged b k=true:=by
 unfold ag.tagged ag.addTag
 simp [S7]
theorem tM {α:Type} {m:List (Nat×α)} {r:List (Nat×α)} {j:Nat} {x:α} (h:look m j=some x):look (m ++r) j=some x:=by
 induction m with
 | nil=>cases h
 | cons e m ih=>
  obtain ⟨i,y⟩:=e
  rw [List.cons_append,look]
  rw [look] at h
  split
  ·rename_i e; rw [if_pos e] at h; exact h
  ·rename_i e; rw [if_neg e] at h; exact ih h
theorem ZG {σ:ag} {b:Nat} {a x:AV} {t:Bs} (hb:look σ.m b=some (.own [a,x])) (aR:b < σ.next) (ht:σ.tagged b tyB=true) (hx:HU σ x t) (hn: ∀c n,x= .sl c 0 n 1 none->c≠b) (u:Bs) (hu:0 < u.length) (hl:t.length+u.length < 1099511627776) :
  ∃y σ',jO σ tyU 1 1 x (af u) u.length=some (y,σ')/\look σ'.m b=some (.own [a,x])/\b < σ'.next/\σ'.tagged b tyB=true/\HU σ' y (t ++u)/\∀c n,y= .sl c 0 n 1 none->c≠b:=by
 rcases hx with ⟨rfl,rfl⟩ | ⟨c,rfl,h1,h2,h3,h4⟩
 ·have q:aF σ 1 1 .nils (af u) u.length=some (.sl σ.next 0 u.length 1 none,σ.alloc (af u)):=by
   unfold aF
   simp only [lenOf,Nat.zero_add]
   rw [if_pos ⟨by decide,by decide,by unfold aY; simp at hl; omega,by rw [aM]; omega,cp u⟩,if_neg aa]
  have fV: ¬σ.next=b:=by omega
  refine ⟨.sl σ.next 0 u.length 1 none,(σ.alloc (af u)).addTag σ.next tyU,?_,?_,?_,?_, .inr ⟨σ.next,rfl,?_,?_,hu,Cx⟩,?_⟩
  ·unfold jO
   rw [if_neg aa]
   simp only [q,Option.map_some]
  ·exact tM (by simp [ag.alloc,look,fV,hb])
  ·simp only [ag.addTag,ag.alloc]; omega
  ·exact Lt (nN ht _)
  ·exact tM (by simp [ag.alloc,look])
  ·simp only [ag.addTag,ag.alloc]; omega
  ·intro c n e; cases e; exact fV
 ·obtain ⟨σ',q1,q2,q3,q4⟩:=fY (σ:=σ) (sz:=1) (bytes:=1) (n:=t.length) (k:=u.length) (ob:=some c) (cells:=af t) (new:=af u) ⟨h1,by rw [aM]; omega,h2,h3⟩ (by decide) (by decide) (by unfold aY; omega) (by rw [aM]; omega) (cp u) hu
  have q5:σ'=(σ.set c .dead).alloc (af t ++af u):=by
   have ho:σ.owned c=some (af t):=by unfold ag.owned ag.get; rw [h1]
   have:aF σ 1 1 (.sl c 0 t.length 1 none) (af u) u.length=some (.sl σ.next 0 (t.length+u.length) 1 none,(σ.set c .dead).alloc (af t ++af u)):=by
    unfold aF
    simp only [lenOf]
    rw [if_pos ⟨by decide,by decide,by unfold aY; omega,by rw [aM]; omega,cp u⟩]
    simp only [if_true,ho]
    rw [if_neg aa,if_pos (by rw [aM]; omega),List.drop_zero]
   rw [show ik 1 (some c) t.length= .sl c 0 t.length 1 none from rfl,this] at q1
   simp only [ah,aL] at q1
   exact q1.2.symm
  have hcb:c≠b:=hn c _ rfl
  have fV: ¬σ.next=b:=by omega
  refine ⟨.sl σ.next 0 (t.length+u.length) 1 none,σ'.addTag σ.next tyU,?_,?_,?_,?_, .inr ⟨σ.next,by rw [aq],?_,?_,by rw [aq]; omega,Cx⟩,?_⟩
  ·unfold jO
   rw [if_neg aa]
   simp only [h4,if_true]
   rw [show aF σ 1 1 (.sl c 0 t.length 1 none) (af u) u.length=some (.sl σ.next 0 (t.length+u.length) 1 none,σ') from q1,Option.map_some]
  ·refine tM ?_
   have:=q4 b aR (fun e=>hcb (bT e))
   unfold ag.get at this; rw [this]; exact hb
  ·simp only [ag.addTag]; omega
  ·refine Lt ?_
   rw [q5]; exact nN (n:=σ.next) (nN (n:=σ.next) ht _) _
  ·refine tM ?_
   rw [lP]; exact q2.1
  ·simp only [ag.addTag]; omega
  ·intro c' n e; cases e; exact fV
theorem WN (σ:ag) (b:Nat) (a x:AV) (h:look σ.m b=some (.own [a,x])) (ht:σ.tagged b tyB=true):Ac σ tyB 2 (.ptr b 0)=some (.ptr b 0,σ):=by
 have ho:σ.owned b=some [a,x]:=by unfold ag.owned ag.get; rw [h]
 simp [Ac,ht,ho]
def Q7Fc:= @F371.eq_1
def Q7Fd:=J @Kz.eq_1 (J @DS.eq_1 (J @M9.eq_1 (@F372.eq_1)))
def Q7Fg:= @F387.eq_1
def Bl1 (σ:ag) (b:Nat) (x:AV) (t:Bs):Prop:=look σ.m b=some (.own [.ptr b 0,x])/\σ.tagged b tyB=true/\b < σ.next/\HU σ x t/\∀c n,x= .sl c 0 n 1 none->c≠b
theorem Bl1.bld {σ:ag} {b:Nat} {x:AV} {t:Bs} (h:Bl1 σ b x t):Qh σ b t:=⟨_,x,h.1, .inr rfl,h.2.1,h.2.2.1,h.2.2.2.1,h.2.2.2.2⟩
theorem L7 {σ:ag} {b:Nat} {x:AV} {t:Bs} {e:jP} (h:HU σ x t) (hn: ∀c n,x= .sl c 0 n 1 none->c≠b):HU { σ with m:=(b,e) ::σ.m } x t:=by
 rcases h with ⟨rfl,rfl⟩ | ⟨c,rfl,h1,h2,h3,h4⟩
 ·exact .inl ⟨rfl,rfl⟩
 ·have hc:=hn c _ rfl
  refine .inr ⟨c,rfl,?_,h2,h3,nN (n:=σ.next) h4 _⟩
  have: ¬b=c:=fun e=>hc e.symm
  simp [look,this,h1]
theorem MP {σ:ag} {b:Nat} {t:Bs} (h:Qh σ b t): ∃σ' x,cj cA gU (.fn 387 [] []) [.ptr b 0] σ=some (.tup [],σ')/\Bl1 σ' b x t:=by
 obtain ⟨a,x,h1,ha,h2,h3,h4,h5⟩:=h
 have hc:(σ.cells b).isSome=true:=by unfold ag.cells ag.get; rw [h1]; rfl
 rcases ha with rfl | rfl
 ·have vq:=WN σ b _ x h1 h2
  refine ⟨{ σ with m:=(b, .own [.ptr b 0,x]) ::σ.m },x,?_,by simp [look],nN (n:=σ.next) h2 _,h3,L7 h4 h5,h5⟩
  refine cU (F:=F387) rfl ?_
  have hsm:dm .same [.ptr b 0]=some (.ptr b 0):=rfl
  simp only [Q7Fg,az,seval,ae,cy,h1,vq,hsm]
 ·have heq:B7 σ true (.ptr b 0) (.ptr b 0)=some (.bool false):=by simp [B7,hc]
  refine ⟨σ,x,?_,h1,h2,h3,h4,h5⟩
  refine cU (F:=F387) rfl ?_
  simp only [Q7Fg,az,seval,ae,cy,h1,heq]
theorem HU.cells {σ:ag} {x:AV} {t:Bs} (h:HU σ x t):x.cells= [x]/\AV.one x=true:=by
 rcases h with ⟨_,rfl⟩ | ⟨c,rfl,_⟩ <;> exact ⟨rfl,rfl⟩
theorem MX {σ:ag} {b:Nat} {x:AV} {t:Bs} (h:Bl1 σ b x t) (u:Bs) (hu:0 < u.length) (hl:t.length+u.length < 1099511627776) :
  ∃y σ',jO σ tyU 1 1 x (af u) u.length=some (y,σ')/\look σ'.m b=some (.own [.ptr b 0,x])/\Bl1 { σ' with m:=(b, .own [.ptr b 0,y]) ::σ'.m } b y (t ++u):=by
 obtain ⟨y,σ',q1,q2,q3,q4,q5,q6⟩:=ZG h.1 h.2.2.1 h.2.1 h.2.2.2.1 h.2.2.2.2 u hu hl
 exact ⟨y,σ',q1,q2,by simp [look],nN (n:=σ'.next) q4 _,q3,L7 q5 q6,q6⟩
theorem o9 {σ:ag} {b:Nat} {t:Bs} (h:Qh σ b t) (c:UInt8) (hl:t.length+1 < 1099511627776): ∃r σ',cj cA gU (.fn 370 [] []) [.ptr b 0, .int .u8 (c.toNat:Int)] σ=some (r,σ')/\Qh σ' b (t ++ [c]):=by
 obtain ⟨σ1,x,c1,c2⟩:=MP h
 obtain ⟨y,σ2,e1,e2,e3⟩:=MX c2 [c] (by simp) (by simpa using hl)
 have hr {e:aA}:rowOf σ1 1 (.vsl [.int .u8 (c.toNat:Int)] e)=some [.int .u8 (c.toNat:Int)]:=rfl
 have e1':jO σ1 tyU 1 1 x [.int .u8 (c.toNat:Int)] 1=some (y,σ2):=e1
 have g1:=c2.1
 obtain ⟨yc,y1⟩:=e3.2.2.2.1.cells
 have hp:gv (.appT 5 1 1 false) σ1 [x, .vsl [.int .u8 (c.toNat:Int)] (some 1)]=some (y,σ2):=by
  simp [gv,lenOf,hr,isStr,e1']
 refine gY (F:=F370) rfl ?_
 simp only [F370,az,seval,ae,cy,c1,g1,hp,e2,yc,y1]
 exact ⟨_,rfl,e3.bld⟩
theorem c_wStr {σ:ag} {b:Nat} {t:Bs} (h:Qh σ b t) (u:Bs) (hu:0 < u.length) (hl:t.length+u.length < 1099511627776): ∃r σ',cj cA gU (.fn 389 [] []) [.ptr b 0, .str u] σ=some (r,σ')/\Qh σ' b (t ++u):=by
 obtain ⟨σ1,x,c1,c2⟩:=MP h
 obtain ⟨y,σ2,e1,e2,e3⟩:=MX c2 u hu hl
 have g1:=c2.1
 obtain ⟨yc,y1⟩:=e3.2.2.2.1.cells
 refine gY (F:=F389) rfl ?_
 simp only [F389,az,seval,ae,cy,c1,g1,e1,e2,yc,y1]
 exact ⟨_,rfl,e3.bld⟩
theorem c_wPut {σ:ag} {b:Nat} {t:Bs} (h:Qh σ b t) (c:UInt8) (hl:t.length+6 < 1099511627776): ∃r σ',cj cA gU (.fn 371 [.ptr b 0] []) [.int .u8 (c.toNat:Int)] σ=some (r,σ')/\Qh σ' b (t ++gD c):=by
 have hs:=Xg c
 refine gY (F:=F371) rfl ?_
 rcases PG c with ⟨h0,e⟩ | ⟨h0,h8,e⟩ | ⟨h0,h8,e⟩
 ·have fV:(((lS c).toNat:Int) != 0)=true:=by
   rw [bne_iff_ne]; intro k; exact h0 (UInt8.toNat.inj (by show (lS c).toNat=0; omega))
  obtain ⟨r1,σ1,a1,a2⟩:=o9 h 92 aa
  obtain ⟨r2,σ2,b1,b2⟩:=o9 a2 (lS c) (by rw [aq]; simp only [List.length_cons,List.length_nil]; omega)
  rw [show (((92:UInt8).toNat:Nat):Int)=92 from rfl] at a1
  rw [e]
  simp only [Q7Fc,az,seval,ae,cy,hs,fV,a1,b1]
  exact ⟨_,rfl,by simpa [bb] using b2⟩
 ·have fV:((((0:UInt8).toNat:Nat):Int) != 0)=false:=rfl
  rw [h0] at hs
  have aR:decide ((c.toNat:Int) < 32)=true:=decide_eq_true (by have:=UInt8.lt_iff_toNat_lt.1 h8; have:(32:UInt8).toNat=32:=rfl; omega)
  have vn:=Tx c
  have nV:=Tw c
  rw [show Gl= [48,49,50,51,52,53,54,55,56,57,97,98,99,100,101,102] from rfl] at vn nV
  have mD:bk .shr .u8 (c.toNat:Int) 4=some (.int .u8 ((c.toNat / 16:Nat):Int)):=WW c.toNat 4 (by decide)
  have h15:=Vi c
  obtain ⟨r1,σ1,a1,a2⟩:=c_wStr h [92,117,48,48] (by decide) (by simp only [List.length_cons,List.length_nil]; omega)
  obtain ⟨r2,σ2,b1,b2⟩:=o9 a2 (rK (c >>> 4)) (by rw [aq]; simp only [List.length_cons,List.length_nil]; omega)
  obtain ⟨r3,σ3,d1,d2⟩:=o9 b2 (rK (c &&& 15)) (by simp only [aq,List.length_cons,List.length_nil]; omega)
  rw [e]
  simp only [Q7Fc,az,seval,ae,cy,hs,fV,aR,a1,mD,h15,vn,nV,b1,d1]
  exact ⟨_,rfl,by simpa [bb] using d2⟩
 ·have fV:((((0:UInt8).toNat:Nat):Int) != 0)=false:=rfl
  rw [h0] at hs
  have aR:decide ((c.toNat:Int) < 32)=false:=decide_eq_false (fun k=>h8 (UInt8.lt_iff_toNat_lt.2 (by have:(32:UInt8).toNat=32:=rfl; omega)))
  obtain ⟨r1,σ1,a1,a2⟩:=o9 h c aa
  rw [e]
  simp only [Q7Fc,az,seval,ae,cy,hs,fV,aR,a1]
  exact ⟨_,rfl,a2⟩
theorem Zz {σ:ag} {b:Nat} {t:Bs} (h:Qh σ b t) (s:Bs) (hl:t.length+6*s.length+6 < 1099511627776): ∃r σ',cj cA gU (.fn 372 [] []) [.str s, .fn 371 [.ptr b 0] []] σ=some (r,σ')/\Qh σ' b (t ++s.flatMap gD):=by
 refine gY (F:=F372) rfl ?_
 simp only [Kz,DS,F372,az,seval,ae,ax]
 refine aP (S:=Nat) (fun j=> [(0, .str s),(1, .fn 371 [.ptr b 0] []),(6, .int .i64 s.length),(7, .int .i64 (j:Int))]) (fun j=>s.length - j)
  (fun j σ=>Qh σ b (t ++(s.take j).flatMap gD)/\j<=s.length) ?_ 0 _ ⟨by simpa using h,Nat.zero_le _⟩
 rintro B j σ1 ⟨g1,g2⟩ ih
 by_cases hj:j=s.length
 ·subst hj
  rw [List.take_length] at g1
  have d1:=pE (aD s.length)
  simp only [Q7Fd,az,seval,ae,d1]
  exact ⟨_,rfl,g1⟩
 ·have aR:j < s.length:=by omega
  obtain ⟨c,hc⟩:=cq aR
  have d1:=pD aR
  have ET:et (.str s) (.int .i64 (j:Int))=some (.int .u8 (c.toNat:Int)):=DC hc
  have hw:=cL aR aa
  have he:=Hq hc
  have hle:=Dl (s.take j)
  rw [bU,Nat.min_eq_left g2] at hle
  obtain ⟨r1,σ2,a1,a2⟩:=c_wPut g1 c (by rw [aq]; omega)
  simp only [Q7Fd,az,seval,ae,d1,ET,a1,hw]
  exact ih (j+1) _ _ aa ⟨by rw [he,←bb]; exact a2,aR⟩ rfl
theorem P3 {σ:ag} {b:Nat} {t:Bs} (h:Qh σ b t) (h0:0 < t.length) (hl:t.length < 1099511627776): ∃r σ',cj cA gU (.fn 373 [] []) [.ptr b 0] σ=some (r,σ')/\r= .str t:=by
 obtain ⟨a,x,h1,ha,h2,h3,h4,h5⟩:=h
 rcases h4 with ⟨rfl,rfl⟩ | ⟨c,rfl,k1,k2,k3,k4⟩
 ·simp at h0
 have ho:σ.owned c=some (af t):=by unfold ag.owned ag.get; rw [k1]
 have hb:bytesOf (af t)=some t:=kL t
 have uL:(af t).take t.length=af t:=aJ (by rw [aM]; exact aD _)
 have hle:t.length<=(af t).length:=by rw [aM]; exact aD _
 have hu:sf σ tyU (.ptr c 0) (t.length:Int)=some (.str t,σ.set c .dead):=by
  simp only [sf,Int.toNat_natCast,Nat.zero_add,List.drop_zero]
  rw [if_pos ⟨k4,by omega,by omega⟩]
  simp only [ho,if_pos hle,uL,hb]
 have hs:s9 (.sl c 0 t.length 1 none)=some (.ptr c 0):=by simp only [s9,if_pos h0]
 refine gY (F:=F373) rfl ?_
 simp only [F373,az,seval,ae,cy,h1,hs,hu]
 exact ⟨_,rfl,rfl⟩
theorem Xp {s:Bs} (hv:vu s=true) (hn:s.length < 100000000000):cR 339 [.str s]=some (.tup [.str (eo s), .int .i64 0]):=by
 have hg:=CJ s
 rw [hv] at hg
 have b0:Qh ((ag.alloc ⟨0, []⟩ [.lit (.pointer none), .nils]).addTag 0 tyB) 0 []:=
  ⟨.lit (.pointer none), .nils,rfl, .inl rfl,Cx,aV _, .inl ⟨rfl,rfl⟩,fun c n e=>by cases e⟩
 obtain ⟨r1,σ1,a1,a2⟩:=o9 b0 34 (by decide)
 obtain ⟨r2,σ2,b1,b2⟩:=Zz a2 s (by simp only [aq,List.length_cons,List.length_nil]; omega)
 have hle:=Dl s
 obtain ⟨r3,σ3,d1,d2⟩:=o9 b2 34 (by simp only [aq,List.length_cons,List.length_nil]; omega)
 have hq: [] ++ [34] ++s.flatMap gD ++ [34]=eo s:=by simp [eo]
 rw [hq] at d2
 obtain ⟨r4,σ4,f1,rfl⟩:=P3 d2 (by simp [eo]) (by have:=u9 s; omega)
 rw [show (((34:UInt8).toNat:Nat):Int)=34 from rfl] at a1 d1
 simp only [ag.alloc,ag.addTag,List.cons_append,List.nil_append,Nat.zero_add] at a1
 refine aG (F:=F339) rfl ?_
 simp only [F339,az,seval,ae,cy,hg,AV.known,ag.alloc,ag.addTag,a1,b1,d1,f1]
def Q8Fc:= @F368.eq_1
def Q8Fd:= @F369.eq_1
def oh (σ:ag) (x:AV) (y:AV) (σ':ag) (s:Bs):Prop:=kO σ' y s/\σ.next<=σ'.next/\(∀c n,y= .sl c 0 n 1 none->σ.next<=c)/\∀j,j < σ.next->(∀c n,x= .sl c 0 n 1 none->j≠c)->look σ'.m j=look σ.m j
theorem wrote {σ:ag} {x:AV} {s:Bs} (h:kO σ x s) (t:Bs) (ht:0 < t.length) (hl:s.length+t.length < 1099511627776) :
  ∃y σ',aF σ 1 1 x (af t) t.length=some (y,σ')/\oh σ x y σ' (s ++t):=by
 obtain ⟨σ',q1,q2,q3,q4⟩:=CT h t ht hl
 refine ⟨_,σ',q1,kO.of q2 (by rw [aq]) (by rw [q3]; exact aV _) (by rw [aq]; omega),by omega,?_,q4⟩
 intro c n e; cases e; exact aD _
theorem oh.trans {σ:ag} {x y:AV} {σ':ag} {s:Bs} (h:oh σ x y σ' s) {z:AV} {σ'':ag} {t:Bs} (g:oh σ' y z σ'' t):oh σ x z σ'' t:=by
 obtain ⟨h1,h2,h3,h4⟩:=h
 obtain ⟨g1,g2,g3,g4⟩:=g
 refine ⟨g1,by omega,fun c n e=>by have:=g3 c n e; omega,fun j hj hx=> ?_⟩
 rw [g4 j aa (fun c n e=>by have:=h3 c n e; omega),h4 j hj hx]
theorem P4 {σ:ag} {x:AV} {s:Bs} (h:kO σ x s) (b:Bool) (hl:s.length+5 < 1099511627776) :
  ∃y σ',cj cA gU (.fn 337 [] []) [x, .bool b] σ=some (y,σ')/\oh σ x y σ' (s ++if b=true then [116,114,117,101] else [102,97,108,115,101]):=by
 have key: ∃y σ',cj cA gU (.fn 368 [] []) [x, .bool b] σ=some (y,σ')/\oh σ x y σ' (s ++if b=true then [116,114,117,101] else [102,97,108,115,101]):=by
  refine gY (F:=F368) rfl ?_
  cases b
  ·obtain ⟨y,σ',p1,p2⟩:=wrote h [102,97,108,115,101] (by decide) hl
   have X9:aF σ 1 1 x (af [102,97,108,115,101]) 5=some (y,σ'):=p1
   simp only [Q8Fc,az,seval,ae,X9]
   exact ⟨_,rfl,p2⟩
  ·obtain ⟨y,σ',p1,p2⟩:=wrote h [116,114,117,101] (by decide) (by simp only [List.length_cons,List.length_nil]; omega)
   have X9:aF σ 1 1 x (af [116,114,117,101]) 4=some (y,σ'):=p1
   simp only [Q8Fc,az,seval,ae,X9]
   exact ⟨_,rfl,p2⟩
 obtain ⟨y,σ',k1,k2⟩:=key
 refine gY (F:=F337) rfl ?_
 simp only [F337,az,seval,ae,k1]
 exact ⟨_,rfl,k2⟩
def uJ (n:Int):Prop:=∀(σ:ag) (x:AV) (s:Bs),kO σ x s->s.length+25 < 1099511627776->
 ∃y σ',cj cA gU (.fn 338 [] []) [x, .int .i64 n, .int .i64 10] σ=some (y,σ')/\oh σ x y σ' (s ++ml n)
def Zu (n:Nat):Bs:=if n < 10 then [UInt8.ofNat (48+n)] else [UInt8.ofNat (48+n / 10),UInt8.ofNat (48+n % 10)]
theorem UC {n:Nat} (h:n < 100):jM n=Zu n:=by
 unfold Zu
 split
 ·rename_i h1; exact oW h1
 ·rename_i h1; rw [xH aa,oW aa]; rfl
theorem Xe {n:Nat} (h:n < 100):cR 393 [.int .i64 (n:Int)]=some (.str (jM n)):=by
 have k:((List.range 100).all fun n=>match (dd cA (run cA gU 100) (.fn 393 [] []) [.int .i64 (n:Int)] .empty).bind (fun x=>rbE x.2 x.1) with | some (.str s)=>s == Zu n | _=>false)=true:=by kernel_rfl
 have g:=bG.1 k n (List.mem_range.2 h)
 refine cQ 100 ?_
 split at g
 ·rename_i s e; rw [e,eq_of_beq g,UC h]
 ·cases g
theorem J7 {σ:ag} {x:AV} {s:Bs} (h:kO σ x s) {n:Nat} (hn:n < 100) (hl:s.length+24 < 1099511627776) :
  ∃y σ',cj cA gU (.fn 386 [] []) [x, .int .u64 (n:Int), .int .i64 10] σ=some (y,σ')/\oh σ x y σ' (s ++jM n):=by
 have hs:=Xe hn
 have hle:(jM n).length<=2:=uh 1 n aa
 have YT:0 < (jM n).length:=by rw [UC hn]; unfold Zu; split <;> simp
 obtain ⟨y,σ',p1,p2⟩:=wrote h (jM n) YT aa
 have aR:decide ((n:Int) < 100)=true:=decide_eq_true aa
 have hw:IntKind.wrap .i64 (n:Int)=(n:Int):=aU aa aa
 refine gY (F:=F386) rfl ?_
 simp only [F386,az,seval,ae,aR,hw,hs,p1]
 exact ⟨_,rfl,p2⟩
theorem aac {n:Int} (h1: -9223372036854775808 < n) (h2:n < 9223372036854775808)
  (hU: ∀(σ:ag) (x:AV) (s:Bs),kO σ x s->s.length+24 < 1099511627776->∃y σ',cj cA gU (.fn 386 [] []) [x, .int .u64 (n.natAbs:Int), .int .i64 10] σ=some (y,σ')/\oh σ x y σ' (s ++jM n.natAbs)) (σ:ag) (x:AV) (s:Bs)
  (h:kO σ x s) (hl:s.length+25 < 1099511627776): ∃y σ',cj cA gU (.fn 338 [] []) [x, .int .i64 n, .int .i64 10] σ=some (y,σ')/\oh σ x y σ' (s ++ml n):=by
 have hu:=w_u64 n aa h2
 have key: ∃y σ',cj cA gU (.fn 369 [] []) [x, .int .i64 n, .int .i64 10] σ=some (y,σ')/\oh σ x y σ' (s ++ml n):=by
  refine gY (F:=F369) rfl ?_
  by_cases pB:n < 0
  ·have d0:decide (n < 0)=true:=decide_eq_true pB
   rw [if_pos pB] at hu
   have hm:IntKind.wrap .u64 (0 - (18446744073709551616+n))=((n.natAbs:Nat):Int):=by
    simp only [IntKind.wrap,IntKind.bits,IntKind.signed,Bool.false_and,bh,if_false]
    show (0 - (18446744073709551616+n)) % 18446744073709551616=_
    omega
   have r45 {σ:ag} {c:aA}:rowOf σ 1 (.vsl [.int .u8 45] c)=some [.int .u8 45]:=rfl
   obtain ⟨y1,σ1,p1,p2⟩:=wrote h [45] (by decide) (by simp only [List.length_cons,List.length_nil]; omega)
   rw [show af [45]= [.int .u8 45] from rfl,show ([45] :Bs).length=1 from rfl] at p1
   obtain ⟨y2,σ2,e1,e2⟩:=hU σ1 y1 _ p2.1 (by simp only [aq,List.length_cons,List.length_nil]; omega)
   have hd:ml n=45 ::jM n.natAbs:=by unfold ml; rw [if_pos pB]
   simp only [Q8Fd,az,seval,ae,hu,d0,hm,lenOf,r45,p1,e1]
   exact ⟨_,rfl,by rw [hd]; simpa [bb] using p2.trans e2⟩
  ·have d0:decide (n < 0)=false:=decide_eq_false pB
   rw [if_neg pB] at hu
   have hu':IntKind.wrap .u64 n=((n.natAbs:Nat):Int):=by rw [hu]; omega
   obtain ⟨y2,σ2,e1,e2⟩:=hU σ x _ h aa
   have hd:ml n=jM n.natAbs:=by unfold ml; rw [if_neg pB]
   simp only [Q8Fd,az,seval,ae,hu',d0,e1]
   exact ⟨_,rfl,by rw [hd]; exact e2⟩
 obtain ⟨y,σ',k1,k2⟩:=key
 refine gY (F:=F338) rfl ?_
 simp only [F338,az,seval,ae,k1]
 exact ⟨_,rfl,k2⟩
theorem J8 {n:Int} (h:n.natAbs < 100):uJ n:=fun σ x s hx hl=>aac aa aa (fun _ _ _ hx hl=>J7 hx h hl) σ x s hx hl
def wZ (σ:ag) (b:Nat) (t:Bs):Prop:=∃x,look σ.m b=some (.own [x])/\b < σ.next/\kO σ x t/\∀c n,x= .sl c 0 n 1 none->c≠b
theorem kO.cells {σ:ag} {x:AV} {t:Bs} (h:kO σ x t):x.cells= [x]/\AV.one x=true:=by
 rcases h with ⟨_,rfl⟩ | ⟨c,rfl,_⟩ <;> exact ⟨rfl,rfl⟩
theorem kO.set {σ:ag} {b:Nat} {x:AV} {t:Bs} {e:jP} (h:kO σ x t) (hn: ∀c n,x= .sl c 0 n 1 none->c≠b):kO { σ with m:=(b,e) ::σ.m } x t:=by
 rcases h with ⟨rfl,rfl⟩ | ⟨c,rfl,h1,h2,h3⟩
 ·exact .inl ⟨rfl,rfl⟩
 ·have hc:=hn c _ rfl
  refine .inr ⟨c,rfl,?_,h2,h3⟩
  have: ¬b=c:=fun e=>hc e.symm
  simp [look,this,h1]
theorem wZ.alloc2 {σ:ag} {b:Nat} {t:Bs} {e1 e2:jP} (h:wZ σ b t):wZ { next:=σ.next+1,m:=(σ.next,e1) ::(σ.next,e2) ::σ.m } b t:=by
 obtain ⟨x,h1,h2,h3,h4⟩:=h
 have hb: ¬σ.next=b:=by omega
 refine ⟨x,by simp [look,hb,h1],by show b < σ.next+1; omega,?_,h4⟩
 rcases h3 with ⟨rfl,rfl⟩ | ⟨c,rfl,k1,k2,k3⟩
 ·exact .inl ⟨rfl,rfl⟩
 ·have hc: ¬σ.next=c:=by omega
  exact .inr ⟨c,rfl,by simp [look,hc,k1],by show c < σ.next+1; omega,k3⟩
def Far (σ:ag) (b j:Nat):Prop:=j < σ.next/\j≠b/\∀x c n,look σ.m b=some (.own [x])->x= .sl c 0 n 1 none->j≠c
theorem y7 {σ σ':ag} {b:Nat} {x y:AV} {t t':Bs} (h1:look σ.m b=some (.own [x])) (h2:b < σ.next) (h4: ∀c n,x= .sl c 0 n 1 none->c≠b) (hw:oh σ x y σ' t') :
  look σ'.m b=some (.own [x])/\wZ { σ' with m:=(b, .own [y]) ::σ'.m } b t'/\y.cells= [y]/\AV.one y=true/\∀j cs,Far σ b j->look σ.m j=some cs->look ((b,jP.own [y]) ::σ'.m) j=some cs/\Far { σ' with m:=(b, .own [y]) ::σ'.m } b j:=by
 obtain ⟨g1,g2,g3,g4⟩:=hw
 have hc:=g1.cells
 have hyb: ∀c n,y= .sl c 0 n 1 none->c≠b:=fun c n e=>by have:=g3 c n e; omega
 refine ⟨by rw [g4 b h2 (fun c n e=>(h4 c n e).symm),h1],⟨y,by simp [look],by show b < σ'.next; omega,g1.set hyb,hyb⟩,hc.1,hc.2,fun j cs hj hl=> ?_⟩
 obtain ⟨j1,j2,j3⟩:=hj
 have hbj: ¬b=j:=fun e=>j2 e.symm
 refine ⟨?_,by show j < σ'.next; omega,j2,fun z c n e1 e2=> ?_⟩
 ·simp only [look,hbj,if_false]
  rw [g4 j j1 (fun c n e=>j3 x c n h1 e),hl]
 ·simp only [look,if_true,ah,jP.own.injEq,List.cons.injEq,and_true] at e1
  subst e1
  have:=g3 c n e2; omega
theorem nl {σ:ag} {b:Nat} {t:Bs} (h:wZ σ b t) (u:Bs) (hu:0 < u.length) (hl:t.length+u.length < 1099511627776) :
  ∃x y σ',look σ.m b=some (.own [x])/\aF σ 1 1 x (af u) u.length=some (y,σ')/\look σ'.m b=some (.own [x])/\wZ { σ' with m:=(b, .own [y]) ::σ'.m } b (t ++u)/\y.cells= [y]/\AV.one y=true/\
   ∀j cs,Far σ b j->look σ.m j=some cs->look ((b,jP.own [y]) ::σ'.m) j=some cs/\Far { σ' with m:=(b, .own [y]) ::σ'.m } b j:=by
 obtain ⟨x,h1,h2,h3,h4⟩:=h
 obtain ⟨y,σ',q1,q2⟩:=wrote h3 u hu hl
 obtain ⟨k1,k2,k3,k4,k5⟩:=y7 (t:=t) h1 h2 h4 q2
 exact ⟨x,y,σ',h1,q1,k1,k2,k3,k4,k5⟩
theorem Zx {σ:ag} {b:Nat} {t:Bs} (h:wZ σ b t) (v:V) (hl:t.length+4 < 1099511627776): ∃r σ',cj cA gU (.fn 269 [] []) [.ptr b 0,v.enc] σ=some (r,σ')/\wZ σ' b (t ++ [110,117,108,108]):=by
 obtain ⟨x,y,σ1,e0,e1,e2,e3,e4,e5,_⟩:=nl h [110,117,108,108] (by decide) hl
 have e1':aF σ 1 1 x (af [110,117,108,108]) 4=some (y,σ1):=e1
 refine gY (F:=F269) rfl ?_
 simp only [F269,az,seval,VX,ae,cy,e0,e1',e2,e4,e5]
 exact ⟨_,rfl,e3⟩
theorem UR {σ:ag} {b:Nat} {t:Bs} (h:wZ σ b t) (v:V) (hl:t.length+5 < 1099511627776): ∃r σ',cj cA gU (.fn 270 [] []) [.ptr b 0,v.enc] σ=some (r,σ')/\wZ σ' b (t ++if v.n=1 then [116,114,117,101] else [102,97,108,115,101]):=by
 obtain ⟨x,h1,h2,h3,h4⟩:=h
 obtain ⟨y,σ1,q1,q2⟩:=P4 h3 (v.n == 1) hl
 obtain ⟨e2,e3,e4,e5,_⟩:=y7 (t:=t) h1 h2 h4 q2
 refine gY (F:=F270) rfl ?_
 simp only [F270,az,seval,VX,ae,cy,h1,q1,e2,e4,e5]
 exact ⟨_,rfl,by simpa using e3⟩
theorem PZ {σ:ag} {b:Nat} {t:Bs} (h:wZ σ b t) (v:V) (hn:uJ v.n) (hl:t.length+25 < 1099511627776): ∃r σ',cj cA gU (.fn 271 [] []) [.ptr b 0,v.enc] σ=some (r,σ')/\wZ σ' b (t ++ml v.n):=by
 obtain ⟨x,h1,h2,h3,h4⟩:=h
 obtain ⟨y,σ1,q1,q2⟩:=hn σ x t h3 hl
 obtain ⟨e2,e3,e4,e5,_⟩:=y7 (t:=t) h1 h2 h4 q2
 refine gY (F:=F271) rfl ?_
 simp only [F271,az,seval,VX,ae,cy,h1,q1,e2,e4,e5]
 exact ⟨_,rfl,e3⟩
theorem Dy {σ:ag} {b:Nat} {t:Bs} (h:wZ σ b t) {a0 a1 a3 a4:AV} {s:Bs} (hv:vu s=true) (hn:s.length < 100000000000) (hl:t.length+(eo s).length < 1099511627776) :
  ∃r σ',cj cA gU (.fn 272 [] []) [.ptr b 0, .agg [a0,a1, .str s,a3,a4]] σ=some (r,σ')/\wZ σ' b (t ++eo s)/\∀j cs,Far σ b j->look σ.m j=some cs->look σ'.m j=some cs/\Far σ' b j:=by
 have hq:=Xp hv hn
 obtain ⟨x,y,σ1,e0,e1,e2,e3,e4,e5,e6⟩:=nl h (eo s) (by simp [eo]) hl
 refine gY (F:=F272) rfl ?_
 simp only [F272,az,seval,ae,cy,hq,e0,e1,e2,e4,e5]
 exact ⟨_,rfl,e3,e6⟩
def Vv:=J @KI.eq_1 (J @Eh.eq_1 (J @Nr.eq_1 (@F273.eq_1)))
def Vu:=J @KH.eq_1 (J @Eg.eq_1 (J @Nq.eq_1 (@F274.eq_1)))
theorem wZ.far_new {σ:ag} {b:Nat} {t:Bs} {e1 e2:jP} (h:wZ σ b t):Far { next:=σ.next+1,m:=(σ.next,e1) ::(σ.next,e2) ::σ.m } b σ.next:=by
 obtain ⟨x,h1,h2,h3,h4⟩:=h
 have hb: ¬σ.next=b:=by omega
 refine ⟨aV _,hb,fun z c n k1 k2=> ?_⟩
 simp only [look,hb,if_false,h1,ah,jP.own.injEq,List.cons.injEq,and_true] at k1
 subst k1
 rcases h3 with ⟨_,rfl⟩ | ⟨c',rfl,_,k4,_⟩
 ·cases k2
 ·cases k2; omega
def Kd (v:V):Prop:=∀(σ:ag) (b:Nat) (t:Bs),wZ σ b t->t.length+v.wr.length+64 < 1099511627776->∃r σ',cj cA gU (.fn 218 [] []) [.ptr b 0,v.enc] σ=some (r,σ')/\wZ σ' b (t ++v.wr)
theorem Zy {v:V} (hw: ∀w∈v.l,Kd w) (fb:v.sz < 4294967296) {σ:ag} {b:Nat} {t:Bs} (h:wZ σ b t) (hl:t.length+(vV v.l).tail.length+65 < 1099511627776) :
  ∃r σ',cj cA gU (.fn 273 [] []) [.ptr b 0,v.enc] σ=some (r,σ')/\wZ σ' b (t ++(91 ::((vV v.l).tail ++ [93]))):=by
 have hs:=v.sz_eq
 have hll:=oD v.l
 have r44 {σ:ag} {c:aA}:rowOf σ 1 (.vsl [.int .u8 44] c)=some [.int .u8 44]:=rfl
 have r91 {σ:ag} {c:aA}:rowOf σ 1 (.vsl [.int .u8 91] c)=some [.int .u8 91]:=rfl
 have r93 {σ:ag} {c:aA}:rowOf σ 1 (.vsl [.int .u8 93] c)=some [.int .u8 93]:=rfl
 obtain ⟨x,y,σ1,e0,e1,e2,e3,e4,e5,_⟩:=nl h [91] (by decide) (by simp only [List.length_cons,List.length_nil]; omega)
 rw [show af [91]= [.int .u8 91] from rfl,show ([91] :Bs).length=1 from rfl] at e1
 refine gY (F:=F273) rfl ?_
 simp only [KI,Eh,F273,az,seval,VX,ae,ax,cy,lenOf,aH,r91,e0,e1,e2,e4,e5]
 refine aP (S:=Nat) (fun j=> [(0, .ptr b 0),(16, .vsl (v.l.map V.enc) none),(17, .int .i64 v.l.length),(18, .int .i64 (j:Int))]) (fun j=>v.l.length - j)
  (fun j σ=>wZ σ b (t ++ [91] ++(vV (v.l.take j)).tail)/\j<=v.l.length) ?_ 0 _ ⟨by rw [List.take_zero,vV,List.tail_nil,bC]; exact e3,Nat.zero_le _⟩
 rintro B j τ ⟨g1,g2⟩ ih
 by_cases hj:j=v.l.length
 ·subst hj
  rw [List.take_length] at g1
  have d1:=pE (aD v.l.length)
  obtain ⟨x',y',σ2,f0,f1,f2,f3,f4,f5,_⟩:=nl g1 [93] (by decide) (by simp only [aq,List.length_cons,List.length_nil]; omega)
  rw [show af [93]= [.int .u8 93] from rfl,show ([93] :Bs).length=1 from rfl] at f1
  simp only [Vv,az,seval,VX,ae,cy,lenOf,d1,r93,f0,f1,f2,f4,f5]
  exact ⟨_,rfl,by simpa [bb] using f3⟩
 ·have aR:j < v.l.length:=by omega
  obtain ⟨w,hwj⟩:=cq aR
  have d1:=pD aR
  have cl:=cB (f:=V.enc) (sz:=5) (c:=none) hwj (by simp [V.enc_cells])
  have Mv:=cL aR aa
  have hT:=EW hwj
  have vt:=congrArg List.length hT
  simp only [aq] at vt
  have hP:=K7 v.l (j+1)
  have Gs: ¬τ.next=b:=by obtain ⟨_,_,h2,_⟩:=g1; omega
  have Gq: ¬b=τ.next:=fun e=>Gs e.symm
  have ga:=g1.alloc2 (e1:= .own [.int .i64 w.kind, .int .i64 w.n, .str w.s, .vsl (w.l.map V.enc) none, .vsl (w.m.map bp) none]) (e2:= .own [.int .i64 0, .int .i64 0, .str [], .nils, .nils])
  by_cases Tr:j=0
  ·have c0:pG j= []:=by rw [Tr]; rfl
   rw [c0] at hT vt
   have dg:decide ((j:Int) > 0)=false:=decide_eq_false aa
   obtain ⟨r2,σ2,k1,k2⟩:=hw w (bZ hwj) _ b _ ga (by simp only [aq,List.length_cons,List.length_nil] at vt ⊢; omega)
   simp only [Vv,az,seval,VX,ae,cy,d1,cl,dg,k1,Mv]
   exact ih (j+1) _ _ (by show v.l.length - (j+1) < v.l.length - j; omega) ⟨by rw [hT]; simpa [bb] using k2,aR⟩ rfl
  ·have c0:pG j= [44]:=by unfold pG; rw [if_neg Tr]
   rw [c0] at hT vt
   simp only [List.length_cons,List.length_nil] at vt
   have dg:decide ((j:Int) > 0)=true:=decide_eq_true aa
   obtain ⟨x',y',σ2,f0,f1,f2,f3,f4,f5,f6⟩:=nl ga [44] (by decide) (by simp only [aq,List.length_cons,List.length_nil]; omega)
   have hfar:=(f6 τ.next (.own [.int .i64 w.kind, .int .i64 w.n, .str w.s, .vsl (w.l.map V.enc) none, .vsl (w.m.map bp) none]) g1.far_new (by simp [look])).1
   rw [show af [44]= [.int .u8 44] from rfl,show ([44] :Bs).length=1 from rfl] at f1
   obtain ⟨r2,σ3,k1,k2⟩:=hw w (bZ hwj) _ b _ f3 (by simp only [aq,List.length_cons,List.length_nil]; omega)
   simp only [look,Gs,Gq,if_false] at f0 hfar
   simp only [Vv,az,seval,VX,ae,cy,d1,cl,dg,Gs,Gq,lenOf,r44,f0,f1,f2,f4,f5,hfar,k1,Mv]
   exact ih (j+1) _ _ (by show v.l.length - (j+1) < v.l.length - j; omega) ⟨by rw [hT]; simpa [bb] using k2,aR⟩ rfl
theorem US {v:V} (hw: ∀w∈v.m,Kd w.2) (hk: ∀w∈v.m,vu w.1=true) (fb:v.sz < 4294967296) {σ:ag} {b:Nat} {t:Bs} (h:wZ σ b t) (hl:t.length+(vU v.m).tail.length+65 < 1099511627776) :
  ∃r σ',cj cA gU (.fn 274 [] []) [.ptr b 0,v.enc] σ=some (r,σ')/\wZ σ' b (t ++(123 ::((vU v.m).tail ++ [125]))):=by
 have hs:=v.sz_eq
 have Jz:=oC v.m
 have r44 {σ:ag} {c:aA}:rowOf σ 1 (.vsl [.int .u8 44] c)=some [.int .u8 44]:=rfl
 have r58 {σ:ag} {c:aA}:rowOf σ 1 (.vsl [.int .u8 58] c)=some [.int .u8 58]:=rfl
 have r123 {σ:ag} {c:aA}:rowOf σ 1 (.vsl [.int .u8 123] c)=some [.int .u8 123]:=rfl
 have r125 {σ:ag} {c:aA}:rowOf σ 1 (.vsl [.int .u8 125] c)=some [.int .u8 125]:=rfl
 obtain ⟨x,y,σ1,e0,e1,e2,e3,e4,e5,_⟩:=nl h [123] (by decide) (by simp only [List.length_cons,List.length_nil]; omega)
 rw [show af [123]= [.int .u8 123] from rfl,show ([123] :Bs).length=1 from rfl] at e1
 refine gY (F:=F274) rfl ?_
 simp only [KH,Eg,F274,az,seval,VX,ae,ax,cy,lenOf,aH,r123,e0,e1,e2,e4,e5]
 refine aP (S:=Nat) (fun j=> [(0, .ptr b 0),(16, .vsl (v.m.map bp) none),(17, .int .i64 v.m.length),(18, .int .i64 (j:Int))]) (fun j=>v.m.length - j)
  (fun j σ=>wZ σ b (t ++ [123] ++(vU (v.m.take j)).tail)/\j<=v.m.length) ?_ 0 _ ⟨by rw [List.take_zero,vU,List.tail_nil,bC]; exact e3,Nat.zero_le _⟩
 rintro B j τ ⟨g1,g2⟩ ih
 by_cases hj:j=v.m.length
 ·subst hj
  rw [List.take_length] at g1
  have d1:=pE (aD v.m.length)
  obtain ⟨x',y',σ2,f0,f1,f2,f3,f4,f5,_⟩:=nl g1 [125] (by decide) (by simp only [aq,List.length_cons,List.length_nil]; omega)
  rw [show af [125]= [.int .u8 125] from rfl,show ([125] :Bs).length=1 from rfl] at f1
  simp only [Vu,az,seval,VX,ae,cy,lenOf,d1,r125,f0,f1,f2,f4,f5]
  exact ⟨_,rfl,by simpa [bb] using f3⟩
 ·have aR:j < v.m.length:=by omega
  obtain ⟨w,hwj⟩:=cq aR
  have d1:=pD aR
  have xw:=bZ hwj
  have hwz:=gI xw
  have cl:=cB (f:=bp) (sz:=6) (c:=none) hwj (by simp [bq])
  have Mv:=cL aR aa
  have hT:=EV hwj
  have vt:=congrArg List.length hT
  simp only [aq,List.length_cons,List.length_nil] at vt
  have hP:=K5 v.m (j+1)
  have Gs: ¬τ.next=b:=by obtain ⟨_,_,h2,_⟩:=g1; omega
  have Gq: ¬b=τ.next:=fun e=>Gs e.symm
  have ga:=g1.alloc2 (e1:= .own [.str w.1, .int .i64 w.2.kind, .int .i64 w.2.n, .str w.2.s, .vsl (w.2.l.map V.enc) none, .vsl (w.2.m.map bp) none]) (e2:= .own [.str [], .int .i64 0, .int .i64 0, .str [], .nils, .nils])
  have ff:=g1.far_new (e1:= .own [.str w.1, .int .i64 w.2.kind, .int .i64 w.2.n, .str w.2.s, .vsl (w.2.l.map V.enc) none, .vsl (w.2.m.map bp) none]) (e2:= .own [.str [], .int .i64 0, .int .i64 0, .str [], .nils, .nils])
  have lk:look (ag.m { next:=τ.next+1,m:=(τ.next, .own [.str w.1, .int .i64 w.2.kind, .int .i64 w.2.n, .str w.2.s, .vsl (w.2.l.map V.enc) none, .vsl (w.2.m.map bp) none]) ::(τ.next, .own [.str [], .int .i64 0, .int .i64 0, .str [], .nils, .nils]) ::τ.m }) τ.next=some (.own [.str w.1, .int .i64 w.2.kind, .int .i64 w.2.n, .str w.2.s, .vsl (w.2.l.map V.enc) none, .vsl (w.2.m.map bp) none]):=by simp [look]
  by_cases Tr:j=0
  ·have c0:pG j= []:=by rw [Tr]; rfl
   rw [c0] at hT vt
   have dg:decide ((j:Int) > 0)=false:=decide_eq_false aa
   obtain ⟨r1,σ1',t1,t2,t3⟩:=Dy ga (a0:= .int .i64 0) (a1:= .int .i64 0) (a3:= .nils) (a4:= .nils) (hk w xw) aa (by simp only [aq,List.length_cons,List.length_nil] at vt ⊢; omega)
   obtain ⟨lk1,ff1⟩:=t3 _ _ ff lk
   obtain ⟨x',y',σ2,f0,f1,f2,f3,f4,f5,f6⟩:=nl t2 [58] (by decide) (by simp only [aq,List.length_cons,List.length_nil] at vt ⊢; omega)
   rw [show af [58]= [.int .u8 58] from rfl,show ([58] :Bs).length=1 from rfl] at f1
   have lk2:=(f6 _ _ ff1 lk1).1
   simp only [look,Gq,if_false] at lk2
   obtain ⟨r2,σ3,k1,k2⟩:=hw w xw _ b _ f3 (by simp only [aq,List.length_cons,List.length_nil] at vt ⊢; omega)
   simp only [Vu,az,seval,VX,ae,cy,d1,cl,dg,Gs,Gq,t1,lenOf,r58,f0,f1,f2,f4,f5,lk2,k1,Mv]
   exact ih (j+1) _ _ (by show v.m.length - (j+1) < v.m.length - j; omega) ⟨by rw [hT]; simpa [bb] using k2,aR⟩ rfl
  ·have c0:pG j= [44]:=by unfold pG; rw [if_neg Tr]
   rw [c0] at hT vt
   simp only [List.length_cons,List.length_nil] at vt
   have dg:decide ((j:Int) > 0)=true:=decide_eq_true aa
   obtain ⟨x0,y0,σ0,a0,a1,a2,a3,a4,a5,a6⟩:=nl ga [44] (by decide) (by simp only [aq,List.length_cons,List.length_nil]; omega)
   rw [show af [44]= [.int .u8 44] from rfl,show ([44] :Bs).length=1 from rfl] at a1
   obtain ⟨lk0,ff0⟩:=a6 _ _ ff lk
   obtain ⟨r1,σ1',t1,t2,t3⟩:=Dy a3 (a0:= .int .i64 0) (a1:= .int .i64 0) (a3:= .nils) (a4:= .nils) (hk w xw) aa (by simp only [aq,List.length_cons,List.length_nil] at vt ⊢; omega)
   obtain ⟨lk1,ff1⟩:=t3 _ _ ff0 lk0
   obtain ⟨x',y',σ2,f0,f1,f2,f3,f4,f5,f6⟩:=nl t2 [58] (by decide) (by simp only [aq,List.length_cons,List.length_nil] at vt ⊢; omega)
   rw [show af [58]= [.int .u8 58] from rfl,show ([58] :Bs).length=1 from rfl] at f1
   have lk2:=(f6 _ _ ff1 lk1).1
   simp only [look,Gq,if_false] at lk2
   simp only [look,Gs,Gq,if_false] at a0 lk0
   obtain ⟨r2,σ3,k1,k2⟩:=hw w xw _ b _ f3 (by simp only [aq,List.length_cons,List.length_nil] at vt ⊢; omega)
   simp only [Vu,az,seval,VX,ae,cy,d1,cl,dg,Gs,Gq,r44,a0,a1,a2,a4,a5,lk0,t1,lenOf,r58,f0,f1,f2,f4,f5,lk2,k1,Mv]
   exact ih (j+1) _ _ (by show v.m.length - (j+1) < v.m.length - j; omega) ⟨by rw [hT]; simpa [bb] using k2,aR⟩ rfl
end Go.Ab
