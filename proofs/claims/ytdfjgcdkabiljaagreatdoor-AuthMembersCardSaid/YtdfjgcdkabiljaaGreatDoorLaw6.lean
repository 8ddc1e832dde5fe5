/- What functions of the program, and of the library, answer. Conditions: none. -/
import Derived.Test.YtdfjgcdkabiljaaGreatDoorEx
import Derived.Test.YtdfjgcdkabiljaaGreatDoorDraw
import Derived.Test.YtdfjgcdkabiljaaGreatDoorLaw5
import Derived.Test.YtdfjgcdkabiljaaGreatDoorLaw4
import Derived.Test.YtdfjgcdkabiljaaGreatDoorLaw2
set_option linter.unusedVariables false
set_option linter.unusedSimpArgs false
set_option linter.defProp false
set_option linter.unnecessarySimpa false
namespace Go.Ab
section
variable {ip:Nat→Option IFunc} {G:Nat→List AV} {fr fr':Fr} {σ:Store} {Q:Fr→Store→Prop} {k:List Item}
end
end Go.Ab
namespace Go.Ab
set_option maxHeartbeats 1000000
set_option maxRecDepth 100000
section
variable {l:List Ev} {e:Ev} {j:Nat} {c:ICode} {k:List Item} {σ:Store} {Q:Fr→Store→Prop}
end
end Go.Ab
namespace Go.Ab
set_option maxHeartbeats 1000000
def T13Fa:=J @F72_4.eq_1 (J @F72_9.eq_1 (J @F72_15.eq_1 (J @F72_16.eq_1 (J @F72_25.eq_1 (J @F72_26.eq_1 (@F72.eq_1))))))
def T13Fb:=J @F72_4.eq_1 (J @F72_9.eq_1 (J @F72_15.eq_1 (J @F72_25.eq_1 (J @F72_26.eq_1 (@F72.eq_1)))))
set_option maxRecDepth 100000
def insR (x:Mem):List Mem→List Mem
 | []=> [x]
 | y ::r=>if bytesLess x.1 y.1=true then y ::insR x r else x ::y ::r
def sortR:List Mem→List Mem→List Mem
 | acc, []=>acc
 | acc,x ::r=>sortR (insR x acc) r
def sortM (l:List Mem):List Mem:=(sortR [] l).reverse
theorem insR_len (x:Mem): ∀l,(insR x l).length=l.length+1
 | []=>rfl
 | y ::r=>by simp only [insR]; split <;> simp [insR_len x r]
theorem sortR_len: ∀(l acc:List Mem),(sortR acc l).length=acc.length+l.length
 | [],acc=>by simp [sortR]
 | x ::r,acc=>by rw [sortR,sortR_len r,insR_len]; simp; omega
section
variable {α:Type} (L:Lay α)
theorem Lay.cells_append (l m:List α):L.cells (l ++m)=L.cells l ++L.cells m:=by simp [Lay.cells]
theorem Lay.cells_cons (a:α) (l:List α):L.cells (a ::l)=(L.f a).cells ++L.cells l:=by simp [Lay.cells]
theorem Lay.take {l:List α} {j:Nat} (h:j≤l.length):(L.cells l).take (j*L.sz)=L.cells (l.take j):=by
 have e:L.cells l=L.cells (l.take j) ++L.cells (l.drop j):=by rw [←L.cells_append,List.take_append_drop]
 have hl:(L.cells (l.take j)).length=j*L.sz:=by rw [L.cells_len,List.length_take,Nat.min_eq_left h]
 rw [e,←hl,List.take_left]
theorem Lay.drop {l:List α} {j:Nat} (h:j≤l.length):(L.cells l).drop (j*L.sz)=L.cells (l.drop j):=by
 have e:L.cells l=L.cells (l.take j) ++L.cells (l.drop j):=by rw [←L.cells_append,List.take_append_drop]
 have hl:(L.cells (l.take j)).length=j*L.sz:=by rw [L.cells_len,List.length_take,Nat.min_eq_left h]
 rw [e,←hl,List.drop_left]
theorem Lay.read {l:List α} {j:Nat} {a:α} (h:l[j]? =some a) (hs:L.sz≠1):readAt (L.cells l) (j*L.sz) (some L.sz)=some (L.f a):=by
 have hlt:=lt_of_get h
 have hcl:=L.cells_len l
 have hle:j*L.sz+L.sz≤(L.cells l).length:=by
  rw [hcl]
  have:=Nat.mul_le_mul_right L.sz (Nat.succ_le_of_lt hlt)
  rw [Nat.succ_mul] at this
  exact this
 show (if j*L.sz+L.sz≤(L.cells l).length then some (AV.agg (((L.cells l).drop (j*L.sz)).take L.sz)) else none)=_
 rw [if_pos hle,L.drop (Nat.le_of_lt hlt),drop_cons h,L.cells_cons]
 have ha:=L.agg a
 rw [if_neg hs] at ha
 obtain ⟨cs,hcs⟩:=ha
 have hl:=L.len a
 rw [hcs] at hl ⊢
 simp only [AV.cells] at hl ⊢
 rw [←hl,List.take_left]
theorem Lay.splice {l:List α} {j:Nat} (a:α) (h:j < l.length):(L.cells l).take (j*L.sz) ++(L.f a).cells ++(L.cells l).drop (j*L.sz+L.sz)=L.cells (l.set j a):=by
 have e:j*L.sz+L.sz=(j+1)*L.sz:=by rw [Nat.add_mul]; simp
 rw [e,L.take (Nat.le_of_lt h),L.drop h,List.set_eq_take_append_cons_drop,if_pos h,L.cells_append,L.cells_cons,List.append_assoc]
end
theorem swap_set {α:Type} (A B:List α) (x y:α):((A ++y ::x ::B).set (A.length+1) y).set A.length x=A ++x ::y ::B:=by
 induction A with
 | nil=>rfl
 | cons a A ih=>simp [ih]
theorem Own.blk {α:Type} {L:Lay α} {σ:Store} {b:Nat} {l:List α} (h:Own L σ (some b) l):look σ.m b=some (.own (L.cells l)):=h.1
def InsQ (σ:Store) (b:Nat) (l:List Mem) (τ:Store):Prop:=Own LMem τ (some b) l∧τ.next=σ.next∧∀b',b'≠b→τ.get b'=σ.get b'
theorem c_ins (b N:Nat) (l:List Mem) (σ:Store) (hN:l.length=N) (hlt:N < 64) (ho:Own LMem σ (some b) l) :
  ∃σ',callS ipU gU (.fn 72 [] []) [.sl b 0 N 6 none, .int .i64 0, .int .i64 (N:Int), .fn 40 [] []] σ=some (.tup [],σ')∧InsQ σ b (sortM l) σ':=by
 have main:Ex ipU gU [.code F72.body] (initFr [.sl b 0 N 6 none, .int .i64 0, .int .i64 (N:Int), .fn 40 [] []]) σ fun fr' σ1=>resAll fr' σ1 F72.res=some (.tup [])∧InsQ σ b (sortM l) σ1:=by
  have w1:IntKind.wrap .i64 (0+1)=((1:Nat):Int):=by decide
  cases l with
  | nil=>
   subst hN
   have d0:decide (((1:Nat):Int) < (([] :List Mem).length:Int))=false:=rfl
   simp only [T13Fb,ex_loop,EXA,seval,w1,d0]
   exact ⟨ho,rfl,fun _ _=>rfl⟩
  | cons x0 r0=>
  simp only [F72_4,F72_9,F72_15,F72_25,F72,ex_loop,EXA,seval,w1]
  refine ex_whileI (S:=List Mem×List Mem) (fun p=> [(0, .sl b 0 N 6 none),(1, .int .i64 0),(2, .int .i64 (N:Int)),(3, .fn 40 [] []),(8, .int .i64 (p.1.length:Int))]) (fun p=>p.2.length)
   (fun p τ=>0 < p.1.length∧p.1.length+p.2.length=N∧sortR p.1 p.2=sortR [] (x0 ::r0)∧Own LMem τ (some b) (p.1.reverse ++p.2)∧τ.next=σ.next∧∀b',b'≠b→τ.get b'=σ.get b') ?_ ([x0],r0) σ ⟨by simp,by simp at hN ⊢; omega,rfl,ho,rfl,fun _ _=>rfl⟩
  rintro bd ⟨acc,rest⟩ τ ⟨k1,k2,k3,k4,k5,k6⟩ ih
  simp only at k1 k2 k3 k4 k5 k6 ih ⊢
  cases rest with
  | nil=>
   have d0:decide ((acc.length:Int) < (N:Int))=false:=by simp at k2 ⊢; omega
   simp only [T13Fb,EXA,seval,d0]
   have k3':acc=sortR [] (x0 ::r0):=k3
   refine ⟨?_,k5,k6⟩
   unfold sortM
   rw [←k3']; simpa using k4
  | cons x rest=>
   have d0:decide ((acc.length:Int) < (N:Int))=true:=by simp at k2 ⊢; omega
   simp only [T13Fb,ex_loop,EXA,seval,d0]
   have k3':sortR (insR x acc) rest=sortR [] (x0 ::r0):=k3
   refine ex_whileI (S:=List Mem×List Mem) (fun p=> [(0, .sl b 0 N 6 none),(1, .int .i64 0),(2, .int .i64 (N:Int)),(3, .fn 40 [] []),(8, .int .i64 (acc.length:Int)),(9, .int .i64 (p.1.length:Int))]) (fun p=>p.1.length)
    (fun p ρ=>p.1.length+p.2.length=acc.length∧p.2 ++insR x p.1=insR x acc∧Own LMem ρ (some b) (p.1.reverse ++x ::(p.2.reverse ++rest))∧ρ.next=σ.next∧∀b',b'≠b→ρ.get b'=σ.get b') ?_ (acc, []) τ ⟨by simp,rfl,by simpa using k4,k5,k6⟩
   rintro bd2 ⟨left,passed⟩ ρ ⟨q1,q2,q3,q4,q5⟩ ih2
   simp only at q1 q2 q3 q4 q5 ih2 ⊢
   have fin: ∀(fr':Fr) (ρ':Store),passed ++x ::left=insR x acc→Own LMem ρ' (some b) (left.reverse ++x ::(passed.reverse ++rest))→ρ'.next=σ.next→(∀b',b'≠b→ρ'.get b'=σ.get b')→
     keep [0,1,2,3,8] fr'= [(0, .sl b 0 N 6 none),(1, .int .i64 0),(2, .int .i64 (N:Int)),(3, .fn 40 [] []),(8, .int .i64 ((acc.length+1:Nat):Int))]→_:=fun fr' ρ' e1 e2 e3 e4 e5=>
    ih (passed ++x ::left,rest) fr' ρ' (by simp) ⟨by simp; omega,by simp at k2 ⊢; omega,by rw [e1]; exact k3',by simpa using e2,e3,e4⟩ (by
     have hh:(passed ++x ::left).length=acc.length+1:=by
      simp; omega
     rw [e5,hh])
   have hwi:=wsucc (j:=acc.length) (n:=64) (by simp at k2; omega) (by omega)
   cases left with
   | nil=>
    have d1:decide (((([] :List Mem).length:Nat):Int) > 0)=false:=rfl
    have d1':decide (0 < ((([] :List Mem).length:Nat):Int))=false:=rfl
    have d1'':decide (0 < ((0:Nat):Int))=false:=rfl
    simp only [T13Fa,EXA,seval,d1,d1',d1'',hwi]
    exact fin _ _ q2 q3 q4 q5 (by simp only [EXA,seval])
   | cons y r=>
    have hD:(y ::r).reverse ++x ::(passed.reverse ++rest)=r.reverse ++y ::x ::(passed.reverse ++rest):=by simp
    rw [hD] at q3
    have g0:(r.reverse ++y ::x ::(passed.reverse ++rest))[r.length]? =some y:=by
     rw [List.getElem?_append_right (by simp)]; simp
    have g1:(r.reverse ++y ::x ::(passed.reverse ++rest))[r.length+1]? =some x:=by
     rw [List.getElem?_append_right (by simp)]; simp
    have hrN:r.length+1 < N:=by simp at q1 k2; omega
    have d1:decide (((r.length+1:Nat):Int) > 0)=true:=by simp
    have d1':decide (0 < ((r.length+1:Nat):Int))=true:=by simp
    have i1:idxOf 6 none (.sl b 0 N 6 none) (.int .i64 ((r.length+1:Nat):Int))=some (.ptr b ((r.length+1)*6)):=by
     simp [idxOf]
     omega
    have i0:idxOf 6 none (.sl b 0 N 6 none) (.int .i64 ((r.length:Nat):Int))=some (.ptr b (r.length*6)):=by
     have:r.length < N:=by omega
     simp [idxOf,this]
    have wp:IntKind.wrap .i64 (((r.length+1:Nat):Int) - 1)=((r.length:Nat):Int):=by
     have:=wpred (j:=r.length+1) (by omega) (by omega)
     simpa using this
    have hlk:=q3.blk
    have hlen:(r.reverse ++y ::x ::(passed.reverse ++rest)).length=N:=by simp at q1 k2 ⊢; omega
    have rd1:readAt (LMem.cells _) ((r.length+1)*6) (some 6)=some (memE x):=LMem.read g1 (by decide)
    have rd0:readAt (LMem.cells _) (r.length*6) (some 6)=some (memE y):=LMem.read g0 (by decide)
    have hk:=r_key x y
    cases hb:bytesLess x.1 y.1
    ·simp only [T13Fa,EXA,seval,VX,d1,d1',i1,i0,wp,hlk,rd1,rd0,hk,keyC_lt,hb,hwi]
     simp only [insR,hb,Bool.false_eq_true,if_false] at q2
     exact fin _ _ q2 (by rw [hD]; exact q3) q4 q5 (by simp only [EXA,seval])
    ·simp only [insR,hb,if_true] at q2
     have hCl:=LMem.cells_len (r.reverse ++y ::x ::(passed.reverse ++rest))
     rw [hlen] at hCl
     have sw:=swap_set r.reverse (passed.reverse ++rest) x y
     rw [List.length_reverse] at sw
     have sp1:=LMem.splice (l:=r.reverse ++y ::x ::(passed.reverse ++rest)) (j:=r.length+1) y (by omega)
     generalize hD1:(r.reverse ++y ::x ::(passed.reverse ++rest)).set (r.length+1) y=D1 at sp1 sw
     have hl1:D1.length=N:=by rw [←hD1,List.length_set,hlen]
     have sp2:=LMem.splice (l:=D1) (j:=r.length) x (by omega)
     rw [sw] at sp2
     simp only [show ∀z,LMem.f z=memE z from fun _=>rfl,memE_cells,show LMem.sz=6 from rfl] at sp1 sp2
     have hc1:((r.length+1)*6+6≤(LMem.cells (r.reverse ++y ::x ::(passed.reverse ++rest))).length)=True:=eq_true (by rw [hCl]; show _≤N*6; omega)
     have hc2:(r.length*6+6≤(LMem.cells D1).length)=True:=eq_true (by rw [LMem.cells_len,hl1]; show _≤N*6; omega)
     simp only [T13Fa,EXA,seval,VX,d1,d1',i1,i0,wp,hlk,rd1,rd0,hk,keyC_lt,hb,hwi,hc1,sp1,hc2,sp2]
     refine ih2 (r,passed ++ [y]) _ _ (by simp) ⟨by simp at q1 ⊢; omega,by simpa using q2,?_,q4,?_⟩ (by simp only [EXA,seval])
     ·obtain ⟨o1,o2,o3,o4⟩:=q3
      refine ⟨?_,by simpa using LMem.cells_len (r.reverse ++x ::((passed ++ [y]).reverse ++rest)),o3,by simp; omega⟩
      simp [Store.get,look]
     ·intro b' hb'
      rw [←q5 b' hb']
      simp only [Store.get,look]
      rw [if_neg (fun hh=>hb' hh.symm),if_neg (fun hh=>hb' hh.symm)]
 obtain ⟨n,fr',σ1,h1,h2,h3⟩:=main
 exact ⟨σ1,callS_of (F:=F72) rfl (first:= []) (caps:= []) ⟨n,fr',σ1,h1,h2,rfl⟩,h3⟩
end Go.Ab
namespace Go.Ab
set_option maxHeartbeats 1000000
def T14Fb:= @F39.eq_1
set_option maxRecDepth 100000
theorem c_ins0 (v:AV) (σ:Store):callS ipU gU (.fn 72 [] []) [v, .int .i64 0, .int .i64 0, .fn 40 [] []] σ=some (.tup [],σ):=by
 refine callS_of (F:=F72) rfl (first:= []) (caps:= []) ?_
 have w1:IntKind.wrap .i64 (0+1)=((1:Nat):Int):=by decide
 have d0:decide (((1:Nat):Int) < 0)=false:=rfl
 simp only [F72_4,F72_9,F72_15,F72_25,F72_26,F72,ex_loop,EXA,Nat.reduceEqDiff,reduceIte,reduceCtorEq,Nat.reduceAdd,Nat.reduceLeDiff,Nat.reduceSub,Nat.reduceMul,Int.reduceEq,Int.reduceBEq,Int.reduceBNe,Int.reduceLT,Int.reduceLE,Nat.reduceLT,w1,d0]
def cpy (σ:Store) (l:List Mem):AV:=if l= [] then .vsl [] (some 0) else .sl σ.next 0 l.length 6 none
def cpyS (σ:Store) (l:List Mem):Store:=if l= [] then σ else σ.alloc (LMem.cells l)
theorem c_clone2 (l:List Mem) (c:Option Nat) (σ:Store) (hb:l.length < lim):callM ipU gU .split (.fn 38 [] []) [.vsl (l.map memE) c] σ=some (cpy σ l,cpyS σ l):=by
 unfold lim at hb
 cases l with
 | nil=>
  have hb2:both ipU gU (.fn 38 [] []) σ=true:=both_of 100 (by kernel_rfl) (by kernel_rfl)
  simp only [callM,List.map_nil,noItems,if_true,hb2,cpy,cpyS]
 | cons x l=>
  have hro: ∀σ',rowOf σ' 6 (.vsl ((x ::l).map memE) c)=some (LMem.cells (x ::l)):=fun σ'=>LMem.rowOf σ' (x ::l) c
  have ha:appendTo σ 6 96 (.vsl [] (some 0)) (LMem.cells (x ::l)) (l.length+1)=some (.sl σ.next 0 (l.length+1) 6 none,σ.alloc (LMem.cells (x ::l))):=
   app00 (by omega) (by omega) (by unfold maxBytes; simp at hb; omega) (LMem.cells_len (x ::l)) (LMem.cells_one _) (by omega)
  have hn:noItems [.vsl ((x ::l).map memE) c]=false:=rfl
  simp only [callM,hn,Bool.false_eq_true,if_false]
  refine callS_of (F:=F38) rfl (first:= []) (caps:= []) ?_
  simp only [List.map_cons] at hro
  simp only [F38,EXA,Nat.reduceEqDiff,reduceIte,reduceCtorEq,Nat.reduceAdd,Nat.reduceLeDiff,Nat.reduceSub,Nat.reduceMul,Int.reduceEq,Int.reduceBEq,Int.reduceBNe,Int.reduceLT,Int.reduceLE,Nat.reduceLT,VX,lenOf_vsl,hro,ha]
  simp [Store.alloc,cpy,cpyS]
theorem cpy_own {σ:Store} {l:List Mem} (h:l≠ []):Own LMem (cpyS σ l) (some σ.next) l:=by
 have hl:0 < l.length:=List.length_pos_iff.2 h
 rw [cpyS,if_neg h]
 exact ⟨get_alloc_next,LMem.cells_len l,by simp [next_alloc],hl⟩
theorem sortM_len (l:List Mem):(sortM l).length=l.length:=by simp [sortM,sortR_len]
theorem c_sort (l:List Mem) (σ:Store) (hb:l.length < 20): ∃σ',callS ipU gU (.fn 39 [] []) [cpy σ l, .fn 40 [] []] (cpyS σ l)=some (.tup [],σ')∧
  (if l= [] then σ'=σ else Own LMem σ' (some σ.next) (sortM l))∧Grown σ σ'∧σ'.next≤σ.next+1:=by
 have d1:decide ((20:Int)≤(l.length:Int))=false:=by simp; omega
 have d2:decide ((20:Int) < (l.length:Int))=false:=by simp; omega
 have h60: ∀(v:AV) (τ τ':Store),callS ipU gU (.fn 72 [] []) [v, .int .i64 0, .int .i64 (l.length:Int), .fn 40 [] []] τ=some (.tup [],τ')→
   callS ipU gU (.fn 60 [] []) [v, .int .i64 (l.length:Int), .fn 40 [] []] τ=some (.tup [],τ'):=by
  intro v τ τ' hc
  refine callS_of (F:=F60) rfl (first:= []) (caps:= []) ?_
  simp only [F60_54,F60,ex_loop,EXA,Nat.reduceEqDiff,reduceIte,reduceCtorEq,Nat.reduceAdd,Nat.reduceLeDiff,Nat.reduceSub,Nat.reduceMul,Int.reduceEq,Int.reduceBEq,Int.reduceBNe,Int.reduceLT,Int.reduceLE,Nat.reduceLT,d1,d2,hc]
 by_cases h0:l= []
 ·subst h0
  refine ⟨σ,?_,by rw [if_pos rfl],Grown.refl _,by omega⟩
  have h:=h60 (.vsl [] (some 0)) σ σ (c_ins0 _ _)
  refine callS_of (F:=F39) rfl (first:= []) (caps:= []) ?_
  simp only [cpy,cpyS,if_true]
  simp only [T14Fb,EXA,Nat.reduceEqDiff,reduceIte,reduceCtorEq,Nat.reduceAdd,Nat.reduceLeDiff,Nat.reduceSub,Nat.reduceMul,Int.reduceEq,Int.reduceBEq,Int.reduceBNe,Int.reduceLT,Int.reduceLE,Nat.reduceLT,VX] at h ⊢
  simp only [h,EXA,Nat.reduceEqDiff,reduceIte,reduceCtorEq,Nat.reduceAdd,Nat.reduceLeDiff,Nat.reduceSub,Nat.reduceMul,Int.reduceEq,Int.reduceBEq,Int.reduceBNe,Int.reduceLT,Int.reduceLE,Nat.reduceLT]
 ·have ho:=cpy_own (σ:=σ) h0
  obtain ⟨σ',h1,h2,h3,h4⟩:=c_ins σ.next l.length l (cpyS σ l) rfl (by omega) ho
  have h:=h60 _ _ _ h1
  have hn:(cpyS σ l).next=σ.next+1:=by rw [cpyS,if_neg h0]; rfl
  refine ⟨σ',?_,by rw [if_neg h0]; exact h2,⟨by omega,fun b hb'=> ?_⟩,by omega⟩
  ·refine callS_of (F:=F39) rfl (first:= []) (caps:= []) ?_
   simp only [cpy,if_neg h0]
   simp only [T14Fb,EXA,Nat.reduceEqDiff,reduceIte,reduceCtorEq,Nat.reduceAdd,Nat.reduceLeDiff,Nat.reduceSub,Nat.reduceMul,Int.reduceEq,Int.reduceBEq,Int.reduceBNe,Int.reduceLT,Int.reduceLE,Nat.reduceLT,VX,h]
  ·rw [h4 b (by omega),cpyS,if_neg h0,get_alloc hb']
end Go.Ab
namespace Go.Ab
set_option maxHeartbeats 1000000
def T15Fa:=J @F20_5.eq_1 (J @F20_21.eq_1 (J @F20_22.eq_1 (@F20.eq_1)))
set_option maxRecDepth 100000
structure Acc {α:Type} (L:Lay α) (σ0 σ:Store) (v:AV) (l:List α):Prop where
 gr:Gr L σ v l
 far: ∀b o len sz c,v= .sl b o len sz c→σ0.next≤b
 grown:Grown σ0 σ
theorem Acc.newset {α:Type} {L:Lay α} {σ0 σ:Store} {v:AV} {l:List α} (h:Acc L σ0 σ v l) (cs cs':List AV):Acc L σ0 { next:=σ.next+1,m:=(σ.next, .own cs) ::(σ.next, .own cs') ::σ.m } v l where
 gr:=h.gr.newset cs cs'
 far:=h.far
 grown:=⟨by have:=h.grown.1; simp; omega,fun b hb=>by
  rw [←h.grown.2 b hb]
  have:=h.grown.1
  show look ((σ.next,Blk.own cs) ::(σ.next, .own cs') ::σ.m) b=look σ.m b
  simp only [look]; rw [if_neg (by omega),if_neg (by omega)]⟩
theorem Acc.app {α:Type} {L:Lay α} {σ0 σ:Store} {v:AV} {l m:List α} (h:Acc L σ0 σ v l) (hm:0 < m.length):Acc L σ0 (grNext L σ v l m) (.sl σ.next 0 (l ++m).length L.sz none) (l ++m) where
 gr:=Gr.own (h.gr.next hm)
 far:=fun b o len sz c he=>by simp only [AV.sl.injEq] at he; have:=h.grown.1; omega
 grown:=⟨by rw [grNext_next]; have:=h.grown.1; omega,fun b hb=>by
  have h1:=h.grown.1
  rw [grNext_get h.gr (by omega) (fun len sz c he=>by have:=h.far _ _ _ _ _ he; omega)]
  exact h.grown.2 b hb⟩
def dedupM:List Mem→List Mem
 | []=> []
 | [x]=> [x]
 | x ::y ::r=>if y.1=x.1 then dedupM (y ::r) else x ::dedupM (y ::r)
def mapOf (l:List Mem):V:=V.mk 5 0 [] [] (dedupM (sortM l))
theorem r_Map (l:List Mem) (hb:l.length < 20):cR 20 [.vsl (l.map memE) none]=some (mapOf l).enc:=by
 refine cR_of (F:=F20) rfl ?_
 simp only [F20_5,F20_21,F20,ex_loop,EXA,seval,VX]
 have h1:=c_clone2 l none ⟨1, [(0, .own [.int .i64 0, .int .i64 0, .str [], .nils, .nils])]⟩ (by unfold lim; omega)
 obtain ⟨σ1,h2,h3,h4,h5⟩:=c_sort l ⟨1, [(0, .own [.int .i64 0, .int .i64 0, .str [], .nils, .nils])]⟩ hb
 have hN:=sortM_len l
 have hlen:lenL (cpy ⟨1, [(0, .own [.int .i64 0, .int .i64 0, .str [], .nils, .nils])]⟩ l)=some (.int .i64 (l.length:Int)):=by
  unfold cpy
  split
  ·rename_i h; subst h; rfl
  ·rfl
 have hidx: ∀j:Nat,j < l.length→idxOf 6 none (cpy ⟨1, [(0, .own [.int .i64 0, .int .i64 0, .str [], .nils, .nils])]⟩ l) (.int .i64 (j:Int))=some (.ptr 1 (j*6)):=by
  intro j hj
  have h0:l≠ []:=by rintro rfl; simp at hj
  unfold cpy
  rw [if_neg h0]
  simp [idxOf,hj]
 generalize cpy ⟨1, [(0, .own [.int .i64 0, .int .i64 0, .str [], .nils, .nils])]⟩ l=cv at h1 h2 hlen hidx
 simp only [h1]
 simp only [ex_loop,EXA,seval,VX,h2,hlen]
 unfold mapOf
 generalize hS:sortM l=S at h3 hN ⊢
 have z0:σ1.get 0=some (.own [.int .i64 0, .int .i64 0, .str [], .nils, .nils]):=h4.2 0 (by simp)
 have hnx:1≤σ1.next:=h4.1
 have own1: ∀j:Nat,j < l.length→Own LMem σ1 (some 1) S:=by
  intro j hj
  have h0:l≠ []:=by rintro rfl; simp at hj
  rw [if_neg h0] at h3
  exact h3
 refine ex_whileI (S:=Nat×List Mem×AV) (fun p=> [(0,cv),(2, .ptr 0 0),(3,p.2.2),(10,cv),(11, .int .i64 (l.length:Int)),(12, .int .i64 (p.1:Int))]) (fun p=>l.length - p.1)
  (fun p τ=>Acc LMem σ1 τ p.2.2 p.2.1∧p.2.1 ++dedupM (S.drop p.1)=dedupM S∧p.2.1.length≤p.1) ?_ (0, [], .nils) σ1 ⟨⟨Gr.nil _ _,fun b o len sz c h=>by simp at h,Grown.refl _⟩,by simp,by simp⟩
 rintro b ⟨j,acc,ov⟩ τ ⟨k1,k2,k3⟩ ih
 simp only at k1 k2 k3 ih ⊢
 by_cases hlt:j < l.length
 ·obtain ⟨x,hx⟩:=get_lt (l:=S) (j:=j) (by omega)
  have hcond:=dlt hlt
  have ho:=own1 j hlt
  have hb1:1 < σ1.next:=ho.lt
  have hg1:τ.get 1=some (.own (LMem.cells S)):=by rw [k1.grown.2 1 hb1]; exact ho.1
  have hlk:=look_get hg1
  have hne:(τ.next=1)=False:=eq_false (by have:=k1.grown.1; omega)
  have rd:readAt (LMem.cells S) (j*6) (some 6)=some (memE x):=LMem.read hx (by decide)
  have hi:=hidx j hlt
  have hw:=wsucc (j:=j) (n:=64) (by omega) (by omega)
  have hns:=k1.newset
  have hlo:lenOf (.vsl [memE x] (some 1))=some 1:=rfl
  have hro: ∀σ',rowOf σ' 6 (.vsl [memE x] (some 1))=some (memE x).cells:=fun σ'=>by
   have:=LMem.rowOf σ' [x] (some 1)
   simpa [Lay.cells,LMem] using this
  rw [drop_cons hx] at k2
  by_cases hlast:j+1=l.length
  ·have q1:(((j+1:Nat):Int) == (l.length:Int))=true:=by simp; omega
   have hd:S.drop (j+1)= []:=List.drop_eq_nil_of_le (by omega)
   rw [hd] at k2
   have happ: ∀cs cs',appendTo _ 6 96 ov (memE x).cells 1=some _:=fun cs cs'=>(hns cs cs').gr.push (a:=x) (bytes:=96) (by omega) (by unfold maxBytes; omega)
   simp only [memE_cells] at happ hro
   simp only [T15Fa,EXA,seval,VX,readAt_some,hcond,hi,hlk,hne,rd,hw,hlen,q1,hlo,hro,happ]
   refine ih (j+1,acc ++ [x],_) _ _ (by simp; omega) ⟨(hns _ _).app (by simp),?_,by simp; omega⟩ (by simp only [EXA,seval])
   rw [hd]
   simpa [dedupM] using k2
  ·have q1:(((j+1:Nat):Int) == (l.length:Int))=false:=by
    rw [beq_eq_false_iff_ne]; omega
   obtain ⟨y,hy⟩:=get_lt (l:=S) (j:=j+1) (by omega)
   have hi2:=hidx (j+1) (by omega)
   have hy0:readAt (LMem.cells S) ((j+1)*6) none=some (.str y.1):=by
    have:=LMem.read hy (by decide)
    show (LMem.cells S)[(j+1)*6]? =_
    have e:=LMem.drop (l:=S) (j:=j+1) (by omega)
    rw [drop_cons hy,LMem.cells_cons] at e
    have e2:((LMem.cells S).drop ((j+1)*6))[0]? =some (.str y.1):=by
     show ((LMem.cells S).drop ((j+1)*LMem.sz))[0]? =_
     rw [e]
     show ((memE y).cells ++_)[0]? =_
     rw [memE_cells]; rfl
    rw [List.getElem?_drop] at e2
    simpa using e2
   rw [drop_cons hy] at k2
   have hy1:(LMem.cells S)[(j+1)*6]? =some (.str y.1):=hy0
   by_cases hxy:y.1=x.1
   ·have q2:(!(y.1 == x.1))=false:=by simp [hxy]
    simp only [dedupM,hxy,if_true] at k2
    simp only [T15Fa,EXA,seval,VX,readAt_some,hcond,hi,hlk,hne,rd,hw,hlen,q1,hi2,hy1,q2]
    refine ih (j+1,acc,ov) _ _ (by simp; omega) ⟨hns _ _,?_,by simp; omega⟩ (by simp only [EXA,seval])
    rw [drop_cons hy]; exact k2
   ·have q2:(!(y.1 == x.1))=true:=by simp [hxy]
    simp only [dedupM,hxy,if_false] at k2
    have happ: ∀cs cs',appendTo _ 6 96 ov (memE x).cells 1=some _:=fun cs cs'=>(hns cs cs').gr.push (a:=x) (bytes:=96) (by omega) (by unfold maxBytes; omega)
    simp only [memE_cells] at happ hro
    simp only [T15Fa,EXA,seval,VX,readAt_some,hcond,hi,hlk,hne,rd,hw,hlen,q1,hi2,hy1,q2,hlo,hro,happ]
    refine ih (j+1,acc ++ [x],_) _ _ (by simp; omega) ⟨(hns _ _).app (by simp),?_,by simp; omega⟩ (by simp only [EXA,seval])
    rw [drop_cons hy]
    simpa using k2
 ·have hcond:=dge (Nat.not_lt.1 hlt)
  have hd:S.drop j= []:=List.drop_eq_nil_of_le (by omega)
  rw [hd] at k2
  simp only [dedupM,List.append_nil] at k2
  obtain ⟨p1,p2,p3,p4⟩:=k1.gr.plain
  have hlk0:=look_get ((k1.grown.2 0 (by omega)).trans z0)
  have hg2:Gr LMem { next:=τ.next,m:=(0, .own [.int .i64 5, .int .i64 0, .str [], .nils,ov]) ::τ.m } ov acc:=by
   rcases k1.gr with h | ⟨b',rfl,h⟩ | h
   ·exact .inl h
   ·have hb1:=k1.far b' _ _ _ _ rfl
    exact Gr.own (h.frame (by show look ((0,_) ::τ.m) b'=_; simp only [look]; rw [if_neg (by omega)]; rfl) (Nat.le_refl _))
   ·exact .inr (.inr h)
  have hrb:=RbL.agg (RbL.clo (x:= .int .i64 5) rfl (RbL.clo (x:= .int .i64 0) rfl (RbL.clo (x:= .str []) rfl (RbL.clo (x:= .nils) rfl (RbL.gr hg2 (RbL.nil _ 23))))))
  simp only [T15Fa,EXA,seval,VX,readAt_some,hcond,p1,p2,p3,p4,hlk0,hrb]
  rw [←k2]
  exact V.fold1 5 0 [] acc
end Go.Ab
namespace Go.Ab
set_option maxHeartbeats 1000000
set_option maxRecDepth 100000
end Go.Ab
namespace Go.Ab
set_option maxHeartbeats 1000000
set_option maxRecDepth 100000
end Go.Ab
namespace Go.Ab
set_option maxHeartbeats 1000000
set_option maxRecDepth 100000
end Go.Ab
namespace Go.Ab
set_option maxHeartbeats 1000000
set_option maxRecDepth 100000
end Go.Ab
namespace Go.Ab
set_option maxHeartbeats 1000000
set_option maxRecDepth 100000
end Go.Ab
namespace Go.Ab
set_option maxHeartbeats 1000000
set_option maxRecDepth 100000
end Go.Ab
namespace Go.Ab
set_option maxHeartbeats 1000000
set_option maxRecDepth 100000
end Go.Ab
namespace Go.Ab
set_option maxHeartbeats 1000000
set_option maxRecDepth 100000
section
variable {e:Ev} {k:List Item} {σ:Store} {Q:Fr→Store→Prop}
end
end Go.Ab
namespace Go.Ab
set_option maxHeartbeats 1000000
set_option maxRecDepth 100000
end Go.Ab
namespace Go.Ab
set_option maxHeartbeats 1000000
set_option maxRecDepth 100000
end Go.Ab
namespace Go.Ab
set_option maxHeartbeats 1000000
set_option maxRecDepth 100000
end Go.Ab
namespace Go.Ab
set_option maxHeartbeats 1000000
set_option maxRecDepth 100000
end Go.Ab
namespace Go.Ab
set_option maxHeartbeats 1000000
set_option maxRecDepth 100000
end Go.Ab
namespace Go.Ab
set_option maxHeartbeats 1000000
set_option maxRecDepth 100000
end Go.Ab
namespace Go.Ab
set_option maxHeartbeats 1000000
set_option maxRecDepth 100000
end Go.Ab
namespace Go.Ab
set_option maxHeartbeats 1000000
set_option maxRecDepth 100000
end Go.Ab
namespace Go.Ab
set_option maxHeartbeats 1000000
def U1Fa:=J @F161_20.eq_1 (@F161.eq_1)
set_option maxRecDepth 100000
theorem idx_mem {l:List Mem} {j:Nat} {e:Mem} {c:Option Nat} (h:l[j]? =some e):idxOf 6 none (.vsl (l.map memE) c) (.int .i64 (j:Int))=some (.vptr (memE e).cells 0):=idx_map (f:=memE) h (by simp [memE_cells])
theorem r_indexM (l:List Mem) (f:AV) (p:Mem→Bool) (hf:f.closed=true) (hfe:f.er=f) (hlen:l.length < big) (hp: ∀e∈l,callR ipU gU f [memE e]=some (.bool (p e))) :
  cR 161 [.vsl (l.map memE) none,f]=some (.int .i64 (firstFrom p l 0)):=by
 unfold big at hlen
 refine cR_of (F:=F161) rfl ?_
 simp only [F161,ex_loop,EXA,seval,VX]
 refine ex_while (S:=Nat) (fun j=> [(0, .vsl (l.map memE) none),(1,f),(7, .int .i64 l.length),(8, .int .i64 (j:Int))]) (fun _=> .empty) (fun j=>l.length - j) (fun j=>firstFrom p l j=firstFrom p l 0) ?_ 0 rfl
 intro b j hj ih
 by_cases hlt:j < l.length
 ·obtain ⟨v,hv⟩:=get_lt hlt
  have hidx:=idx_mem (c:=none) hv
  have hcall:=hp v (List.mem_of_getElem? hv)
  have hcond:=dlt hlt
  simp only [U1Fa,EXA,seval,VX,readAt_some,hcond,hidx,hf,hfe,hcall]
  split
  ·rename_i hpe
   rw [←hj,firstFrom_hit hv hpe]
  ·rename_i hpe
   refine ih (j+1) _ _ (by omega) ?_ ?_ rfl
   ·rw [←firstFrom_miss hv (by simpa using hpe)]; exact hj
   ·rw [wsucc hlt (by omega)]
    simp only [EXA,seval]
 ·have hcond:=dge (Nat.not_lt.1 hlt)
  simp only [U1Fa,EXA,seval,hcond]
  rw [←hj,firstFrom_end (by omega)]
theorem rb_slp {σ:Store} {d b n sz:Nat} {cells rest:List AV} (h:σ.cells b=some (cells ++rest)) (h2:cells.length=n*sz) (hs:0 < sz) (hc:closedL cells=true) (ha:cells.all AV.notAgg=true) :
  rb σ (d+1) (.sl b 0 n sz none)=some (.vsl (chunks sz n cells) none):=by
 have ht:List.take (n*sz) (List.drop 0 (cells ++rest))=cells:=by rw [List.drop_zero,←h2,List.take_left]
 have e:rb σ (d+1) (.sl b 0 n sz none)=(match σ.cells b with
   | some cs=>
    if 0+n*sz≤cs.length∧0 < sz then
     match mapO (rb σ d) ((cs.drop 0).take (n*sz)) with
     | some cs'=>if cs'.all AV.notAgg then some (.vsl (chunks sz n cs') none) else none
     | none=>none
    else none
   | none=>none):=rfl
 rw [e,h]
 simp only
 rw [if_pos ⟨by rw [List.length_append]; omega,hs⟩,ht,mapO_closed' hc]
 simp only
 rw [if_pos ha]
def Rp {α:Type} (L:Lay α) (σ:Store) (v:AV) (l:List α):Prop:=(l= []∧(v= .nils∨v= .vsl [] (some 0)))∨∃b rest,v= .sl b 0 l.length L.sz none∧σ.get b=some (.own (L.cells l ++rest))
theorem Rp.rbD {α:Type} {L:Lay α} {σ:Store} {v:AV} {l:List α} (h:Rp L σ v l) (d:Nat): ∃v',Go.Ab.rb σ (d+1) v=some v'∧v'.er= .vsl (l.map L.f) none:=by
 rcases h with ⟨rfl,rfl | rfl⟩ | ⟨b,rest,rfl,h⟩
 ·exact ⟨_,rfl,by simp only [AV.er]; rfl⟩
 ·exact ⟨_,rb_closed' rfl,by simp only [AV.er,erL]; rfl⟩
 ·refine ⟨_,rb_slp (cells:=L.cells l) (rest:=rest) (by simp [Store.cells,h]) (L.cells_len l) L.pos (L.cells_closed l) (one_notAgg (L.cells_one l)),?_⟩
  rw [L.chunks]; simp only [AV.er,L.erMap]
theorem RbL.rp {α:Type} {L:Lay α} {σ:Store} {d:Nat} {v:AV} {l:List α} {cs cs':List AV} (hv:Rp L σ v l) (h:RbL σ (d+1) cs cs'):RbL σ (d+1) (v ::cs) (.vsl (l.map L.f) none ::cs'):=by
 obtain ⟨m,h1,h2⟩:=h
 obtain ⟨v',h3,h4⟩:=hv.rbD d
 exact ⟨v' ::m,by simp only [mapO,h3,h1],by simp only [erL,h2,h4]⟩
theorem read_row {α:Type} (L:Lay α) (hs:L.sz≠1) (pre post:List α) (x:α) (rest:List AV):readAt (L.cells (pre ++x ::post) ++rest) (pre.length*L.sz) (some L.sz)=some (L.f x):=by
 have hag:=L.agg x
 rw [if_neg hs] at hag
 obtain ⟨cs,hcs⟩:=hag
 have h1:=L.cells_len pre
 have hx:=L.len x
 rw [readAt_some,L.cells_append,L.cells_cons,←h1]
 simp only [List.append_assoc]
 rw [if_pos (by simp; omega),List.drop_left,←hx,List.take_left,hcs]
 rfl
end Go.Ab
namespace Go.Ab
set_option maxHeartbeats 1000000
set_option maxRecDepth 100000
structure GSt where
 j:Nat
 ob:Option Nat
 out:List Int
 left:Int
 n:Nat
theorem RbL.tup {σ:Store} {cs cs':List AV} (h:RbL σ 23 cs cs'):rbE σ (.tup cs)=some (.tup cs'):=by
 obtain ⟨m,h1,h2⟩:=h
 unfold rbE
 by_cases hc:(AV.tup cs).closed=true
 ·have:m=cs:=by
   have hm:=mapO_closed' (σ:=σ) (d:=23) (show closedL cs=true by simpa [AV.closed] using hc)
   rw [h1] at hm
   exact Option.some.inj hm
  subst this
  rw [rb_closed' hc,Option.map_some,AV.er,h2]
 ·have e:rb σ rbDepth (.tup cs)=some (.tup m):=by
   show rb σ (23+1) (.tup cs)=_
   rw [rb,if_neg hc,h1]
  rw [e,Option.map_some,AV.er,h2]
theorem Own.gr {α:Type} {L:Lay α} {σ:Store} {ob:Option Nat} {l:List α} (h:Own L σ ob l):Gr L σ (slOf L.sz ob l.length) l:=by
 cases ob with
 | none=>exact .inl ⟨rfl,List.eq_nil_of_length_eq_zero h.1⟩
 | some b=>exact Gr.own h
end Go.Ab
namespace Go.Ab
set_option maxHeartbeats 1000000
set_option maxRecDepth 100000
end Go.Ab
namespace Go.Ab
set_option maxHeartbeats 1000000
set_option maxRecDepth 100000
end Go.Ab
namespace Go.Ab
set_option maxHeartbeats 1000000
set_option maxRecDepth 100000
abbrev zMem:List AV:= [.str [], .int .i64 0, .int .i64 0, .str [], .nils, .nils]
structure DelI (l:List Mem) (p:Mem→Bool) (b0:Nat) (σ0:Store) (j:Nat) (kept junk:List Mem) (σ:Store):Prop where
 row:look σ.m b0=some (.own (LMem.cells (kept ++junk ++l.drop j)))
 len:kept.length+junk.length=j
 le:j≤l.length
 kept_eq:kept=(l.take j).filter fun x=> !p x
 nx:σ0.next≤σ.next
 old: ∀b,b < σ0.next→b≠b0→σ.get b=σ0.get b
 b0:b0 < σ0.next
theorem idx_sl {b n j:Nat} {σ:Store} (h:j < n):idxOf 6 none (.sl b 0 n 6 none) (.int .i64 (j:Int))=some (.ptr b (j*6)):=by
 have h2:((j:Int) < (n:Int)):=by omega
 simp [Go.Ab.idxOf,h2]
end Go.Ab
namespace Go.Ab
set_option maxHeartbeats 1000000
set_option maxRecDepth 100000
end Go.Ab
namespace Go.Ab
set_option maxHeartbeats 1000000
set_option maxRecDepth 100000
def GM (σ:Store) (v:AV) (l:List Mem):Prop:=(v= .nils∧l= [])∨∃b,v= .sl b 0 l.length 6 none∧look σ.m b=some (.own (LMem.cells l))∧b < σ.next∧0 < b
theorem GM.lenL {σ:Store} {v:AV} {l:List Mem} (h:GM σ v l):lenL v=some (.int .i64 l.length):=by
 rcases h with ⟨rfl,rfl⟩ | ⟨b,rfl,_⟩ <;> rfl
theorem GM.idx {σ:Store} {v:AV} {l:List Mem} (h:GM σ v l) {j:Nat} {x:Mem} (hj:l[j]? =some x) :
  ∃b,v= .sl b 0 l.length 6 none∧idxOf 6 none v (.int .i64 (j:Int))=some (.ptr b (j*6))∧readPtr σ (.ptr b (j*6)) (some 6)=some (memE x)∧readPtr σ (.ptr b (j*6)) none=some (.str x.1):=by
 have hlt:=lt_of_get hj
 rcases h with ⟨rfl,rfl⟩ | ⟨b,rfl,h,hb,_⟩
 ·simp at hj
 ·have e:l=l.take j ++x ::l.drop (j+1):=by rw [←drop_cons hj,List.take_append_drop]
  have hl:(l.take j).length=j:=by simp; omega
  have hr:readAt (LMem.cells l) (j*6) (some 6)=some (memE x):=by
   have:readAt (LMem.cells (l.take j ++x ::l.drop (j+1)) ++ []) ((l.take j).length*6) (some 6)=some (memE x):=read_row LMem (by simp [LMem]) (l.take j) (l.drop (j+1)) x []
   rw [hl,←e,List.append_nil] at this
   exact this
  have hk:readAt (LMem.cells l) (j*6) none=some (.str x.1):=by
   have h1:(LMem.cells (l.take j)).length=j*6:=by rw [LMem.cells_len,hl]; rfl
   rw [readAt_none,e,Lay.cells_append,Lay.cells_cons,List.getElem?_append_right (by omega),h1,Nat.sub_self]
   show ((memE x).cells ++_)[0]? =_
   rw [memE_cells]; rfl
  have hc:σ.cells b=some (LMem.cells l):=by simp [Store.cells,Store.get,h]
  exact ⟨b,rfl,idx_sl (σ:=σ) hlt,by simp only [readPtr,hc,hr],by simp only [readPtr,hc,hk]⟩
def shC (acc:List Mem) (j:Nat) (junk:List AV):List AV:=LMem.cells (acc.take j) ++junk ++LMem.cells (acc.drop j)
end Go.Ab
namespace Go.Ab
set_option maxHeartbeats 1000000
set_option maxRecDepth 100000
theorem GM.frame {σ σ':Store} {v:AV} {l:List Mem} (h:GM σ v l) (hn:σ.next≤σ'.next) (hg: ∀b,v= .sl b 0 l.length 6 none→look σ'.m b=look σ.m b):GM σ' v l:=by
 rcases h with h | ⟨b,rfl,h1,h2,h3⟩
 ·exact .inl h
 ·exact .inr ⟨b,rfl,by rw [hg b rfl]; exact h1,by omega,h3⟩
theorem GM.app {σ:Store} {v:AV} {l:List Mem} (h:GM σ v l) (hl:l.length < lim) (hn:0 < σ.next): ∃σ',appendTo σ 6 96 v zMem 1=some (.sl σ.next 0 (l.length+1) 6 none,σ')∧
  look σ'.m σ.next=some (.own (shC l l.length zMem))∧σ'.next=σ.next+1∧look σ'.m 0=look σ.m 0:=by
 unfold lim at hl
 have hc:shC l l.length zMem=LMem.cells l ++zMem:=by
  unfold shC
  rw [List.take_of_length_le (Nat.le_refl _),List.drop_of_length_le (Nat.le_refl _)]
  simp [Lay.cells]
 rcases h with ⟨rfl,rfl⟩ | ⟨b,rfl,h1,h2,h3⟩
 ·obtain ⟨σ',a1,a2,a3,a4⟩:=append_own (σ:=σ) (sz:=6) (bytes:=96) (n:=0) (k:=1) (ob:=none) (cells:= []) (new:=zMem) ⟨rfl,rfl⟩ (by omega) (by omega) (by unfold maxBytes; omega) rfl rfl (by omega)
  refine ⟨σ',a1,?_,a3,a4 0 hn (by simp)⟩
  rw [hc]
  exact a2.1
 ·cases l with
  | nil=>
   refine ⟨(σ.set b .dead).alloc ([] ++zMem),?_,?_,rfl,?_⟩
   ·have ho:σ.owned b=some []:=by
     have:σ.get b=some (.own (LMem.cells [])):=h1
     simp [Store.owned,this,Lay.cells]
    unfold appendTo
    simp only [lenOf,ho,List.length_nil]
    simp [maxBytes,AV.one]
   ·rw [hc]; exact get_alloc_next (σ:=σ.set b .dead)
   ·have:=get_alloc (σ:=σ.set b .dead) (cs:= [] ++zMem) (b:=0) (by rw [next_set]; omega)
    exact this.trans (get_set (by omega))
  | cons x l=>
   obtain ⟨σ',a1,a2,a3,a4⟩:=append_own (σ:=σ) (sz:=6) (bytes:=96) (n:=(x ::l).length) (k:=1) (ob:=some b) (cells:=LMem.cells (x ::l)) (new:=zMem) ⟨h1,LMem.cells_len _,h2,by simp⟩ (by omega) (by omega) (by unfold maxBytes; omega) rfl rfl (by omega)
   refine ⟨σ',a1,?_,a3,a4 0 hn (by simp; omega)⟩
   rw [hc]
   exact a2.1
end Go.Ab
namespace Go.Ab
set_option maxHeartbeats 1000000
set_option maxRecDepth 100000
def Rd {α:Type} (L:Lay α) (σ:Store) (v:AV) (l:List α):Prop:=
 (v= .nils∧l= [])∨(∃b,v= .sl b 0 l.length L.sz none∧σ.cells b=some (L.cells l)∧b < σ.next)∨v= .vsl (l.map L.f) (some l.length)
section
variable {α:Type} {L:Lay α} {σ:Store} {v:AV} {l:List α}
theorem Gr.rd (h:Gr L σ v l):Rd L σ v l:=by
 rcases h with h | ⟨b,rfl,h⟩ | h
 ·exact .inl h
 ·exact .inr (.inl ⟨b,rfl,by have:=h.1; simp [Store.cells,this],h.lt⟩)
 ·exact .inr (.inr h)
theorem freeze_cells (σ:Store) (b:Nat):σ.freeze.cells b=σ.cells b:=by
 have e:σ.freeze.get b=(σ.get b).map fun x=>match x with | .own cs=> .frz cs | x=>x:=by
  unfold Store.freeze Store.get
  simp only
  induction σ.m with
  | nil=>rfl
  | cons p l ih=>
   obtain ⟨i,x⟩:=p
   simp only [List.map_cons,look]
   by_cases h:i=b
   ·rw [if_pos h,if_pos h]; rfl
   ·rw [if_neg h,if_neg h]; exact ih
 unfold Store.cells
 rw [e]
 cases σ.get b with
 | none=>rfl
 | some x=>cases x <;> rfl
theorem Rd.freeze (h:Rd L σ v l):Rd L σ.freeze v l:=by
 rcases h with h | ⟨b,rfl,h,h2⟩ | h
 ·exact .inl h
 ·exact .inr (.inl ⟨b,rfl,by rw [freeze_cells]; exact h,h2⟩)
 ·exact .inr (.inr h)
theorem Rd.newset (h:Rd L σ v l) (cs cs':List AV):Rd L { next:=σ.next+1,m:=(σ.next, .own cs) ::(σ.next, .own cs') ::σ.m } v l:=by
 rcases h with h | ⟨b,rfl,h,h2⟩ | h
 ·exact .inl h
 ·refine .inr (.inl ⟨b,rfl,?_,by simp; omega⟩)
  have:Store.get { next:=σ.next+1,m:=(σ.next, .own cs) ::(σ.next, .own cs') ::σ.m } b=σ.get b:=by
   show look ((σ.next,Blk.own cs) ::(σ.next, .own cs') ::σ.m) b=look σ.m b
   simp only [look]; rw [if_neg (by omega),if_neg (by omega)]
  unfold Store.cells at h ⊢
  rw [this]; exact h
 ·exact .inr (.inr h)
theorem Rd.rb (h:Rd L σ v l): ∃v',Go.Ab.rb σ rbDepth v=some v'∧v'.er= .vsl (l.map L.f) none:=by
 rcases h with ⟨rfl,rfl⟩ | ⟨b,rfl,h,_⟩ | rfl
 ·exact ⟨_,rfl,by simp only [AV.er]; rfl⟩
 ·refine ⟨_,rb_sl (d:=23) h (L.cells_len l) L.pos (L.cells_closed l) (one_notAgg (L.cells_one l)),?_⟩
  rw [L.chunks]; simp only [AV.er,L.erMap]
 ·refine ⟨_,rb_closed' (by simp only [AV.closed]; exact closedL_map fun a _=>L.closed a),?_⟩
  simp only [AV.er,L.erMap]
theorem Rd.call2 {st:Bool} {f:Nat} {x r:AV} (h:Rd L σ v l) (hx:x.closed=true) (hc:cR f [x.er, .vsl (l.map L.f) none]=some r) (hr:r.flat=true) :
  callP ipU gU st (.fn f [] []) [x,v] σ=some (r,σ):=by
 obtain ⟨v',h1,h2⟩:=h.rb
 refine callP_flat (args':= [x,v']) rfl ?_ ?_ hr
 ·simp only [mapO,h1,rb_closed' hx]
 ·simp only [erL,h2,AV.er]; exact hc
def Dis (v w:AV):Prop:=∀b o len sz c o' len' sz' c',v= .sl b o len sz c→w≠ .sl b o' len' sz' c'
theorem Dis.symm {v w:AV} (h:Dis v w):Dis w v:=fun _ _ _ _ _ _ _ _ _ h1 h2=>h _ _ _ _ _ _ _ _ _ h2 h1
end
theorem Gr.idxS {σ:Store} {v:AV} {l:List Bs} (h:Gr LStr σ v l) {j:Nat} {s:Bs} (hj:l[j]? =some s): ∃p,idxOf 1 none v (.int .i64 (j:Int))=some p∧readPtr σ p none=some (.str s):=by
 have hlt:=lt_of_get hj
 have hc: ∀m:List Bs,LStr.cells m=m.map AV.str:=by
  intro m; simp only [Lay.cells,LStr,AV.cells]; induction m with
  | nil=>rfl
  | cons a m ih=>simp [ih]
 rcases h with ⟨rfl,rfl⟩ | ⟨b,rfl,h⟩ | rfl
 ·simp at hj
 ·refine ⟨.ptr b j,?_,?_⟩
  ·simp [idxOf,LStr,hlt]
  ·have:=h.1
   simp only [readPtr,Store.cells,this,readAt,hc,List.getElem?_map,hj,Option.map_some]
 ·refine ⟨.vptr [.str s] 0,idx_map (f:=AV.str) hj rfl,rfl⟩
end Go.Ab
namespace Go.Ab
set_option maxHeartbeats 1000000
set_option maxRecDepth 100000
def tV3 (s:Bs):V:=V.mk 3 0 s [] []
def iV2 (n:Int):V:=V.mk 2 n [] [] []
structure LSt (σ:Store) (v:AV) (acc:List V):Prop where
 one:look σ.m 1=some (.own [.int .i64 4, .int .i64 0, .str [],v, .nils])
 nil:look σ.m 0=some (.own [.int .i64 0, .int .i64 0, .str [], .nils, .nils])
 gr:Gr LV σ v acc
 nx:1 < σ.next
 far: ∀b len sz c,b < 2→v≠ .sl b 0 len sz c
theorem LSt.push {σ:Store} {v:AV} {acc:List V} (h:LSt σ v acc) (hl:acc.length < lim) (x:V) :
  appendTo σ 5 80 v x.enc.cells 1=some (.sl σ.next 0 (acc ++ [x]).length 5 none,grNext LV σ v acc [x])∧look (grNext LV σ v acc [x]).m 1=some (.own [.int .i64 4, .int .i64 0, .str [],v, .nils])∧
  LSt { next:=(grNext LV σ v acc [x]).next,m:=(1, .own [.int .i64 4, .int .i64 0, .str [], .sl σ.next 0 (acc ++ [x]).length 5 none, .nils]) ::(grNext LV σ v acc [x]).m } (.sl σ.next 0 (acc ++ [x]).length 5 none) (acc ++ [x]):=by
 unfold lim at hl
 have hnx:=h.nx
 have hn:=grNext_next LV σ v acc [x]
 have g1:look (grNext LV σ v acc [x]).m 1=look σ.m 1:=grNext_get (m:= [x]) h.gr hnx (fun len sz c=>h.far 1 len sz c (by omega))
 have g0:look (grNext LV σ v acc [x]).m 0=look σ.m 0:=grNext_get (m:= [x]) h.gr (by omega) (fun len sz c=>h.far 0 len sz c (by omega))
 have hg:=h.gr.next (m:= [x]) (by simp)
 refine ⟨h.gr.push (a:=x) (bytes:=80) (by omega) (by unfold maxBytes; omega),by rw [g1]; exact h.one,by simp [look],?_,?_,by show 1 < (grNext LV σ v acc [x]).next; omega,?_⟩
 ·show look ((1,_) ::_) 0=_
  simp only [look]
  rw [if_neg (by omega),g0]; exact h.nil
 ·exact Gr.own (L:=LV) (hg.frame (by show look ((1,_) ::_) σ.next=look _ σ.next; simp only [look]; rw [if_neg (by omega)]) (Nat.le_refl _))
 ·intro b len sz c hb hv
  simp only [AV.sl.injEq] at hv
  omega
theorem LSt.fin {σ:Store} {v:AV} {acc:List V} (h:LSt σ v acc):rbE { next:=σ.next,m:=(0, .own [.int .i64 4, .int .i64 0, .str [],v, .nils]) ::σ.m } (.agg [.int .i64 4, .int .i64 0, .str [],v, .nils])=some (V.mk 4 0 [] acc []).enc:=by
 have hg:Gr LV { next:=σ.next,m:=(0, .own [.int .i64 4, .int .i64 0, .str [],v, .nils]) ::σ.m } v acc:=by
  rcases h.gr with g | ⟨b,rfl,g⟩ | g
  ·exact .inl g
  ·refine .inr (.inl ⟨b,rfl,g.frame ?_ (Nat.le_refl _)⟩)
   have hb:b≠0:=by rintro rfl; exact h.far 0 _ _ _ (by omega) rfl
   show look ((0,_) ::_) b=look _ b
   simp only [look]; rw [if_neg (fun hh=>hb hh.symm)]
  ·exact .inr (.inr g)
 have:=RbL.agg (RbL.clo (x:= .int .i64 4) rfl (RbL.clo (x:= .int .i64 0) rfl (RbL.clo (x:= .str []) rfl (RbL.gr hg (RbL.clo (x:= .nils) rfl (RbL.nil _ 23))))))
 simp only [er_int,er_str,er_nils] at this
 rw [V.enc_eq]
 exact this
end Go.Ab
namespace Go.Ab
set_option maxHeartbeats 1000000
set_option maxRecDepth 100000
structure KSt (σ:Store) (v:AV) (acc:List Mem):Prop where
 nil:look σ.m 0=some (.own [.int .i64 0, .int .i64 0, .str [], .nils, .nils])
 gr:Gr LMem σ v acc
 nx:0 < σ.next
 far: ∀len sz c,v≠ .sl 0 0 len sz c
theorem KSt.push {σ:Store} {v:AV} {acc:List Mem} (h:KSt σ v acc) (hl:acc.length < lim) (x:Mem) :
  appendTo σ 6 96 v (memE x).cells 1=some (.sl σ.next 0 (acc ++ [x]).length 6 none,grNext LMem σ v acc [x])∧KSt (grNext LMem σ v acc [x]) (.sl σ.next 0 (acc ++ [x]).length 6 none) (acc ++ [x]):=by
 unfold lim at hl
 have hnx:=h.nx
 have hn:=grNext_next LMem σ v acc [x]
 have g0:look (grNext LMem σ v acc [x]).m 0=look σ.m 0:=grNext_get (m:= [x]) h.gr (by omega) h.far
 refine ⟨h.gr.push (a:=x) (bytes:=96) (by omega) (by unfold maxBytes; omega),by rw [g0]; exact h.nil,Gr.own (h.gr.next (m:= [x]) (by simp)),by omega,?_⟩
 intro len sz c hv
 simp only [AV.sl.injEq] at hv
 omega
end Go.Ab
namespace Go.Ab
set_option maxHeartbeats 1000000
def W5Fd:= @F138.eq_1
set_option maxRecDepth 100000
def intV (g:V×Bool):Int×Bool:=if g.2 && g.1.kind == 2 then (g.1.n,true) else (0,false)
theorem r_intAt (v:V) (k:Bs) (hb:v.sz < big):cR 138 [v.enc, .str k]=some (.tup [.int .i64 (intV (getV v k)).1, .bool (intV (getV v k)).2]):=by
 have h:=r_get v k hb
 generalize getV v k=t at h ⊢
 obtain ⟨x,b⟩:=t
 refine cR_of (F:=F138) rfl ?_
 have hb2:(x.kind != 2)= !(x.kind == 2):=rfl
 cases b with
 | false=>simp only [W5Fd,EXA,seval,VX,readAt_some,V.eta,h]; rfl
 | true=>
  cases h2:x.kind == 2 with
  | false=>rw [h2] at hb2; simp only [W5Fd,EXA,seval,VX,readAt_some,V.eta,h,hb2]; simp [intV,h2]
  | true=>rw [h2] at hb2; simp only [W5Fd,EXA,seval,VX,readAt_some,V.eta,h,hb2]; simp [intV,h2]
end Go.Ab
namespace Go.Ab
set_option maxHeartbeats 1000000
set_option maxRecDepth 100000
abbrev Nlv:=Bs×Int
def levE (x:Nlv):AV:= .agg [.str x.1, .int .i64 x.2]
structure Lv where
 users:List Nlv
 events:List Nlv
 ud:Int
 ed:Int
 sd:Int
 ban:Int
 kick:Int
 redact:Int
 invite:Int
def lvC (l:Lv):List AV:= [.vsl (l.users.map levE) none, .vsl (l.events.map levE) none, .int .i64 l.ud, .int .i64 l.ed, .int .i64 l.sd, .int .i64 l.ban, .int .i64 l.kick, .int .i64 l.redact, .int .i64 l.invite]
def Lv.zero:Lv:=⟨[], [],0,0,0,0,0,0,0⟩
abbrev kUD:Bs:= [117,115,101,114,115,95,100,101,102,97,117,108,116]
abbrev kED:Bs:= [101,118,101,110,116,115,95,100,101,102,97,117,108,116]
abbrev kSD:Bs:= [115,116,97,116,101,95,100,101,102,97,117,108,116]
abbrev kBanL:Bs:= [98,97,110]
abbrev kKick:Bs:= [107,105,99,107]
abbrev kRedact:Bs:= [114,101,100,97,99,116]
abbrev kUsers:Bs:= [117,115,101,114,115]
abbrev kEvents:Bs:= [101,118,101,110,116,115]
abbrev kNotif:Bs:= [110,111,116,105,102,105,99,97,116,105,111,110,115]
abbrev kCreator:Bs:= [99,114,101,97,116,111,114]
abbrev kLeave:Bs:= [108,101,97,118,101]
abbrev kPublic:Bs:= [112,117,98,108,105,99]
abbrev kRestr:Bs:= [114,101,115,116,114,105,99,116,101,100]
abbrev kKnockR:Bs:= [107,110,111,99,107,95,114,101,115,116,114,105,99,116,101,100]
abbrev kFed:Bs:= [109,46,102,101,100,101,114,97,116,101]
abbrev kVersion:Bs:= [114,111,111,109,95,118,101,114,115,105,111,110]
def seven:List Bs:= [kUD,kED,kSD,kBanL,kKick,kRedact,kInvite]
def levelsV (v:V) (k:Bs):List Nlv:=(getV v k).1.m.map fun m=>(m.1,m.2.n)
def isKind (g:V×Bool) (n:Int):Bool:= !g.2 || g.1.kind == n
def fineP (v:V):Bool:=seven.all (fun k=>isKind (getV v k) 2) && ([kUsers,kEvents,kNotif].all (fun k=>isKind (getV v k) 5 && (!(getV v k).2 || (getV v k).1.m.all fun m=>m.2.kind == 2)) && (levelsV v kUsers).all fun l=>(partsB l.1 64).2.2)
def intOr (v:V) (k:Bs) (d:Int):Int:=if (intV (getV v k)).2 then (intV (getV v k)).1 else d
def powerOf (c:V):Lv×Int:=if !(c.good && c.kind == 5) then (Lv.zero,1) else if !fineP c then (Lv.zero,7) else
 (⟨levelsV c kUsers,levelsV c kEvents,intOr c kUD 0,intOr c kED 0,intOr c kSD 50,intOr c kBanL 50,intOr c kKick 50,intOr c kRedact 50,intOr c kInvite 0⟩,0)
def firstL (l:List Nlv) (name:Bs) (o:Int):Int:=match l.find? (fun x=>x.1 == name) with
 | some x=>x.2
 | none=>o
def userL (l:Lv) (u:Bs):Int:=firstL l.users u l.ud
def eventL (l:Lv) (t:Bs) (st:Bool):Int:=firstL l.events t (if st then l.sd else l.ed)
def noneL (u:Bs):Lv:=⟨[(u,100)], [],0,0,0,50,50,50,0⟩
def creatorS (s:List Ev):Bs×Bool:=textAt (ofE s ⟨kCreate, []⟩).1.content kCreator
def levelsS (s:List Ev):Lv×Bool:=
 if (ofE s ⟨kPower, []⟩).2 then ((powerOf (ofE s ⟨kPower, []⟩).1.content).1,(powerOf (ofE s ⟨kPower, []⟩).1.content).2 == 0)
 else if (creatorS s).2 then (noneL (creatorS s).1,true) else (Lv.zero,false)
def memberS (s:List Ev) (u:Bs):Bs:=if (ofE s ⟨kMember,u⟩).2 then membershipV (ofE s ⟨kMember,u⟩).1.content else []
def firstS (e:Ev) (s:List Ev):Bool:=(ofE s ⟨kCreate, []⟩).2 && ((creatorS s).2 && (decide (e.prev.length=1) && (e.prev.headD [] == (ofE s ⟨kCreate, []⟩).1.id && (creatorS s).1 == e.key)))
structure Fc where
 to:Bs
 self:Bool
 first:Bool
 sender:Bs
 target:Bs
 rule:Bs
 auth:Bool
 third:Int
 level:Int
 tlevel:Int
 invite:Int
 kick:Int
 ban:Int
def fcC (f:Fc):List AV:= [.str f.to, .bool f.self, .bool f.first, .str f.sender, .str f.target, .str f.rule, .bool f.auth, .int .i64 f.third, .int .i64 f.level, .int .i64 f.tlevel, .int .i64 f.invite, .int .i64 f.kick, .int .i64 f.ban]
def Fc.zero:Fc:=⟨[],false,false, [], [], [],false,0,0,0,0,0,0⟩
section
variable (pv:V→V→Bool)
def kindS (e:Ev) (s:List Ev):Int:=if !(getV e.content kThird).2 then 0 else
 let t:=thirdV e.content
 let x:=ofE s ⟨kThirdInv,t.1⟩
 if t.2.2 && (x.2 && (t.2.1 == e.key && (x.1.sender == e.sender && pv e.content x.1.content))) then 1 else 2
def factsL (e:Ev) (s:List Ev) (l:Lv):Fc:=
 let to:=membershipV e.content
 { to:=to,self:=e.key == e.sender,first:=to == kJoin && firstS e s,sender:=memberS s e.sender,target:=memberS s e.key,rule:=if (ofE s ⟨kJoins, []⟩).2 then ruleV (ofE s ⟨kJoins, []⟩).1.content else [],auth:=if (authV e.content).2 then memberS s (authV e.content).1 == kJoin && decide (userL l (authV e.content).1≥l.invite) else false,third:=if to == kInvite then kindS pv e s else 0,level:=userL l e.sender,tlevel:=userL l e.key,invite:=l.invite,kick:=l.kick,ban:=l.ban }
def factsS (e:Ev) (s:List Ev):Fc×Bool:=if !(levelsS s).2 || !(e.type == kMember) then (Fc.zero,false) else (factsL pv e s (levelsS s).1,true)
end
def joinF (f:Fc):Bool:=
 if f.first then true else if !f.self || f.target == kBanL then false else
 let asked:=f.target == kInvite || f.target == kJoin
 if f.rule == kPublic then true else if f.rule == kInvite || f.rule == kKnock then asked else if f.rule == kRestr || f.rule == kKnockR then asked || f.auth else false
def inviteF (f:Fc):Bool:=
 if f.third=1 then !(f.target == kBanL) else if f.third=2 then false else
 f.sender == kJoin && (!(f.target == kJoin) && (!(f.target == kBanL) && decide (f.level≥f.invite)))
def leaveF (f:Fc):Bool:=
 if f.self then f.target == kInvite || (f.target == kJoin || f.target == kKnock) else
 f.sender == kJoin && (decide (f.level≥f.kick) && (decide (f.level > f.tlevel) && (!(f.target == kBanL) || decide (f.level≥f.ban))))
def banF (f:Fc):Bool:=f.sender == kJoin && (decide (f.level≥f.ban) && decide (f.level > f.tlevel))
def knockF (f:Fc):Bool:=(f.rule == kKnock || f.rule == kKnockR) && (f.self && (!(f.target == kBanL) && (!(f.target == kInvite) && !(f.target == kJoin))))
def mayF (f:Fc):Bool:=
 if f.to == kJoin then joinF f else if f.to == kInvite then inviteF f else if f.to == kLeave then leaveF f else if f.to == kBanL then banF f else if f.to == kKnock then knockF f else false
section
variable (pv:V→V→Bool) (ch:V→V→Bs→Bool)
def memJ (e:Ev) (s:List Ev):Bool:=e.isState && ((partsB e.key 64).2.2 && ((factsS pv e s).2 && mayF (factsS pv e s).1))
def joinedJ (e:Ev) (s:List Ev):Bool:=memberS s e.sender == kJoin
def thirdJ (e:Ev) (s:List Ev) (l:Lv):Bool:=joinedJ e s && decide (userL l e.sender≥l.invite)
def plainJ (e:Ev) (s:List Ev) (l:Lv):Bool:=joinedJ e s && (decide (userL l e.sender≥eventL l e.type e.isState) && (!(e.key.headD 0 == 64) || e.key == e.sender))
def powerJ (e:Ev) (s:List Ev) (l:Lv):Bool:=(powerOf e.content).2 == 0 && (plainJ e s l && (!(ofE s ⟨kPower, []⟩).2 || ch (ofE s ⟨kPower, []⟩).1.content e.content e.sender))
def judgeJ (e:Ev) (s:List Ev) (l:Lv):Bool:=
 if e.type == kMember then memJ pv e s else if e.type == kThirdInv then thirdJ e s l else if e.type == kPower then powerJ ch e s l else plainJ e s l
def serverE (e:Ev):Bs:=if (partsB e.sender 64).2.2 then (partsB e.sender 64).2.1 else (partsB e.sender 33).2.1
def openJ (e c:Ev):Bool:=
 let x:=getV c.content kFed
 !x.2 || (!(x.1.kind == 1) || (!(x.1.n == 0) || serverE e == serverE c))
def isTen (x:V):Bool:=x.kind == 3 && (x.n == 0 && (x.s == [49,48] && (x.l.isEmpty && x.m.isEmpty)))
def createJ (e:Ev):Bool:=
 e.type == kCreate && (e.isState && (e.key == [] && (decide (e.prev.length+e.auth.length=0) &&
 ((partsB e.room 33).2.2 && ((partsB e.sender 64).2.2 && ((partsB e.room 33).2.1 == (partsB e.sender 64).2.1 && ((partsB (textAt e.content kCreator).1 64).2.2 &&
 (!(getV e.content kVersion).2 || isTen (getV e.content kVersion).1))))))))
def allowedS (e:Ev) (s:List Ev):Bool:=
 if e.type == kCreate then createJ e else
 if (ofE s ⟨kCreate, []⟩).2 && ((levelsS s).2 && ((ofE s ⟨kCreate, []⟩).1.room == e.room && openJ e (ofE s ⟨kCreate, []⟩).1)) then judgeJ pv ch e s (levelsS s).1 else false
end
end Go.Ab
namespace Go.Ab
set_option maxHeartbeats 1000000
def A2Fb:= @F456.eq_1
def A2Fc:=J @F469_17.eq_1 (@F469.eq_1)
def A2Ff:=J @F479_20.eq_1 (@F479.eq_1)
set_option maxRecDepth 100000
theorem r_seven:cR 471 []=some (.agg (seven.map .str)):=cR_closed 100 (by kernel_rfl)
theorem idx_lev {l:List Nlv} {j:Nat} {e:Nlv} {c:Option Nat} (h:l[j]? =some e):idxOf 2 none (.vsl (l.map levE) c) (.int .i64 (j:Int))=some (.vptr [.str e.1, .int .i64 e.2] 0):=idx_map (f:=levE) h rfl
def LLev:Lay Nlv where
 f:=levE
 sz:=2
 pos:=by decide
 len _:=rfl
 closed _:=rfl
 er _:=by simp only [levE,AV.er,erL]
 one _:=rfl
 agg _:=⟨_,rfl⟩
theorem closedL_lev (l:List Nlv):closedL (l.map levE)=true:=closedL_map fun a _=>LLev.closed a
theorem erL_lev (l:List Nlv):erL (l.map levE)=l.map levE:=LLev.erMap l
theorem r_first1 (name:Bs) (x:Nlv):callR ipU gU (.fn 478 [] [.vptr [.str name] 0]) [levE x]=some (.bool (x.1 == name)):=by
 refine callR_of (F:=F478) rfl (first:= []) (caps:= [.vptr [.str name] 0]) ?_
 simp only [F478,EXA,seval,levE]
theorem r_indexL (l:List Nlv) (f:AV) (p:Nlv→Bool) (hf:f.closed=true) (hfe:f.er=f) (hlen:l.length < big) (hp: ∀e∈l,callR ipU gU f [levE e]=some (.bool (p e))) :
  cR 479 [.vsl (l.map levE) none,f]=some (.int .i64 (firstFrom p l 0)):=by
 unfold big at hlen
 refine cR_of (F:=F479) rfl ?_
 simp only [F479,ex_loop,EXA,seval,VX]
 refine ex_while (S:=Nat) (fun j=> [(0, .vsl (l.map levE) none),(1,f),(7, .int .i64 l.length),(8, .int .i64 (j:Int))]) (fun _=> .empty) (fun j=>l.length - j) (fun j=>firstFrom p l j=firstFrom p l 0) ?_ 0 rfl
 intro b j hj ih
 by_cases hlt:j < l.length
 ·obtain ⟨v,hv⟩:=get_lt hlt
  have hidx:=idx_lev (c:=none) hv
  have hcall:=hp v (List.mem_of_getElem? hv)
  have hcond:=dlt hlt
  simp only [levE] at hcall
  simp only [A2Ff,EXA,seval,readAt_some,hcond,hidx,hf,hfe,hcall]
  split
  ·rename_i hpe
   rw [←hj,firstFrom_hit hv hpe]
  ·rename_i hpe
   refine ih (j+1) _ _ (by omega) ?_ ?_ rfl
   ·rw [←firstFrom_miss hv (by simpa using hpe)]; exact hj
   ·rw [wsucc hlt (by omega)]
    simp only [EXA,seval]
 ·have hcond:=dge (Nat.not_lt.1 hlt)
  simp only [A2Ff,EXA,seval,hcond]
  rw [←hj,firstFrom_end (by omega)]
theorem r_first (l:List Nlv) (name:Bs) (o:Int) (hlen:l.length < big):cR 456 [.vsl (l.map levE) none, .str name, .int .i64 o]=some (.int .i64 (firstL l name o)):=by
 have hi:=r_indexL l (.fn 478 [] [.vptr [.str name] 0]) (fun x=>x.1 == name) rfl (by simp only [AV.er,erL]) hlen (fun e _=>r_first1 name e)
 refine cR_of (F:=F456) rfl ?_
 unfold firstL
 rcases firstFrom_find (fun x:Nlv=>x.1 == name) l with ⟨h1,h2⟩ | ⟨i,e,h1,h2,h3,_⟩
 ·rw [h1] at hi
  have hd:decide ((-1:Int) < 0)=true:=rfl
  simp only [A2Fb,EXA,seval,closedL_lev,erL_lev,hi,h2]
 ·rw [h1] at hi
  have hidx:=idx_lev (c:=none) h2
  simp only [A2Fb,EXA,seval,closedL_lev,erL_lev,hi,decNeg,hidx,h3]
theorem lvE_closed (l:Lv):closedL (lvC l)=true:=by simp only [lvC,closedL,AV.closed,closedL_lev,Bool.and_self]
theorem lvE_er (l:Lv):erL (lvC l)=lvC l:=by simp only [lvC,erL,AV.er,erL_lev]
theorem r_userL (l:Lv) (u:Bs) (hlen:l.users.length < big):cR 438 [.agg (lvC l), .str u]=some (.int .i64 (userL l u)):=by
 have h:=r_first l.users u l.ud hlen
 refine cR_of (F:=F438) rfl ?_
 simp only [F438,EXA,seval,lvC,closedL_lev,erL_lev,h]
 rfl
theorem r_levels (v:V) (k:Bs) (hb:v.sz < lim):cR 469 [v.enc, .str k]=some (.vsl ((levelsV v k).map levE) none):=by
 unfold lim at hb
 have hg:=r_get v k (by unfold big; omega)
 have hz:=getV_sz v k
 refine cR_of (F:=F469) rfl ?_
 unfold levelsV
 generalize getV v k=g at hg hz ⊢
 have hm:=m_len_sz g.1
 simp only [F469,ex_loop,EXA,seval,VX,readAt_some,hg]
 refine ex_whileI (S:=Nat×List Nlv×AV) (fun p=> [(7,p.2.2),(18, .vsl (g.1.m.map memE) none),(19, .int .i64 g.1.m.length),(20, .int .i64 (p.1:Int))]) (fun p=>g.1.m.length - p.1)
  (fun p σ=>Gr LLev σ p.2.2 p.2.1∧p.2.1.length≤p.1∧p.2.1 ++((g.1.m.drop p.1).map fun m=>(m.1,m.2.n))=g.1.m.map fun m=>(m.1,m.2.n)) ?_ (0, [], .nils) _ ⟨Gr.nil LLev _,by simp,rfl⟩
 rintro b ⟨j,acc,w⟩ σ ⟨hg1,hlen,hj⟩ ih
 simp only at hg1 hlen hj ih ⊢
 by_cases hlt:j < g.1.m.length
 ·obtain ⟨x,hx⟩:=get_lt hlt
  have hidx:=idx_mem (c:=none) hx
  have hcond:=dlt hlt
  rw [drop_cons hx,List.map_cons] at hj
  have hw:=wsucc hlt (by omega)
  have hn:=hg1.newset
  have happ: ∀a b,appendTo _ 2 24 w [.str x.1, .int .i64 x.2.n] 1=some _:=fun a b=>(hn a b).push (a:=(x.1,x.2.n)) (bytes:=24) (by omega) (by unfold maxBytes; omega)
  have hlo:lenOf (.vsl [.agg [.str x.1, .int .i64 x.2.n]] (some 1))=some 1:=rfl
  have hro: ∀σ',rowOf σ' 2 (.vsl [.agg [.str x.1, .int .i64 x.2.n]] (some 1))=some [.str x.1, .int .i64 x.2.n]:=fun _=>rfl
  simp only [A2Fc,EXA,seval,VX,readAt_some,hcond,hidx,happ,hlo,hro,hw]
  exact ih (j+1,acc ++ [(x.1,x.2.n)],_) _ _ (by simp; omega) ⟨Gr.own ((hn _ _).next (by simp)),by simp; omega,by simpa using hj⟩ (by simp only [EXA,seval]; rfl)
 ·have hcond:=dge (Nat.not_lt.1 hlt)
  rw [List.drop_eq_nil_of_le (by omega)] at hj
  have hj2:acc=g.1.m.map fun m=>(m.1,m.2.n):=by simpa using hj
  have hrb:=hg1.rbE
  simp only [A2Fc,EXA,seval,hcond,hrb,hj2]
  rfl
end Go.Ab
namespace Go.Ab
set_option maxHeartbeats 1000000
def A3Fe:=J @F468_23.eq_1 (J @F468_50.eq_1 (J @F468_54.eq_1 (J @F468_55.eq_1 (J @F468_57.eq_1 (J @F468_58.eq_1 (@F468.eq_1))))))
def A3Ff:=J @F468_23.eq_1 (J @F468_50.eq_1 (J @F468_54.eq_1 (J @F468_55.eq_1 (J @F468_56.eq_1 (J @F468_57.eq_1 (@F468.eq_1))))))
set_option maxRecDepth 100000
theorem r_fineK (x:Mem):callR ipU gU (.fn 485 [] []) [memE x]=some (.bool (!(x.2.kind == 2))):=by
 refine callR_of (F:=F485) rfl (first:= []) (caps:= []) ?_
 have h:(x.2.kind != 2)= !(x.2.kind == 2):=rfl
 simp only [F485,EXA,seval,VX,h]
theorem r_fineU (x:Nlv) (hb:x.1.length < big):callR ipU gU (.fn 487 [] []) [levE x]=some (.bool (!(partsB x.1 64).2.2)):=by
 have h:=r_User x.1 hb
 refine callR_of (F:=F487) rfl (first:= []) (caps:= []) ?_
 simp only [F487,EXA,seval,levE,h]
theorem r_anyM (l:List Mem) (f:AV) (p:Mem→Bool) (hf:f.closed=true) (hfe:f.er=f) (hlen:l.length < big) (hp: ∀v∈l,callR ipU gU f [memE v]=some (.bool (p v))) :
  cR 215 [.vsl (l.map memE) none,f]=some (.bool (l.any p)):=by
 refine cR_of (F:=F215) rfl ?_
 simp only [F215,EXA,seval,VX,hf,hfe,r_indexM l f p hf hfe hlen hp,firstFrom_ge]
theorem r_anyL (l:List Nlv) (f:AV) (p:Nlv→Bool) (hf:f.closed=true) (hfe:f.er=f) (hlen:l.length < big) (hp: ∀v∈l,callR ipU gU f [levE v]=some (.bool (p v))) :
  cR 486 [.vsl (l.map levE) none,f]=some (.bool (l.any p)):=by
 refine cR_of (F:=F486) rfl ?_
 simp only [F486,EXA,seval,closedL_lev,erL_lev,hf,hfe,r_indexL l f p hf hfe hlen hp,firstFrom_ge]
theorem any_not {α:Type} (l:List α) (p:α→Bool):(l.any fun x=> !p x)= !l.all p:=by
 induction l with
 | nil=>rfl
 | cons a l ih=>simp only [List.any_cons,List.all_cons,ih,Bool.not_and]
theorem idxV_str {l:List Bs} {n j:Nat} {s:Bs} (h:l[j]? =some s) (hn:j < n):idxVOf 1 n none (.agg (l.map .str)) (.int .i64 (j:Int))=some (.str s):=by
 simp [idxVOf,hn,readAt,h]
theorem levelsV_len (v:V) (k:Bs):(levelsV v k).length≤v.sz:=by
 unfold levelsV
 have:=m_len_sz (getV v k).1
 have:=getV_sz v k
 simp; omega
theorem levelsV_mem {v:V} {k:Bs} {x:Nlv} (h:x∈levelsV v k):x.1.length≤v.sz:=by
 unfold levelsV at h
 rw [List.mem_map] at h
 obtain ⟨m,hm,rfl⟩:=h
 have:=szM_mem hm
 have:=(getV v k).1.sz_eq
 have:=getV_sz v k
 simp only; omega
abbrev valC (v:V):List AV:= [.int .i64 v.kind, .int .i64 v.n, .str v.s, .vsl (v.l.map V.enc) none, .vsl (v.m.map memE) none]
def three:List Bs:= [kUsers,kEvents,kNotif]
def mapsOk (v:V) (k:Bs):Bool:=isKind (getV v k) 5 && (!(getV v k).2 || (getV v k).1.m.all fun m=>m.2.kind == 2)
theorem fine_end {v:V} {σ:Store} (hb:v.sz < lim):Ex ipU gU [.code F468_56] [(1, .vptr (valC v) 0)] σ fun fr' σ1=>(resAll fr' σ1 F468.res).bind (rbE σ1)=some (.bool ((levelsV v kUsers).all fun l=>(partsB l.1 64).2.2)):=by
 have h1:=r_levels v kUsers hb
 unfold lim at hb
 have h2:=r_anyL (levelsV v kUsers) (.fn 487 [] []) (fun l=> !(partsB l.1 64).2.2) rfl (by simp only [AV.er,erL]) (by have:=levelsV_len v kUsers; unfold big; omega)
  (fun x hx=>r_fineU x (by have:=levelsV_mem hx; unfold big; omega))
 rw [any_not] at h2
 simp only [F468_23,F468_50,F468_54,F468_55,F468_56,F468_57,F468_58,F468,EXA,seval,VX,readAt_some,h1,closedL_lev,erL_lev,h2,Bool.not_not]
theorem fine_maps {v:V} {σ:Store} {r:Bool} (hb:v.sz < lim) (hr:r=(three.all (mapsOk v) && (levelsV v kUsers).all fun l=>(partsB l.1 64).2.2)) :
  Ex ipU gU [.code F468_58] [(1, .vptr (valC v) 0)] σ fun fr' σ1=>(resAll fr' σ1 F468.res).bind (rbE σ1)=some (.bool r):=by
 have hb2:v.sz < big:=by unfold lim at hb; unfold big; omega
 have he:= @fine_end v
 simp only [F468_23,F468_54,F468_57,F468_58,F468,ex_loop,EXA,seval]
 refine ex_whileI (S:=Nat) (fun j=> [(1, .vptr (valC v) 0),(29, .agg (three.map .str)),(30, .int .i64 (j:Int))]) (fun j=>3 - j)
  (fun j σ=>j≤3∧r=((three.drop j).all (mapsOk v) && (levelsV v kUsers).all fun l=>(partsB l.1 64).2.2)) ?_ 0 _ ⟨Nat.zero_le _,hr⟩
 rintro b j σ ⟨hj,hr⟩ ih
 by_cases hlt:j < 3
 ·obtain ⟨k,hk⟩ : ∃k,three[j]? =some k:=get_lt (l:=three) hlt
  have hidx:=idxV_str hk hlt
  have hcond:decide ((j:Int) < 3)=true:=by simp; omega
  have hw:IntKind.wrap .i64 ((j:Int)+1)=((j+1:Nat):Int):=wsucc (n:=3) hlt (by omega)
  rw [drop_cons hk,List.all_cons] at hr
  have hg:=r_get v k hb2
  have hz:=getV_sz v k
  have hm:=r_anyM (getV v k).1.m (.fn 485 [] []) (fun x=> !(x.2.kind == 2)) rfl (by simp only [AV.er,erL]) (by have:=m_len_sz (getV v k).1; omega) (fun x _=>r_fineK x)
  rw [any_not] at hm
  unfold mapsOk isKind at hr
  generalize getV v k=g at hg hz hm hr
  obtain ⟨x,t⟩:=g
  simp only at hg hm hr
  have h5:(x.kind != 5)= !(x.kind == 5):=rfl
  cases t with
  | false=>
   simp only [Bool.not_false,Bool.true_or,Bool.true_and] at hr
   simp only [A3Fe,EXA,seval,VX,readAt_some,hidx,hcond,hw,hg]
   exact ih (j+1) _ _ (by omega) ⟨by omega,hr⟩ (by simp only [EXA,seval])
  | true=>
  cases hk5:x.kind == 5 with
  | false=>
   rw [hk5] at h5
   simp only [hk5,Bool.not_true,Bool.false_or,Bool.false_and] at hr
   simp only [A3Fe,EXA,seval,VX,readAt_some,hidx,hcond,hg,h5,hr]
  | true=>
  rw [hk5] at h5
  cases ha:x.m.all fun m=>m.2.kind == 2 with
  | false=>
   rw [ha] at hm
   simp only [hk5,ha,Bool.not_true,Bool.false_or,Bool.true_and,Bool.false_and] at hr
   simp only [A3Fe,EXA,seval,VX,readAt_some,hidx,hcond,hg,h5,hm,hr]
  | true=>
   rw [ha] at hm
   simp only [hk5,ha,Bool.not_true,Bool.false_or,Bool.true_and] at hr
   simp only [A3Fe,EXA,seval,VX,readAt_some,hidx,hcond,hw,hg,h5,hm]
   exact ih (j+1) _ _ (by omega) ⟨by omega,hr⟩ (by simp only [EXA,seval])
 ·have hcond:decide ((j:Int) < 3)=false:=by simp; omega
  have e:three.drop j= []:=List.drop_eq_nil_of_le (by simp [three]; omega)
  rw [e,List.all_nil,Bool.true_and] at hr
  simp only [A3Fe,EXA,seval,hcond]
  rw [hr]
  exact he hb
theorem fineP_eq (v:V):fineP v=(seven.all (fun k=>isKind (getV v k) 2) && (three.all (mapsOk v) && (levelsV v kUsers).all fun l=>(partsB l.1 64).2.2)):=rfl
theorem r_fineP (v:V) (hb:v.sz < lim):cR 468 [v.enc]=some (.bool (fineP v)):=by
 have hb2:v.sz < big:=by unfold lim at hb; unfold big; omega
 have h7:=r_seven
 obtain ⟨r,hr⟩ : ∃r,r=fineP v:=⟨_,rfl⟩
 rw [←hr]
 rw [fineP_eq] at hr
 have he:= @fine_maps v
 refine cR_of (F:=F468) rfl ?_
 simp only [F468,ex_loop,EXA,seval,VX,h7]
 refine ex_whileI (S:=Nat) (fun j=> [(1, .vptr (valC v) 0),(11, .agg (seven.map .str)),(12, .int .i64 (j:Int))]) (fun j=>7 - j)
  (fun j σ=>j≤7∧r=((seven.drop j).all (fun k=>isKind (getV v k) 2) && (three.all (mapsOk v) && (levelsV v kUsers).all fun l=>(partsB l.1 64).2.2))) ?_ 0 _ ⟨Nat.zero_le _,hr⟩
 rintro b j σ ⟨hj,hr⟩ ih
 by_cases hlt:j < 7
 ·obtain ⟨k,hk⟩ : ∃k,seven[j]? =some k:=get_lt (l:=seven) hlt
  have hidx:=idxV_str hk hlt
  have hcond:decide ((j:Int) < 7)=true:=by simp; omega
  have hw:IntKind.wrap .i64 ((j:Int)+1)=((j+1:Nat):Int):=wsucc (n:=7) hlt (by omega)
  rw [drop_cons hk,List.all_cons] at hr
  have hg:=r_get v k hb2
  unfold isKind at hr
  generalize getV v k=g at hg hr
  obtain ⟨x,t⟩:=g
  simp only at hg hr
  have h5:(x.kind != 2)= !(x.kind == 2):=rfl
  cases t with
  | false=>
   simp only [Bool.not_false,Bool.true_or,Bool.true_and] at hr
   simp only [A3Ff,EXA,seval,VX,readAt_some,hidx,hcond,hw,hg]
   exact ih (j+1) _ _ (by omega) ⟨by omega,hr⟩ (by simp only [EXA,seval])
  | true=>
  cases hk5:x.kind == 2 with
  | false=>
   rw [hk5] at h5
   simp only [hk5,Bool.not_true,Bool.false_or,Bool.false_and] at hr
   simp only [A3Ff,EXA,seval,VX,readAt_some,hidx,hcond,hg,h5,hr]
  | true=>
   rw [hk5] at h5
   simp only [hk5,Bool.not_true,Bool.false_or,Bool.true_and] at hr
   simp only [A3Ff,EXA,seval,VX,readAt_some,hidx,hcond,hw,hg,h5]
   exact ih (j+1) _ _ (by omega) ⟨by omega,hr⟩ (by simp only [EXA,seval])
 ·have hcond:decide ((j:Int) < 7)=false:=by simp; omega
  have e:seven.drop j= []:=List.drop_eq_nil_of_le (by simp [seven]; omega)
  rw [e,List.all_nil,Bool.true_and] at hr
  simp only [A3Ff,EXA,seval,hcond]
  exact he hb hr
end Go.Ab
namespace Go.Ab
set_option maxHeartbeats 1000000
def A4Fa:=J @F446_19.eq_1 (J @F446_38.eq_1 (J @F446_39.eq_1 (J @F446_45.eq_1 (J @F446_46.eq_1 (@F446.eq_1)))))
def A4Fb:=J @F446_19.eq_1 (J @F446_38.eq_1 (J @F446_45.eq_1 (@F446.eq_1)))
set_option maxRecDepth 100000
theorem r_numP (v:V) (k:Bs) (hb:v.sz < big):cR 470 [v.enc, .str k]=some (.tup [.int .i64 (intV (getV v k)).1, .bool (intV (getV v k)).2]):=by
 have h:=r_intAt v k hb
 refine cR_of (F:=F470) rfl ?_
 simp only [F470,EXA,seval,VX,readAt_some,h]
theorem c_number (v:V) (k:Bs) (hb:v.sz < big):callR ipU gU (.fn 470 [v.enc] []) [.str k]=some (.tup [.int .i64 (intV (getV v k)).1, .bool (intV (getV v k)).2]):=by
 rw [callR_first]; exact r_numP v k hb
def nm (c:V) (j i:Nat) (k:Bs) (d:Int):AV:= .int .i64 (if i < j then intOr c k d else d)
def nmC (c:V) (j:Nat):List AV:= [.vsl ((levelsV c kUsers).map levE) none, .vsl ((levelsV c kEvents).map levE) none,nm c j 0 kUD 0,nm c j 1 kED 0,nm c j 2 kSD 50,nm c j 3 kBanL 50,nm c j 4 kKick 50,nm c j 5 kRedact 50,nm c j 6 kInvite 0]
def ptr7:List AV:= [.ptr 2 2, .ptr 2 3, .ptr 2 4, .ptr 2 5, .ptr 2 6, .ptr 2 7, .ptr 2 8]
def zer9:List AV:= [.nils, .nils, .int .i64 0, .int .i64 0, .int .i64 0, .int .i64 0, .int .i64 0, .int .i64 0, .int .i64 0]
theorem nmC_set {c:V} {j:Nat} {k:Bs} (hj:j < 7) (hk:seven[j]? =some k) (hi:(intV (getV c k)).2=true) :
  splice (nmC c j) (j+2) [.int .i64 (intV (getV c k)).1]=nmC c (j+1):=by
 have e: ∀d,intOr c k d=(intV (getV c k)).1:=fun d=>by unfold intOr; rw [if_pos hi]
 have hc:j=0∨j=1∨j=2∨j=3∨j=4∨j=5∨j=6:=by omega
 rcases hc with rfl | rfl | rfl | rfl | rfl | rfl | rfl <;>
  (simp only [seven,List.getElem?_cons_zero,List.getElem?_cons_succ,Option.some.injEq] at hk; subst hk; simp only [splice,nmC,nm,List.take,List.drop,List.length_cons,List.length_nil,List.cons_append,List.nil_append,e]; rfl)
theorem nmC_keep {c:V} {j:Nat} {k:Bs} (hj:j < 7) (hk:seven[j]? =some k) (hi:(intV (getV c k)).2=false):nmC c j=nmC c (j+1):=by
 have e: ∀d,intOr c k d=d:=fun d=>by unfold intOr; rw [if_neg (by simp [hi])]
 have hc:j=0∨j=1∨j=2∨j=3∨j=4∨j=5∨j=6:=by omega
 rcases hc with rfl | rfl | rfl | rfl | rfl | rfl | rfl <;>
  (simp only [seven,List.getElem?_cons_zero,List.getElem?_cons_succ,Option.some.injEq] at hk; subst hk; simp only [nmC,nm,e]; rfl)
theorem ptr7_at {j:Nat} (hj:j < 7):ptr7[j]? =some (.ptr 2 (j+2)):=by
 have hc:j=0∨j=1∨j=2∨j=3∨j=4∨j=5∨j=6:=by omega
 rcases hc with rfl | rfl | rfl | rfl | rfl | rfl | rfl <;> rfl
theorem nmC_len (c:V) (j:Nat):(nmC c j).length=9:=rfl
theorem of_loop {c:V} (hb:c.sz < lim) {σ:Store} (h2:look σ.m 2=some (.own (nmC c 0))) (h3:look σ.m 3=some (.own ptr7)) (h0:look σ.m 0=some (.own zer9)) :
  Ex ipU gU [.code F446_39, .inLoop [2,5,6,7,44,45] F446_39, .inBlock 1, .code F446_46] [(2, .ptr 0 0),(5, .ptr 2 0),(6, .ptr 3 0),(7, .fn 470 [c.enc] []),(44, .agg (seven.map .str)),(45, .int .i64 0)] σ
   fun fr' σ1=>(resAll fr' σ1 F446.res).bind (rbE σ1)=some (.tup [.agg (nmC c 7), .int .i64 0]):=by
 have hb2:c.sz < big:=by unfold lim at hb; unfold big; omega
 refine ex_whileI (S:=Nat) (fun j=> [(2, .ptr 0 0),(5, .ptr 2 0),(6, .ptr 3 0),(7, .fn 470 [c.enc] []),(44, .agg (seven.map .str)),(45, .int .i64 (j:Int))]) (fun j=>7 - j)
  (fun j σ=>j≤7∧look σ.m 2=some (.own (nmC c j))∧look σ.m 3=some (.own ptr7)∧look σ.m 0=some (.own zer9)) ?_ 0 _ ⟨Nat.zero_le _,h2,h3,h0⟩
 rintro b j σ ⟨hj,h2,h3,h0⟩ ih
 by_cases hlt:j < 7
 ·obtain ⟨k,hk⟩ : ∃k,seven[j]? =some k:=get_lt (l:=seven) hlt
  have hidx:=idxV_str hk hlt
  have hcond:decide ((j:Int) < 7)=true:=by simp; omega
  have hw:IntKind.wrap .i64 ((j:Int)+1)=((j+1:Nat):Int):=wsucc (n:=7) hlt (by omega)
  have hnum:=c_number c k hb2
  have hix:idxOf 1 (some 7) (.ptr 3 0) (.int .i64 (j:Int))=some (.ptr 3 j):=by simp [idxOf]; omega
  have hat:=ptr7_at hlt
  have hset:= @nmC_set c j k hlt hk
  have hkeep:= @nmC_keep c j k hlt hk
  generalize intV (getV c k)=q at hnum hset hkeep
  obtain ⟨n,t⟩:=q
  have hlen:=nmC_len c j
  cases t with
  | false=>
   have e:=hkeep rfl
   simp only [A4Fa,EXA,seval,VX,hidx,hcond,hw,hnum]
   exact ih (j+1) _ _ (by omega) ⟨by omega,by rw [←e]; exact h2,h3,h0⟩ (by simp only [EXA,seval])
  | true=>
   have e:=hset rfl
   have hle:(j+2+1≤9)=True:=by simp; omega
   simp only [A4Fa,EXA,seval,VX,nilcOf,hidx,hcond,hw,hnum,hix,h2,h3,hat,hlen,hle]
   exact ih (j+1) _ _ (by omega) ⟨by omega,by rw [←e]; simp [look,splice],by simpa [look] using h3,by simpa [look] using h0⟩ (by simp only [EXA,seval])
 ·have hcond:decide ((j:Int) < 7)=false:=by simp; omega
  obtain rfl:j=7:=by omega
  unfold nmC nm at h2 ⊢
  unfold zer9 at h0
  simp only [A4Fa,EXA,seval,readAt_some,h2,h0,closedL_lev,erL_lev]
theorem r_powerOf (c:V) (hb:c.sz < lim):cR 446 [c.enc]=some (.tup [.agg (lvC (powerOf c).1), .int .i64 (powerOf c).2]):=by
 have hb2:c.sz < big:=by unfold lim at hb; unfold big; omega
 have hg:=r_good c hb2
 have hf:=r_fineP c hb
 have hu:=r_levels c kUsers hb
 have hv:=r_levels c kEvents hb
 have h7:=r_seven
 have hk5:(c.kind != 5)= !(c.kind == 5):=rfl
 refine cR_of (F:=F446) rfl ?_
 unfold powerOf
 cases hg1:c.good with
 | false=>
  rw [hg1] at hg
  simp only [A4Fb,EXA,seval,VX,readAt_some,hg,Bool.false_and]
  rfl
 | true=>
 rw [hg1] at hg
 cases hk1:c.kind == 5 with
 | false=>
  rw [hk1] at hk5
  simp only [A4Fb,EXA,seval,VX,readAt_some,hg,hk5,Bool.and_false]
  rfl
 | true=>
 rw [hk1] at hk5
 cases hf1:fineP c with
 | false=>
  rw [hf1] at hf
  simp only [A4Fb,EXA,seval,VX,readAt_some,hg,hk5,hf]
  rfl
 | true=>
  rw [hf1] at hf
  simp only [A4Fb,ex_loop,EXA,seval,VX,readAt_some,hg,hk5,hf,hu,hv,h7]
  exact of_loop hb rfl rfl rfl
end Go.Ab
namespace Go.Ab
set_option maxHeartbeats 1000000
def A5Fa:= @F425.eq_1
def A5Fb:= @F427.eq_1
def A5Fc:= @F439.eq_1
def A5Fd:=J @F440_26.eq_1 (@F440.eq_1)
set_option maxRecDepth 100000
def okSt (s:List Ev):Prop:=s.length < big∧∀x∈s,(x.prev.length < lim∧x.auth.length < lim)∧x.content.sz < lim
theorem r_noneL (u:Bs):cR 448 [.str u]=some (.agg (lvC (noneL u))):=by
 refine cR_of (F:=F448) rfl ?_
 simp only [F448,EXA,seval,readAt_some]
 rfl
theorem r_kind0 {pv:V→V→Bool} {s:List Ev} (e:Ev) (he:e.content.sz < big) (hk:(getV e.content kThird).2=false):cR 440 [evE e, .vsl (s.map evE) none]=some (.int .i64 (kindS pv e s)):=by
 have h1:=r_get e.content kThird he
 refine cR_of (F:=F440) rfl ?_
 unfold kindS
 generalize getV e.content kThird=g at h1 hk ⊢
 obtain ⟨x,t⟩:=g
 simp only at hk
 subst hk
 simp only [A5Fd,EXA,seval,VX,readAt_some,h1]
section
variable {s:List Ev} (h:okSt s)
include h
theorem okSt.of (t:Slt):cR 3 [.vsl (s.map evE) none,sltE t]=some (.tup [evE (ofE s t).1, .bool (ofE s t).2]):=r_Of s t h.1 (fun e he=>(h.2 e he).1)
theorem okSt.sz (t:Slt):(ofE s t).1.content.sz < lim:=by
 cases hf:s.find? (isAt t) with
 | none=>rw [ofE_none hf]; decide
 | some x=>rw [ofE_some hf]; exact (h.2 x (List.mem_of_find?_eq_some hf)).2
theorem okSt.szb (t:Slt):(ofE s t).1.content.sz < big:=by have:=h.sz t; unfold lim at this; unfold big; omega
theorem r_creatorS:cR 447 [.vsl (s.map evE) none]=some (.tup [.str (creatorS s).1, .bool (creatorS s).2]):=by
 have h1:=h.of ⟨kCreate, []⟩
 have h2:=r_textAt (ofE s ⟨kCreate, []⟩).1.content kCreator (h.szb _)
 refine cR_of (F:=F447) rfl ?_
 unfold creatorS
 generalize ofE s ⟨kCreate, []⟩=p at h1 h2 ⊢
 simp only [F447,EXA,seval,VX,readAt_some,h1,h2]
theorem r_memberS (u:Bs):cR 425 [.vsl (s.map evE) none, .str u]=some (.str (memberS s u)):=by
 have h1:=h.of ⟨kMember,u⟩
 have h2:=r_membership (ofE s ⟨kMember,u⟩).1.content (h.szb _)
 refine cR_of (F:=F425) rfl ?_
 unfold memberS
 generalize ofE s ⟨kMember,u⟩=p at h1 h2 ⊢
 obtain ⟨x,t⟩:=p
 cases t with
 | false=>simp only [A5Fa,EXA,seval,VX,h1]
 | true=>simp only [A5Fa,EXA,seval,VX,readAt_some,h1,h2]
theorem r_levelsS:cR 427 [.vsl (s.map evE) none]=some (.tup [.agg (lvC (levelsS s).1), .bool (levelsS s).2]):=by
 have h1:=h.of ⟨kPower, []⟩
 have h2:=r_powerOf (ofE s ⟨kPower, []⟩).1.content (h.sz _)
 have h3:=r_creatorS h
 refine cR_of (F:=F427) rfl ?_
 unfold levelsS
 generalize ofE s ⟨kPower, []⟩=p at h1 h2 ⊢
 obtain ⟨x,t⟩:=p
 cases t with
 | true=>
  simp only at h2 ⊢
  generalize powerOf x.content=q at h2 ⊢
  obtain ⟨l,er⟩:=q
  have hl:=lvE_closed l
  have hl2:=lvE_er l
  unfold lvC at h2 hl hl2 ⊢
  simp only [A5Fb,EXA,seval,VX,readAt_some,h1,h2,hl,hl2]
 | false=>
  generalize creatorS s=c at h3 ⊢
  obtain ⟨u,k⟩:=c
  have h4:=r_noneL u
  cases k with
  | false=>
   simp only [A5Fb,EXA,seval,VX,readAt_some,h1,h3]
   rfl
  | true=>
   simp only [A5Fb,EXA,seval,VX,readAt_some,h1,h3,h4,lvC,noneL]
   rfl
theorem r_firstS (e:Ev):cR 439 [evE e, .vsl (s.map evE) none]=some (.bool (firstS e s)):=by
 have h1:=h.of ⟨kCreate, []⟩
 have h3:=r_creatorS h
 refine cR_of (F:=F439) rfl ?_
 unfold firstS
 generalize ofE s ⟨kCreate, []⟩=p at h1 ⊢
 generalize creatorS s=c at h3 ⊢
 obtain ⟨x,t⟩:=p
 obtain ⟨u,k⟩:=c
 cases t with
 | false=>simp only [A5Fc,EXA,seval,VX,h1,h3,Bool.false_and]
 | true=>
 cases k with
 | false=>simp only [A5Fc,EXA,seval,VX,h1,h3,Bool.false_and,Bool.and_false]
 | true=>
 by_cases hl:e.prev.length=1
 ·obtain ⟨z,hz⟩:=List.length_eq_one_iff.1 hl
  have hl2:(((e.prev.length:Nat):Int) == 1)=true:=by rw [hl]; rfl
  have hd:decide (e.prev.length=1)=true:=decide_eq_true hl
  have hix:idxOf 1 none (.vsl (e.prev.map .str) none) (.int .i64 0)=some (.vptr [.str z] 0):=by rw [hz]; rfl
  have hh:e.prev.headD []=z:=by rw [hz]; rfl
  cases hid:z == x.id with
  | false=>simp only [A5Fc,EXA,seval,VX,h1,h3,hl2,hd,hix,hh,hid,Bool.false_and,Bool.and_false]
  | true=>simp only [A5Fc,EXA,seval,VX,h1,h3,hl2,hd,hix,hh,hid]
 ·have hl2:(((e.prev.length:Nat):Int) == 1)=false:=by simp; omega
  have hd:decide (e.prev.length=1)=false:=decide_eq_false hl
  simp only [A5Fc,EXA,seval,VX,h1,h3,hl2,hd,Bool.false_and,Bool.and_false]
end
end Go.Ab
namespace Go.Ab
set_option maxHeartbeats 1000000
def A6Fa:=J @F418_11.eq_1 (J @F418_19.eq_1 (J @F418_27.eq_1 (J @F418_32.eq_1 (J @F418_35.eq_1 (J @F418_36.eq_1 (J @F418_37.eq_1 (J @F418_38.eq_1 (J @F418_39.eq_1 (J @F418_40.eq_1 (J @F418_41.eq_1 (J @F418_42.eq_1 (@F418.eq_1))))))))))))
def A6Fb:=J @F418_11.eq_1 (J @F418_19.eq_1 (J @F418_27.eq_1 (J @F418_32.eq_1 (J @F418_35.eq_1 (J @F418_37.eq_1 (J @F418_38.eq_1 (J @F418_39.eq_1 (J @F418_40.eq_1 (J @F418_41.eq_1 (J @F418_42.eq_1 (@F418.eq_1)))))))))))
def A6Fc:=J @F418_11.eq_1 (J @F418_19.eq_1 (J @F418_27.eq_1 (J @F418_32.eq_1 (J @F418_35.eq_1 (J @F418_36.eq_1 (J @F418_37.eq_1 (J @F418_39.eq_1 (J @F418_40.eq_1 (J @F418_41.eq_1 (J @F418_42.eq_1 (@F418.eq_1)))))))))))
def A6Fd:=J @F418_11.eq_1 (J @F418_19.eq_1 (J @F418_27.eq_1 (J @F418_32.eq_1 (J @F418_35.eq_1 (J @F418_36.eq_1 (J @F418_37.eq_1 (J @F418_38.eq_1 (J @F418_39.eq_1 (J @F418_41.eq_1 (J @F418_42.eq_1 (@F418.eq_1)))))))))))
def A6Fe:=J @F418_11.eq_1 (J @F418_19.eq_1 (J @F418_27.eq_1 (J @F418_32.eq_1 (J @F418_35.eq_1 (J @F418_36.eq_1 (J @F418_37.eq_1 (J @F418_38.eq_1 (J @F418_39.eq_1 (J @F418_40.eq_1 (J @F418_41.eq_1 (@F418.eq_1)))))))))))
set_option maxRecDepth 100000
def zer13:List AV:= [.str [], .bool false, .bool false, .str [], .str [], .str [], .bool false, .int .i64 0, .int .i64 0, .int .i64 0, .int .i64 0, .int .i64 0, .int .i64 0]
abbrev QF (f:Fc):Fr→Store→Prop:=fun fr' σ1=>(resAll fr' σ1 F418.res).bind (rbE σ1)=some (.tup [.agg (fcC f), .bool true])
section
variable {s:List Ev} {e:Ev} {f:Fc} {σ:Store} {kd:Int} {l:Lv}
theorem ft5 (hK:(f.to == kInvite)=true→cR 440 [evE e, .vsl (s.map evE) none]=some (.int .i64 kd)) (h2:look σ.m 2=some (.own (fcC f))) (h0:look σ.m 0=some (.own zer13)) :
  Ex ipU gU [.code F418_36] [(1, .vsl (s.map evE) none),(2, .vptr (evE e).cells 0),(4, .ptr 0 0),(8, .ptr 2 0)] σ (QF (if f.to == kInvite then { f with third:=kd } else f)):=by
 unfold fcC at h2
 unfold zer13 at h0
 unfold QF fcC
 cases ht:f.to == kInvite with
 | false=>simp only [A6Fa,EXA,seval,VX,readAt_some,V.eta,h2,h0,ht]
 | true=>
  have hk:=hK ht
  simp only [A6Fa,EXA,seval,VX,readAt_some,V.eta,h2,h0,ht,hk]
theorem ft4 (h:okSt s) (he:e.content.sz < big) (hu:l.users.length < big) (hK:(f.to == kInvite)=true→cR 440 [evE e, .vsl (s.map evE) none]=some (.int .i64 kd))
  (h2:look σ.m 2=some (.own (fcC { f with auth:=false }))) (h1:look σ.m 1=some (.frz (lvC l))) (h0:look σ.m 0=some (.own zer13))
  (ha:f.auth=if (authV e.content).2 then memberS s (authV e.content).1 == kJoin && decide (userL l (authV e.content).1≥l.invite) else false) :
  Ex ipU gU [.code F418_38] [(1, .vsl (s.map evE) none),(2, .vptr (evE e).cells 0),(4, .ptr 0 0),(6, .ptr 1 0),(8, .ptr 2 0)] σ (QF (if f.to == kInvite then { f with third:=kd } else f)):=by
 have hr:=r_auth e.content he
 have hm:=r_memberS h (authV e.content).1
 have hL:=r_userL l (authV e.content).1 hu
 generalize authV e.content=a at hr ha hm hL
 obtain ⟨u,t⟩:=a
 obtain ⟨to,self,first,sender,target,rule,auth,third,level,tlevel,invite,kick,ban⟩:=f
 simp only at hr ha hm hL h2 hK ⊢
 have hlc:=lvE_closed l
 have hle:=lvE_er l
 simp only [fcC] at h2
 unfold lvC at h1 hL hlc hle
 cases t with
 | false=>
  simp only [Bool.false_eq_true,if_false] at ha
  subst ha
  simp only [A6Fb,EXF,EXA,seval,VX,readAt_some,V.eta,h1,h2,hr]
  exact ft5 (f:=⟨to,self,first,sender,target,rule,_,third,level,tlevel,invite,kick,ban⟩) hK h2 h0
 | true=>
 simp only [if_true] at ha
 generalize userL l u=n at hL ha
 generalize memberS s u=ms at hm ha
 cases hj:ms == kJoin with
 | false=>
  simp only [hj,Bool.false_and] at ha
  subst ha
  simp only [A6Fb,EXF,EXA,seval,VX,readAt_some,V.eta,h1,h2,hr,hm,hj]
  refine ft5 (f:=⟨to,self,first,sender,target,rule,_,third,level,tlevel,invite,kick,ban⟩) hK ?_ ?_
  ·rfl
  ·simpa [look] using h0
 | true=>
  simp only [hj,Bool.true_and] at ha
  subst ha
  simp only [A6Fb,EXF,EXA,seval,VX,readAt_some,V.eta,h1,h2,hr,hm,hj,hL,hlc,hle]
  refine ft5 (f:=⟨to,self,first,sender,target,rule,_,third,level,tlevel,invite,kick,ban⟩) hK ?_ ?_
  ·rfl
  ·simpa [look] using h0
theorem ft3 (h:okSt s) (he:e.content.sz < big) (hu:l.users.length < big) (hK:(f.to == kInvite)=true→cR 440 [evE e, .vsl (s.map evE) none]=some (.int .i64 kd))
  (hn:σ.next=3) (h2:look σ.m 2=some (.own (fcC { f with auth:=false,rule:= [] }))) (h1:look σ.m 1=some (.frz (lvC l))) (h0:look σ.m 0=some (.own zer13))
  (ha:f.auth=if (authV e.content).2 then memberS s (authV e.content).1 == kJoin && decide (userL l (authV e.content).1≥l.invite) else false)
  (hru:f.rule=if (ofE s ⟨kJoins, []⟩).2 then ruleV (ofE s ⟨kJoins, []⟩).1.content else []) :
  Ex ipU gU [.code F418_40] [(1, .vsl (s.map evE) none),(2, .vptr (evE e).cells 0),(4, .ptr 0 0),(6, .ptr 1 0),(8, .ptr 2 0)] σ (QF (if f.to == kInvite then { f with third:=kd } else f)):=by
 have hj:=h.of ⟨kJoins, []⟩
 have hr:=r_rule (ofE s ⟨kJoins, []⟩).1.content (h.szb _)
 generalize ofE s ⟨kJoins, []⟩=p at hj hr hru
 obtain ⟨x,t⟩:=p
 obtain ⟨to,self,first,sender,target,rule,auth,third,level,tlevel,invite,kick,ban⟩:=f
 simp only at hr hru ha h2 hK ⊢
 have h2':=h2
 simp only [fcC] at h2
 cases t with
 | false=>
  simp only [Bool.false_eq_true,if_false] at hru
  subst hru
  simp only [A6Fc,EXA,seval,VX,readAt_some,V.eta,hj,hr,hn,h2]
  refine ft4 (f:=⟨to,self,first,sender,target,_,auth,third,level,tlevel,invite,kick,ban⟩) h he hu hK ?_ ?_ ?_ ha
  ·simpa [look] using h2'
  ·simpa [look] using h1
  ·simpa [look] using h0
 | true=>
  simp only [if_true] at hru
  subst hru
  simp only [A6Fc,EXA,seval,VX,readAt_some,V.eta,hj,hr,hn,h2]
  refine ft4 (f:=⟨to,self,first,sender,target,_,auth,third,level,tlevel,invite,kick,ban⟩) h he hu hK ?_ ?_ ?_ ha
  ·rfl
  ·simpa [look] using h1
  ·simpa [look] using h0
theorem ft2 (h:okSt s) (he:e.content.sz < big) (hu:l.users.length < big) (hK:(f.to == kInvite)=true→cR 440 [evE e, .vsl (s.map evE) none]=some (.int .i64 kd))
  (hn:σ.next=3) (h2:look σ.m 2=some (.own (fcC { f with auth:=false,rule:= [],first:=false }))) (h1:look σ.m 1=some (.frz (lvC l))) (h0:look σ.m 0=some (.own zer13))
  (ha:f.auth=if (authV e.content).2 then memberS s (authV e.content).1 == kJoin && decide (userL l (authV e.content).1≥l.invite) else false)
  (hru:f.rule=if (ofE s ⟨kJoins, []⟩).2 then ruleV (ofE s ⟨kJoins, []⟩).1.content else []) (hf:f.first=(f.to == kJoin && firstS e s)) :
  Ex ipU gU [.code F418_42] [(1, .vsl (s.map evE) none),(2, .vptr (evE e).cells 0),(4, .ptr 0 0),(6, .ptr 1 0),(8, .ptr 2 0)] σ (QF (if f.to == kInvite then { f with third:=kd } else f)):=by
 have hr:=r_firstS h e
 obtain ⟨to,self,first,sender,target,rule,auth,third,level,tlevel,invite,kick,ban⟩:=f
 simp only at hru ha hf h2 hK ⊢
 simp only [fcC] at h2
 cases ht:to == kJoin with
 | false=>
  rw [ht,Bool.false_and] at hf
  subst hf
  simp only [A6Fd,EXA,seval,VX,readAt_some,V.eta,ht,h2]
  refine ft3 (f:=⟨to,self,_,sender,target,rule,auth,third,level,tlevel,invite,kick,ban⟩) h he hu hK hn ?_ ?_ ?_ ha hru
  ·rfl
  ·simpa [look] using h1
  ·simpa [look] using h0
 | true=>
  rw [ht,Bool.true_and] at hf
  subst hf
  simp only [A6Fd,EXA,seval,VX,readAt_some,V.eta,ht,h2,hr]
  refine ft3 (f:=⟨to,self,_,sender,target,rule,auth,third,level,tlevel,invite,kick,ban⟩) h he hu hK hn ?_ ?_ ?_ ha hru
  ·rfl
  ·simpa [look] using h1
  ·simpa [look] using h0
end
theorem levelsS_len {s:List Ev} (h:okSt s):(levelsS s).1.users.length < big∧(levelsS s).1.events.length < big:=by
 have hz:=h.szb ⟨kPower, []⟩
 unfold levelsS
 split
 ·unfold powerOf
  split
  ·exact ⟨by decide,by decide⟩
  ·split
   ·exact ⟨by decide,by decide⟩
   ·have h1:=levelsV_len (ofE s ⟨kPower, []⟩).1.content kUsers
    have h2:=levelsV_len (ofE s ⟨kPower, []⟩).1.content kEvents
    exact ⟨by simp only; omega,by simp only; omega⟩
 ·split
  ·exact ⟨by simp only [noneL,List.length_cons,List.length_nil]; decide,by simp only [noneL,List.length_nil]; decide⟩
  ·exact ⟨by decide,by decide⟩
theorem r_factsS {pv:V→V→Bool} {s:List Ev} (h:okSt s) (e:Ev) (he:e.content.sz < big) (hK:(membershipV e.content == kInvite)=true→cR 440 [evE e, .vsl (s.map evE) none]=some (.int .i64 (kindS pv e s))) :
  cR 418 [evE e, .vsl (s.map evE) none]=some (.tup [.agg (fcC (factsS pv e s).1), .bool (factsS pv e s).2]):=by
 have h1:=r_levelsS h
 have hlen:=levelsS_len h
 have hm:=r_membership e.content he
 have hs:=r_memberS h e.sender
 have ht:=r_memberS h e.key
 have hu:=r_userL (levelsS s).1 e.sender hlen.1
 have hv:=r_userL (levelsS s).1 e.key hlen.1
 have hbn:(e.type != kMember)= !(e.type == kMember):=rfl
 unfold factsS
 cases hl2:(levelsS s).2 with
 | false=>
  rw [hl2] at h1
  generalize (levelsS s).1=l at h1
  refine cR_of (F:=F418) rfl ?_
  simp only [A6Fe,EXF,EXA,seval,VX,readAt_some,V.eta,lvC,h1,Bool.not_false,Bool.true_or]
  rfl
 | true=>
 rw [hl2] at h1
 cases hty:e.type == kMember with
 | false=>
  rw [hty] at hbn
  generalize (levelsS s).1=l at h1
  refine cR_of (F:=F418) rfl ?_
  simp only [A6Fe,EXF,EXA,seval,VX,readAt_some,V.eta,lvC,h1,hbn,hty,Bool.not_false,Bool.or_true]
  rfl
 | true=>
  rw [hty] at hbn
  have hfin:= @ft2 s e { (factsL pv e s (levelsS s).1) with third:=0 }
  simp only [Bool.not_true,Bool.or_self,Bool.false_eq_true,if_false]
  have eq:(if membershipV e.content == kInvite then { { (factsL pv e s (levelsS s).1) with third:=0 } with third:=kindS pv e s } else { (factsL pv e s (levelsS s).1) with third:=0 })=factsL pv e s (levelsS s).1:=by
   unfold factsL
   split
   ·rename_i hh; simp only [hh,if_true]
   ·rename_i hh; simp only [hh,Bool.false_eq_true,if_false]
  generalize hL:(levelsS s).1=l at h1 hlen hu hv hfin eq
  have hlc:=lvE_closed l
  have hle:=lvE_er l
  refine cR_of (F:=F418) rfl ?_
  rw [←eq]
  have hgo:=fun σ a b c d=> @hfin σ (kindS pv e s) l h he hlen.1 hK a b c d rfl rfl rfl
  unfold fcC at hgo
  unfold lvC at h1 hu hv hgo hlc hle
  simp only [factsL] at hgo ⊢
  simp only [A6Fe,EXF,EXA,seval,VX,readAt_some,V.eta,h1,hbn,hty,hm,hs,ht,hu,hv,hlc,hle]
  exact hgo _ rfl rfl rfl rfl
end Go.Ab
namespace Go.Ab
set_option maxHeartbeats 1000000
def A7Fa:= @F424.eq_1
def A7Fb:= @F445.eq_1
def A7Fc:= @F463.eq_1
def A7Fd:= @F464.eq_1
def A7Fe:= @F465.eq_1
def A7Ff:= @F466.eq_1
set_option maxRecDepth 100000
section
variable (f:Fc)
theorem r_joinF:cR 463 [.agg (fcC f)]=some (.bool (joinF f)):=by
 refine cR_of (F:=F463) rfl ?_
 unfold joinF fcC
 cases h1:f.first with
 | true=>simp only [A7Fc,EXA,seval,VX,readAt_some]
 | false=>
 cases h2:f.self with
 | false=>simp only [A7Fc,EXA,seval,VX,readAt_some,Bool.not_false,Bool.true_or]
 | true=>
 cases h3:f.target == kBanL with
 | true=>simp only [A7Fc,EXA,seval,VX,readAt_some,h3,Bool.not_true,Bool.false_or]
 | false=>
 have hi: ∀b:Bool,(if (f.target == kInvite)=true then some (AV.bool true) else some (AV.bool b))=some (.bool (f.target == kInvite || b)):=by
  intro b; cases f.target == kInvite <;> rfl
 cases h6:f.target == kInvite with
 | true=>
  cases p1:f.rule == kPublic with
  | true=>simp only [A7Fc,EXA,seval,VX,readAt_some,h3,h6,p1,Bool.not_true,Bool.false_or]
  | false=>
  cases p2:f.rule == kInvite with
  | true=>simp only [A7Fc,EXA,seval,VX,readAt_some,h3,h6,p1,p2,Bool.not_true,Bool.false_or,Bool.true_or]
  | false=>
  cases p3:f.rule == kKnock with
  | true=>simp only [A7Fc,EXA,seval,VX,readAt_some,h3,h6,p1,p2,p3,Bool.not_true,Bool.false_or,Bool.true_or]
  | false=>
  cases p4:f.rule == kRestr with
  | true=>simp only [A7Fc,EXA,seval,VX,readAt_some,h3,h6,p1,p2,p3,p4,Bool.not_true,Bool.false_or,Bool.true_or]
  | false=>
  cases p5:f.rule == kKnockR <;> simp only [A7Fc,EXA,seval,VX,readAt_some,h3,h6,p1,p2,p3,p4,p5,Bool.not_true,Bool.false_or,Bool.true_or]
 | false=>
  cases hj:(f.target == kJoin) <;> cases p1:f.rule == kPublic <;> cases p2:f.rule == kInvite <;> cases p3:f.rule == kKnock <;> cases p4:f.rule == kRestr <;> cases p5:f.rule == kKnockR <;>
   simp only [A7Fc,EXA,seval,VX,readAt_some,h3,h6,hj,p1,p2,p3,p4,p5,Bool.not_true,Bool.false_or,Bool.true_or,Bool.or_false,Bool.or_self,Bool.or_true]
theorem r_inviteF:cR 464 [.agg (fcC f)]=some (.bool (inviteF f)):=by
 refine cR_of (F:=F464) rfl ?_
 unfold inviteF fcC
 by_cases h1:f.third=1
 ·have q:(f.third == 1)=true:=by simp [h1]
  simp only [A7Fd,EXA,seval,VX,readAt_some,q,h1,if_true]
 ·have q:(f.third == 1)=false:=by simp [h1]
  by_cases h2:f.third=2
  ·have q2:(f.third == 2)=true:=by simp [h2]
   simp only [A7Fd,EXA,seval,VX,readAt_some,q,q2,h2,if_true]
  ·have q2:(f.third == 2)=false:=by simp [h2]
   rw [if_neg h1,if_neg h2]
   cases h3:f.sender == kJoin with
   | false=>simp only [A7Fd,EXA,seval,VX,readAt_some,q,q2,h3,Bool.false_and]
   | true=>
   cases h4:f.target == kJoin with
   | true=>simp only [A7Fd,EXA,seval,VX,readAt_some,q,q2,h3,h4,Bool.not_true,Bool.false_and,Bool.and_false]
   | false=>
   cases h5:f.target == kBanL with
   | true=>simp only [A7Fd,EXA,seval,VX,readAt_some,q,q2,h3,h4,h5,Bool.not_true,Bool.not_false,Bool.false_and,Bool.and_false]
   | false=>simp only [A7Fd,EXA,seval,VX,readAt_some,q,q2,h3,h4,h5,Bool.not_false,Bool.true_and]
theorem r_leaveF:cR 465 [.agg (fcC f)]=some (.bool (leaveF f)):=by
 refine cR_of (F:=F465) rfl ?_
 unfold leaveF fcC
 cases h1:f.self with
 | true=>
  cases h2:f.target == kInvite with
  | true=>simp only [A7Fe,EXA,seval,VX,readAt_some,h2,Bool.true_or,if_true]
  | false=>
  cases h3:f.target == kJoin with
  | true=>simp only [A7Fe,EXA,seval,VX,readAt_some,h2,h3,Bool.true_or,Bool.false_or,if_true]
  | false=>simp only [A7Fe,EXA,seval,VX,readAt_some,h2,h3,Bool.false_or,if_true]
 | false=>
 simp only [Bool.false_eq_true,if_false]
 cases h2:f.sender == kJoin with
 | false=>simp only [A7Fe,EXA,seval,VX,readAt_some,h2,Bool.false_and]
 | true=>
 cases h3:decide (f.level≥f.kick) with
 | false=>simp only [A7Fe,EXA,seval,VX,readAt_some,h2,h3,Bool.false_and,Bool.and_false]
 | true=>
 cases h4:decide (f.level > f.tlevel) with
 | false=>simp only [A7Fe,EXA,seval,VX,readAt_some,h2,h3,h4,Bool.false_and,Bool.and_false]
 | true=>
 cases h5:f.target == kBanL with
 | false=>simp only [A7Fe,EXA,seval,VX,readAt_some,h2,h3,h4,h5,Bool.not_false,Bool.true_or,Bool.and_self]
 | true=>simp only [A7Fe,EXA,seval,VX,readAt_some,h2,h3,h4,h5,Bool.not_true,Bool.false_or,Bool.true_and]
theorem r_banF:cR 466 [.agg (fcC f)]=some (.bool (banF f)):=by
 refine cR_of (F:=F466) rfl ?_
 unfold banF fcC
 cases h2:f.sender == kJoin with
 | false=>simp only [A7Ff,EXA,seval,VX,readAt_some,h2,Bool.false_and]
 | true=>
 cases h3:decide (f.level≥f.ban) with
 | false=>simp only [A7Ff,EXA,seval,VX,readAt_some,h2,h3,Bool.false_and,Bool.and_false]
 | true=>simp only [A7Ff,EXA,seval,VX,readAt_some,h2,h3,Bool.true_and]
theorem r_knockF:cR 467 [.agg (fcC f)]=some (.bool (knockF f)):=by
 refine cR_of (F:=F467) rfl ?_
 unfold knockF fcC
 cases h1:f.rule == kKnock <;> cases h2:f.rule == kKnockR <;> cases h3:f.self <;> cases h4:f.target == kBanL <;> cases h5:f.target == kInvite <;> cases h6:f.target == kJoin <;>
  simp only [F467,EXA,seval,VX,readAt_some,h1,h2,h4,h5,h6,Bool.not_false,Bool.not_true,Bool.true_and,Bool.false_and,Bool.and_false,Bool.true_or,Bool.false_or,Bool.or_false,Bool.or_true,Bool.or_self,Bool.and_self]
def ruleF (to:Bs):AV:=if to == kJoin then .fn 463 [] [] else if to == kInvite then .fn 464 [] [] else if to == kLeave then .fn 465 [] [] else if to == kBanL then .fn 466 [] [] else if to == kKnock then .fn 467 [] [] else .lit .nilFunc
theorem beq_comm (a b:Bs):(a == b)=(b == a):=by
 by_cases h:a=b
 ·subst h; rfl
 ·rw [beq_eq_false_iff_ne.2 h,beq_eq_false_iff_ne.2 (fun e=>h e.symm)]
theorem r_ruleF (to:Bs):cR 445 [.str to]=some (ruleF to):=by
 have b1:=beq_comm kJoin to
 have b2:=beq_comm kInvite to
 have b3:=beq_comm kLeave to
 have b4:=beq_comm kBanL to
 have b5:=beq_comm kKnock to
 have w0:IntKind.wrap .i64 1=1:=rfl
 have w1:IntKind.wrap .i64 2=2:=rfl
 have w2:IntKind.wrap .i64 3=3:=rfl
 have w3:IntKind.wrap .i64 4=4:=rfl
 have w4:IntKind.wrap .i64 5=5:=rfl
 refine cR_of (F:=F445) rfl ?_
 unfold ruleF
 cases h1:to == kJoin with
 | true=>rw [h1] at b1; simp only [A7Fb,ex_loop,ex_inLoop,EXA,seval,VX,readAt_some,idxVOf,b1,if_true]
 | false=>
 rw [h1] at b1
 cases h2:to == kInvite with
 | true=>rw [h2] at b2; simp only [A7Fb,ex_loop,ex_inLoop,EXA,seval,VX,readAt_some,idxVOf,b1,b2,w0,if_true,Bool.false_eq_true,if_false]
 | false=>
 rw [h2] at b2
 cases h3:to == kLeave with
 | true=>rw [h3] at b3; simp only [A7Fb,ex_loop,ex_inLoop,EXA,seval,VX,readAt_some,idxVOf,b1,b2,b3,w0,w1,if_true,Bool.false_eq_true,if_false]
 | false=>
 rw [h3] at b3
 cases h4:to == kBanL with
 | true=>rw [h4] at b4; simp only [A7Fb,ex_loop,ex_inLoop,EXA,seval,VX,readAt_some,idxVOf,b1,b2,b3,b4,w0,w1,w2,if_true,Bool.false_eq_true,if_false]
 | false=>
 rw [h4] at b4
 cases h5:to == kKnock with
 | true=>rw [h5] at b5; simp only [A7Fb,ex_loop,ex_inLoop,EXA,seval,VX,readAt_some,idxVOf,b1,b2,b3,b4,b5,w0,w1,w2,w3,if_true,Bool.false_eq_true,if_false]
 | false=>rw [h5] at b5; simp only [A7Fb,ex_loop,ex_inLoop,EXA,seval,VX,readAt_some,idxVOf,b1,b2,b3,b4,b5,w0,w1,w2,w3,w4,Bool.false_eq_true,if_false]
theorem r_mayF:cR 424 [.agg (fcC f)]=some (.bool (mayF f)):=by
 have h:=r_ruleF f.to
 have j1:=r_joinF f
 have j2:=r_inviteF f
 have j3:=r_leaveF f
 have j4:=r_banF f
 have j5:=r_knockF f
 refine cR_of (F:=F424) rfl ?_
 unfold mayF
 unfold ruleF at h
 unfold fcC at*
 cases h1:f.to == kJoin with
 | true=>simp only [h1,if_true] at h; simp only [A7Fa,EXA,seval,VX,readAt_some,h,j1,if_true]
 | false=>
 cases h2:f.to == kInvite with
 | true=>simp only [h1,h2,if_true,Bool.false_eq_true,if_false] at h; simp only [A7Fa,EXA,seval,VX,readAt_some,h,j2,if_true,Bool.false_eq_true,if_false]
 | false=>
 cases h3:f.to == kLeave with
 | true=>simp only [h1,h2,h3,if_true,Bool.false_eq_true,if_false] at h; simp only [A7Fa,EXA,seval,VX,readAt_some,h,j3,if_true,Bool.false_eq_true,if_false]
 | false=>
 cases h4:f.to == kBanL with
 | true=>simp only [h1,h2,h3,h4,if_true,Bool.false_eq_true,if_false] at h; simp only [A7Fa,EXA,seval,VX,readAt_some,h,j4,if_true,Bool.false_eq_true,if_false]
 | false=>
 cases h5:f.to == kKnock with
 | true=>simp only [h1,h2,h3,h4,h5,if_true,Bool.false_eq_true,if_false] at h; simp only [A7Fa,EXA,seval,VX,readAt_some,h,j5,if_true,Bool.false_eq_true,if_false]
 | false=>simp only [h1,h2,h3,h4,h5,Bool.false_eq_true,if_false] at h; simp only [A7Fa,EXA,seval,VX,readAt_some,h,Bool.false_eq_true,if_false]
end
end Go.Ab
namespace Go.Ab
end Go.Ab
