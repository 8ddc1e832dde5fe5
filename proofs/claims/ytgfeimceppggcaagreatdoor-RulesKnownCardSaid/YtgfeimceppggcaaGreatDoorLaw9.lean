/- What functions of the program, and of the library, answer. Conditions: none. -/
import Derived.Test.YtgfeimceppggcaaGreatDoorEx
import Derived.Test.YtgfeimceppggcaaGreatDoorDraw
import Derived.Test.YtgfeimceppggcaaGreatDoorLaw8
import Derived.Test.YtgfeimceppggcaaGreatDoorLaw7
set_option linter.unusedVariables false
set_option linter.unusedSimpArgs false
set_option linter.defProp false
set_option linter.unnecessarySimpa false
namespace Go.Ab
section
variable {ip:Nat→Option IFunc} {G:Nat→List AV} {fr fr':Fr} {σ:Store} {Q:Fr→Store→Prop} {k:List Item}
end
end Go.Ab
namespace Go.Ab
set_option maxHeartbeats 1000000
set_option maxRecDepth 100000
section
variable {l:List Ev} {e:Ev} {j:Nat} {c:ICode} {k:List Item} {σ:Store} {Q:Fr→Store→Prop}
end
end Go.Ab
namespace Go.Ab
set_option maxHeartbeats 1000000
def T13Fa:=J @F72_4.eq_1 (J @F72_9.eq_1 (J @F72_15.eq_1 (J @F72_16.eq_1 (J @F72_25.eq_1 (J @F72_26.eq_1 (@F72.eq_1))))))
def T13Fb:=J @F72_4.eq_1 (J @F72_9.eq_1 (J @F72_15.eq_1 (J @F72_25.eq_1 (J @F72_26.eq_1 (@F72.eq_1)))))
set_option maxRecDepth 100000
def insR (x:Mem):List Mem→List Mem
 | []=> [x]
 | y ::r=>if bytesLess x.1 y.1=true then y ::insR x r else x ::y ::r
def sortR:List Mem→List Mem→List Mem
 | acc, []=>acc
 | acc,x ::r=>sortR (insR x acc) r
def sortM (l:List Mem):List Mem:=(sortR [] l).reverse
theorem insR_len (x:Mem): ∀l,(insR x l).length=l.length+1
 | []=>rfl
 | y ::r=>by simp only [insR]; split <;> simp [insR_len x r]
theorem sortR_len: ∀(l acc:List Mem),(sortR acc l).length=acc.length+l.length
 | [],acc=>by simp [sortR]
 | x ::r,acc=>by rw [sortR,sortR_len r,insR_len]; simp; omega
section
variable {α:Type} (L:Lay α)
theorem Lay.cells_append (l m:List α):L.cells (l ++m)=L.cells l ++L.cells m:=by simp [Lay.cells]
theorem Lay.cells_cons (a:α) (l:List α):L.cells (a ::l)=(L.f a).cells ++L.cells l:=by simp [Lay.cells]
theorem Lay.take {l:List α} {j:Nat} (h:j≤l.length):(L.cells l).take (j*L.sz)=L.cells (l.take j):=by
 have e:L.cells l=L.cells (l.take j) ++L.cells (l.drop j):=by rw [←L.cells_append,List.take_append_drop]
 have hl:(L.cells (l.take j)).length=j*L.sz:=by rw [L.cells_len,List.length_take,Nat.min_eq_left h]
 rw [e,←hl,List.take_left]
theorem Lay.drop {l:List α} {j:Nat} (h:j≤l.length):(L.cells l).drop (j*L.sz)=L.cells (l.drop j):=by
 have e:L.cells l=L.cells (l.take j) ++L.cells (l.drop j):=by rw [←L.cells_append,List.take_append_drop]
 have hl:(L.cells (l.take j)).length=j*L.sz:=by rw [L.cells_len,List.length_take,Nat.min_eq_left h]
 rw [e,←hl,List.drop_left]
theorem Lay.read {l:List α} {j:Nat} {a:α} (h:l[j]? =some a) (hs:L.sz≠1):readAt (L.cells l) (j*L.sz) (some L.sz)=some (L.f a):=by
 have hlt:=lt_of_get h
 have hcl:=L.cells_len l
 have hle:j*L.sz+L.sz≤(L.cells l).length:=by
  rw [hcl]
  have:=Nat.mul_le_mul_right L.sz (Nat.succ_le_of_lt hlt)
  rw [Nat.succ_mul] at this
  exact this
 show (if j*L.sz+L.sz≤(L.cells l).length then some (AV.agg (((L.cells l).drop (j*L.sz)).take L.sz)) else none)=_
 rw [if_pos hle,L.drop (Nat.le_of_lt hlt),drop_cons h,L.cells_cons]
 have ha:=L.agg a
 rw [if_neg hs] at ha
 obtain ⟨cs,hcs⟩:=ha
 have hl:=L.len a
 rw [hcs] at hl ⊢
 simp only [AV.cells] at hl ⊢
 rw [←hl,List.take_left]
theorem Lay.splice {l:List α} {j:Nat} (a:α) (h:j < l.length):(L.cells l).take (j*L.sz) ++(L.f a).cells ++(L.cells l).drop (j*L.sz+L.sz)=L.cells (l.set j a):=by
 have e:j*L.sz+L.sz=(j+1)*L.sz:=by rw [Nat.add_mul]; simp
 rw [e,L.take (Nat.le_of_lt h),L.drop h,List.set_eq_take_append_cons_drop,if_pos h,L.cells_append,L.cells_cons,List.append_assoc]
end
theorem swap_set {α:Type} (A B:List α) (x y:α):((A ++y ::x ::B).set (A.length+1) y).set A.length x=A ++x ::y ::B:=by
 induction A with
 | nil=>rfl
 | cons a A ih=>simp [ih]
theorem Own.blk {α:Type} {L:Lay α} {σ:Store} {b:Nat} {l:List α} (h:Own L σ (some b) l):look σ.m b=some (.own (L.cells l)):=h.1
def InsQ (σ:Store) (b:Nat) (l:List Mem) (τ:Store):Prop:=Own LMem τ (some b) l∧τ.next=σ.next∧∀b',b'≠b→τ.get b'=σ.get b'
theorem c_ins (b N:Nat) (l:List Mem) (σ:Store) (hN:l.length=N) (hlt:N < 64) (ho:Own LMem σ (some b) l) :
  ∃σ',callS ipU gU (.fn 72 [] []) [.sl b 0 N 6 none, .int .i64 0, .int .i64 (N:Int), .fn 40 [] []] σ=some (.tup [],σ')∧InsQ σ b (sortM l) σ':=by
 have main:Ex ipU gU [.code F72.body] (initFr [.sl b 0 N 6 none, .int .i64 0, .int .i64 (N:Int), .fn 40 [] []]) σ fun fr' σ1=>resAll fr' σ1 F72.res=some (.tup [])∧InsQ σ b (sortM l) σ1:=by
  have w1:IntKind.wrap .i64 (0+1)=((1:Nat):Int):=by decide
  cases l with
  | nil=>
   subst hN
   have d0:decide (((1:Nat):Int) < (([] :List Mem).length:Int))=false:=rfl
   simp only [T13Fb,ex_loop,EXA,seval,w1,d0]
   exact ⟨ho,rfl,fun _ _=>rfl⟩
  | cons x0 r0=>
  simp only [F72_4,F72_9,F72_15,F72_25,F72,ex_loop,EXA,seval,w1]
  refine ex_whileI (S:=List Mem×List Mem) (fun p=> [(0, .sl b 0 N 6 none),(1, .int .i64 0),(2, .int .i64 (N:Int)),(3, .fn 40 [] []),(8, .int .i64 (p.1.length:Int))]) (fun p=>p.2.length)
   (fun p τ=>0 < p.1.length∧p.1.length+p.2.length=N∧sortR p.1 p.2=sortR [] (x0 ::r0)∧Own LMem τ (some b) (p.1.reverse ++p.2)∧τ.next=σ.next∧∀b',b'≠b→τ.get b'=σ.get b') ?_ ([x0],r0) σ ⟨by simp,by simp at hN ⊢; omega,rfl,ho,rfl,fun _ _=>rfl⟩
  rintro bd ⟨acc,rest⟩ τ ⟨k1,k2,k3,k4,k5,k6⟩ ih
  simp only at k1 k2 k3 k4 k5 k6 ih ⊢
  cases rest with
  | nil=>
   have d0:decide ((acc.length:Int) < (N:Int))=false:=by simp at k2 ⊢; omega
   simp only [T13Fb,EXA,seval,d0]
   have k3':acc=sortR [] (x0 ::r0):=k3
   refine ⟨?_,k5,k6⟩
   unfold sortM
   rw [←k3']; simpa using k4
  | cons x rest=>
   have d0:decide ((acc.length:Int) < (N:Int))=true:=by simp at k2 ⊢; omega
   simp only [T13Fb,ex_loop,EXA,seval,d0]
   have k3':sortR (insR x acc) rest=sortR [] (x0 ::r0):=k3
   refine ex_whileI (S:=List Mem×List Mem) (fun p=> [(0, .sl b 0 N 6 none),(1, .int .i64 0),(2, .int .i64 (N:Int)),(3, .fn 40 [] []),(8, .int .i64 (acc.length:Int)),(9, .int .i64 (p.1.length:Int))]) (fun p=>p.1.length)
    (fun p ρ=>p.1.length+p.2.length=acc.length∧p.2 ++insR x p.1=insR x acc∧Own LMem ρ (some b) (p.1.reverse ++x ::(p.2.reverse ++rest))∧ρ.next=σ.next∧∀b',b'≠b→ρ.get b'=σ.get b') ?_ (acc, []) τ ⟨by simp,rfl,by simpa using k4,k5,k6⟩
   rintro bd2 ⟨left,passed⟩ ρ ⟨q1,q2,q3,q4,q5⟩ ih2
   simp only at q1 q2 q3 q4 q5 ih2 ⊢
   have fin: ∀(fr':Fr) (ρ':Store),passed ++x ::left=insR x acc→Own LMem ρ' (some b) (left.reverse ++x ::(passed.reverse ++rest))→ρ'.next=σ.next→(∀b',b'≠b→ρ'.get b'=σ.get b')→
     keep [0,1,2,3,8] fr'= [(0, .sl b 0 N 6 none),(1, .int .i64 0),(2, .int .i64 (N:Int)),(3, .fn 40 [] []),(8, .int .i64 ((acc.length+1:Nat):Int))]→_:=fun fr' ρ' e1 e2 e3 e4 e5=>
    ih (passed ++x ::left,rest) fr' ρ' (by simp) ⟨by simp; omega,by simp at k2 ⊢; omega,by rw [e1]; exact k3',by simpa using e2,e3,e4⟩ (by
     have hh:(passed ++x ::left).length=acc.length+1:=by
      simp; omega
     rw [e5,hh])
   have hwi:=wsucc (j:=acc.length) (n:=64) (by simp at k2; omega) (by omega)
   cases left with
   | nil=>
    have d1:decide (((([] :List Mem).length:Nat):Int) > 0)=false:=rfl
    have d1':decide (0 < ((([] :List Mem).length:Nat):Int))=false:=rfl
    have d1'':decide (0 < ((0:Nat):Int))=false:=rfl
    simp only [T13Fa,EXA,seval,d1,d1',d1'',hwi]
    exact fin _ _ q2 q3 q4 q5 (by simp only [EXA,seval])
   | cons y r=>
    have hD:(y ::r).reverse ++x ::(passed.reverse ++rest)=r.reverse ++y ::x ::(passed.reverse ++rest):=by simp
    rw [hD] at q3
    have g0:(r.reverse ++y ::x ::(passed.reverse ++rest))[r.length]? =some y:=by
     rw [List.getElem?_append_right (by simp)]; simp
    have g1:(r.reverse ++y ::x ::(passed.reverse ++rest))[r.length+1]? =some x:=by
     rw [List.getElem?_append_right (by simp)]; simp
    have hrN:r.length+1 < N:=by simp at q1 k2; omega
    have d1:decide (((r.length+1:Nat):Int) > 0)=true:=by simp
    have d1':decide (0 < ((r.length+1:Nat):Int))=true:=by simp
    have i1:idxOf 6 none (.sl b 0 N 6 none) (.int .i64 ((r.length+1:Nat):Int))=some (.ptr b ((r.length+1)*6)):=by
     simp [idxOf]
     omega
    have i0:idxOf 6 none (.sl b 0 N 6 none) (.int .i64 ((r.length:Nat):Int))=some (.ptr b (r.length*6)):=by
     have:r.length < N:=by omega
     simp [idxOf,this]
    have wp:IntKind.wrap .i64 (((r.length+1:Nat):Int) - 1)=((r.length:Nat):Int):=by
     have:=wpred (j:=r.length+1) (by omega) (by omega)
     simpa using this
    have hlk:=q3.blk
    have hlen:(r.reverse ++y ::x ::(passed.reverse ++rest)).length=N:=by simp at q1 k2 ⊢; omega
    have rd1:readAt (LMem.cells _) ((r.length+1)*6) (some 6)=some (memE x):=LMem.read g1 (by decide)
    have rd0:readAt (LMem.cells _) (r.length*6) (some 6)=some (memE y):=LMem.read g0 (by decide)
    have hk:=r_key x y
    cases hb:bytesLess x.1 y.1
    ·simp only [T13Fa,EXA,seval,VX,d1,d1',i1,i0,wp,hlk,rd1,rd0,hk,keyC_lt,hb,hwi]
     simp only [insR,hb,Bool.false_eq_true,if_false] at q2
     exact fin _ _ q2 (by rw [hD]; exact q3) q4 q5 (by simp only [EXA,seval])
    ·simp only [insR,hb,if_true] at q2
     have hCl:=LMem.cells_len (r.reverse ++y ::x ::(passed.reverse ++rest))
     rw [hlen] at hCl
     have sw:=swap_set r.reverse (passed.reverse ++rest) x y
     rw [List.length_reverse] at sw
     have sp1:=LMem.splice (l:=r.reverse ++y ::x ::(passed.reverse ++rest)) (j:=r.length+1) y (by omega)
     generalize hD1:(r.reverse ++y ::x ::(passed.reverse ++rest)).set (r.length+1) y=D1 at sp1 sw
     have hl1:D1.length=N:=by rw [←hD1,List.length_set,hlen]
     have sp2:=LMem.splice (l:=D1) (j:=r.length) x (by omega)
     rw [sw] at sp2
     simp only [show ∀z,LMem.f z=memE z from fun _=>rfl,memE_cells,show LMem.sz=6 from rfl] at sp1 sp2
     have hc1:((r.length+1)*6+6≤(LMem.cells (r.reverse ++y ::x ::(passed.reverse ++rest))).length)=True:=eq_true (by rw [hCl]; show _≤N*6; omega)
     have hc2:(r.length*6+6≤(LMem.cells D1).length)=True:=eq_true (by rw [LMem.cells_len,hl1]; show _≤N*6; omega)
     simp only [T13Fa,EXA,seval,VX,d1,d1',i1,i0,wp,hlk,rd1,rd0,hk,keyC_lt,hb,hwi,hc1,sp1,hc2,sp2]
     refine ih2 (r,passed ++ [y]) _ _ (by simp) ⟨by simp at q1 ⊢; omega,by simpa using q2,?_,q4,?_⟩ (by simp only [EXA,seval])
     ·obtain ⟨o1,o2,o3,o4⟩:=q3
      refine ⟨?_,by simpa using LMem.cells_len (r.reverse ++x ::((passed ++ [y]).reverse ++rest)),o3,by simp; omega⟩
      simp [Store.get,look]
     ·intro b' hb'
      rw [←q5 b' hb']
      simp only [Store.get,look]
      rw [if_neg (fun hh=>hb' hh.symm),if_neg (fun hh=>hb' hh.symm)]
 obtain ⟨n,fr',σ1,h1,h2,h3⟩:=main
 exact ⟨σ1,callS_of (F:=F72) rfl (first:= []) (caps:= []) ⟨n,fr',σ1,h1,h2,rfl⟩,h3⟩
end Go.Ab
namespace Go.Ab
set_option maxHeartbeats 1000000
def T14Fb:= @F39.eq_1
set_option maxRecDepth 100000
theorem c_ins0 (v:AV) (σ:Store):callS ipU gU (.fn 72 [] []) [v, .int .i64 0, .int .i64 0, .fn 40 [] []] σ=some (.tup [],σ):=by
 refine callS_of (F:=F72) rfl (first:= []) (caps:= []) ?_
 have w1:IntKind.wrap .i64 (0+1)=((1:Nat):Int):=by decide
 have d0:decide (((1:Nat):Int) < 0)=false:=rfl
 simp only [F72_4,F72_9,F72_15,F72_25,F72_26,F72,ex_loop,EXA,Nat.reduceEqDiff,reduceIte,reduceCtorEq,Nat.reduceAdd,Nat.reduceLeDiff,Nat.reduceSub,Nat.reduceMul,Int.reduceEq,Int.reduceBEq,Int.reduceBNe,Int.reduceLT,Int.reduceLE,Nat.reduceLT,w1,d0]
def cpy (σ:Store) (l:List Mem):AV:=if l= [] then .vsl [] (some 0) else .sl σ.next 0 l.length 6 none
def cpyS (σ:Store) (l:List Mem):Store:=if l= [] then σ else σ.alloc (LMem.cells l)
theorem c_clone2 (l:List Mem) (c:Option Nat) (σ:Store) (hb:l.length < lim):callM ipU gU .split (.fn 38 [] []) [.vsl (l.map memE) c] σ=some (cpy σ l,cpyS σ l):=by
 unfold lim at hb
 cases l with
 | nil=>
  have hb2:both ipU gU (.fn 38 [] []) σ=true:=both_of 100 (by kernel_rfl) (by kernel_rfl)
  simp only [callM,List.map_nil,noItems,if_true,hb2,cpy,cpyS]
 | cons x l=>
  have hro: ∀σ',rowOf σ' 6 (.vsl ((x ::l).map memE) c)=some (LMem.cells (x ::l)):=fun σ'=>LMem.rowOf σ' (x ::l) c
  have ha:appendTo σ 6 96 (.vsl [] (some 0)) (LMem.cells (x ::l)) (l.length+1)=some (.sl σ.next 0 (l.length+1) 6 none,σ.alloc (LMem.cells (x ::l))):=
   app00 (by omega) (by omega) (by unfold maxBytes; simp at hb; omega) (LMem.cells_len (x ::l)) (LMem.cells_one _) (by omega)
  have hn:noItems [.vsl ((x ::l).map memE) c]=false:=rfl
  simp only [callM,hn,Bool.false_eq_true,if_false]
  refine callS_of (F:=F38) rfl (first:= []) (caps:= []) ?_
  simp only [List.map_cons] at hro
  simp only [F38,EXA,Nat.reduceEqDiff,reduceIte,reduceCtorEq,Nat.reduceAdd,Nat.reduceLeDiff,Nat.reduceSub,Nat.reduceMul,Int.reduceEq,Int.reduceBEq,Int.reduceBNe,Int.reduceLT,Int.reduceLE,Nat.reduceLT,VX,lenOf_vsl,hro,ha]
  simp [Store.alloc,cpy,cpyS]
theorem cpy_own {σ:Store} {l:List Mem} (h:l≠ []):Own LMem (cpyS σ l) (some σ.next) l:=by
 have hl:0 < l.length:=List.length_pos_iff.2 h
 rw [cpyS,if_neg h]
 exact ⟨get_alloc_next,LMem.cells_len l,by simp [next_alloc],hl⟩
theorem sortM_len (l:List Mem):(sortM l).length=l.length:=by simp [sortM,sortR_len]
theorem c_sort (l:List Mem) (σ:Store) (hb:l.length < 20): ∃σ',callS ipU gU (.fn 39 [] []) [cpy σ l, .fn 40 [] []] (cpyS σ l)=some (.tup [],σ')∧
  (if l= [] then σ'=σ else Own LMem σ' (some σ.next) (sortM l))∧Grown σ σ'∧σ'.next≤σ.next+1:=by
 have d1:decide ((20:Int)≤(l.length:Int))=false:=by simp; omega
 have d2:decide ((20:Int) < (l.length:Int))=false:=by simp; omega
 have h60: ∀(v:AV) (τ τ':Store),callS ipU gU (.fn 72 [] []) [v, .int .i64 0, .int .i64 (l.length:Int), .fn 40 [] []] τ=some (.tup [],τ')→
   callS ipU gU (.fn 60 [] []) [v, .int .i64 (l.length:Int), .fn 40 [] []] τ=some (.tup [],τ'):=by
  intro v τ τ' hc
  refine callS_of (F:=F60) rfl (first:= []) (caps:= []) ?_
  simp only [F60_27,F60_36,F60,ex_loop,EXA,Nat.reduceEqDiff,reduceIte,reduceCtorEq,Nat.reduceAdd,Nat.reduceLeDiff,Nat.reduceSub,Nat.reduceMul,Int.reduceEq,Int.reduceBEq,Int.reduceBNe,Int.reduceLT,Int.reduceLE,Nat.reduceLT,d1,d2,hc]
 by_cases h0:l= []
 ·subst h0
  refine ⟨σ,?_,by rw [if_pos rfl],Grown.refl _,by omega⟩
  have h:=h60 (.vsl [] (some 0)) σ σ (c_ins0 _ _)
  refine callS_of (F:=F39) rfl (first:= []) (caps:= []) ?_
  simp only [cpy,cpyS,if_true]
  simp only [T14Fb,EXA,Nat.reduceEqDiff,reduceIte,reduceCtorEq,Nat.reduceAdd,Nat.reduceLeDiff,Nat.reduceSub,Nat.reduceMul,Int.reduceEq,Int.reduceBEq,Int.reduceBNe,Int.reduceLT,Int.reduceLE,Nat.reduceLT,VX] at h ⊢
  simp only [h,EXA,Nat.reduceEqDiff,reduceIte,reduceCtorEq,Nat.reduceAdd,Nat.reduceLeDiff,Nat.reduceSub,Nat.reduceMul,Int.reduceEq,Int.reduceBEq,Int.reduceBNe,Int.reduceLT,Int.reduceLE,Nat.reduceLT]
 ·have ho:=cpy_own (σ:=σ) h0
  obtain ⟨σ',h1,h2,h3,h4⟩:=c_ins σ.next l.length l (cpyS σ l) rfl (by omega) ho
  have h:=h60 _ _ _ h1
  have hn:(cpyS σ l).next=σ.next+1:=by rw [cpyS,if_neg h0]; rfl
  refine ⟨σ',?_,by rw [if_neg h0]; exact h2,⟨by omega,fun b hb'=> ?_⟩,by omega⟩
  ·refine callS_of (F:=F39) rfl (first:= []) (caps:= []) ?_
   simp only [cpy,if_neg h0]
   simp only [T14Fb,EXA,Nat.reduceEqDiff,reduceIte,reduceCtorEq,Nat.reduceAdd,Nat.reduceLeDiff,Nat.reduceSub,Nat.reduceMul,Int.reduceEq,Int.reduceBEq,Int.reduceBNe,Int.reduceLT,Int.reduceLE,Nat.reduceLT,VX,h]
  ·rw [h4 b (by omega),cpyS,if_neg h0,get_alloc hb']
end Go.Ab
namespace Go.Ab
set_option maxHeartbeats 1000000
def T15Fa:=J @F20_5.eq_1 (J @F20_21.eq_1 (J @F20_22.eq_1 (@F20.eq_1)))
set_option maxRecDepth 100000
structure Acc {α:Type} (L:Lay α) (σ0 σ:Store) (v:AV) (l:List α):Prop where
 gr:Gr L σ v l
 far: ∀b o len sz c,v= .sl b o len sz c→σ0.next≤b
 grown:Grown σ0 σ
theorem Acc.newset {α:Type} {L:Lay α} {σ0 σ:Store} {v:AV} {l:List α} (h:Acc L σ0 σ v l) (cs cs':List AV):Acc L σ0 { next:=σ.next+1,m:=(σ.next, .own cs) ::(σ.next, .own cs') ::σ.m } v l where
 gr:=h.gr.newset cs cs'
 far:=h.far
 grown:=⟨by have:=h.grown.1; simp; omega,fun b hb=>by
  rw [←h.grown.2 b hb]
  have:=h.grown.1
  show look ((σ.next,Blk.own cs) ::(σ.next, .own cs') ::σ.m) b=look σ.m b
  simp only [look]; rw [if_neg (by omega),if_neg (by omega)]⟩
theorem Acc.app {α:Type} {L:Lay α} {σ0 σ:Store} {v:AV} {l m:List α} (h:Acc L σ0 σ v l) (hm:0 < m.length):Acc L σ0 (grNext L σ v l m) (.sl σ.next 0 (l ++m).length L.sz none) (l ++m) where
 gr:=Gr.own (h.gr.next hm)
 far:=fun b o len sz c he=>by simp only [AV.sl.injEq] at he; have:=h.grown.1; omega
 grown:=⟨by rw [grNext_next]; have:=h.grown.1; omega,fun b hb=>by
  have h1:=h.grown.1
  rw [grNext_get h.gr (by omega) (fun len sz c he=>by have:=h.far _ _ _ _ _ he; omega)]
  exact h.grown.2 b hb⟩
def dedupM:List Mem→List Mem
 | []=> []
 | [x]=> [x]
 | x ::y ::r=>if y.1=x.1 then dedupM (y ::r) else x ::dedupM (y ::r)
def mapOf (l:List Mem):V:=V.mk 5 0 [] [] (dedupM (sortM l))
theorem dedupM_len: ∀l:List Mem,(dedupM l).length≤l.length
 | []=>by simp [dedupM]
 | [x]=>by simp [dedupM]
 | x ::y ::r=>by
  have:=dedupM_len (y ::r)
  simp only [dedupM]
  split <;> simp at this ⊢ <;> omega
theorem r_Map (l:List Mem) (hb:l.length < 20):cR 20 [.vsl (l.map memE) none]=some (mapOf l).enc:=by
 refine cR_of (F:=F20) rfl ?_
 simp only [F20_5,F20_21,F20,ex_loop,EXA,seval,VX]
 have h1:=c_clone2 l none ⟨1, [(0, .own [.int .i64 0, .int .i64 0, .str [], .nils, .nils])]⟩ (by unfold lim; omega)
 obtain ⟨σ1,h2,h3,h4,h5⟩:=c_sort l ⟨1, [(0, .own [.int .i64 0, .int .i64 0, .str [], .nils, .nils])]⟩ hb
 have hN:=sortM_len l
 have hlen:lenL (cpy ⟨1, [(0, .own [.int .i64 0, .int .i64 0, .str [], .nils, .nils])]⟩ l)=some (.int .i64 (l.length:Int)):=by
  unfold cpy
  split
  ·rename_i h; subst h; rfl
  ·rfl
 have hidx: ∀j:Nat,j < l.length→idxOf 6 none (cpy ⟨1, [(0, .own [.int .i64 0, .int .i64 0, .str [], .nils, .nils])]⟩ l) (.int .i64 (j:Int))=some (.ptr 1 (j*6)):=by
  intro j hj
  have h0:l≠ []:=by rintro rfl; simp at hj
  unfold cpy
  rw [if_neg h0]
  simp [idxOf,hj]
 generalize cpy ⟨1, [(0, .own [.int .i64 0, .int .i64 0, .str [], .nils, .nils])]⟩ l=cv at h1 h2 hlen hidx
 simp only [h1]
 simp only [ex_loop,EXA,seval,VX,h2,hlen]
 unfold mapOf
 generalize hS:sortM l=S at h3 hN ⊢
 have z0:σ1.get 0=some (.own [.int .i64 0, .int .i64 0, .str [], .nils, .nils]):=h4.2 0 (by simp)
 have hnx:1≤σ1.next:=h4.1
 have own1: ∀j:Nat,j < l.length→Own LMem σ1 (some 1) S:=by
  intro j hj
  have h0:l≠ []:=by rintro rfl; simp at hj
  rw [if_neg h0] at h3
  exact h3
 refine ex_whileI (S:=Nat×List Mem×AV) (fun p=> [(0,cv),(2, .ptr 0 0),(3,p.2.2),(10,cv),(11, .int .i64 (l.length:Int)),(12, .int .i64 (p.1:Int))]) (fun p=>l.length - p.1)
  (fun p τ=>Acc LMem σ1 τ p.2.2 p.2.1∧p.2.1 ++dedupM (S.drop p.1)=dedupM S∧p.2.1.length≤p.1) ?_ (0, [], .nils) σ1 ⟨⟨Gr.nil _ _,fun b o len sz c h=>by simp at h,Grown.refl _⟩,by simp,by simp⟩
 rintro b ⟨j,acc,ov⟩ τ ⟨k1,k2,k3⟩ ih
 simp only at k1 k2 k3 ih ⊢
 by_cases hlt:j < l.length
 ·obtain ⟨x,hx⟩:=get_lt (l:=S) (j:=j) (by omega)
  have hcond:=dlt hlt
  have ho:=own1 j hlt
  have hb1:1 < σ1.next:=ho.lt
  have hg1:τ.get 1=some (.own (LMem.cells S)):=by rw [k1.grown.2 1 hb1]; exact ho.1
  have hlk:=look_get hg1
  have hne:(τ.next=1)=False:=eq_false (by have:=k1.grown.1; omega)
  have rd:readAt (LMem.cells S) (j*6) (some 6)=some (memE x):=LMem.read hx (by decide)
  have hi:=hidx j hlt
  have hw:=wsucc (j:=j) (n:=64) (by omega) (by omega)
  have hns:=k1.newset
  have hlo:lenOf (.vsl [memE x] (some 1))=some 1:=rfl
  have hro: ∀σ',rowOf σ' 6 (.vsl [memE x] (some 1))=some (memE x).cells:=fun σ'=>by
   have:=LMem.rowOf σ' [x] (some 1)
   simpa [Lay.cells,LMem] using this
  rw [drop_cons hx] at k2
  by_cases hlast:j+1=l.length
  ·have q1:(((j+1:Nat):Int) == (l.length:Int))=true:=by simp; omega
   have hd:S.drop (j+1)= []:=List.drop_eq_nil_of_le (by omega)
   rw [hd] at k2
   have happ: ∀cs cs',appendTo _ 6 96 ov (memE x).cells 1=some _:=fun cs cs'=>(hns cs cs').gr.push (a:=x) (bytes:=96) (by omega) (by unfold maxBytes; omega)
   simp only [memE_cells] at happ hro
   simp only [T15Fa,EXA,seval,VX,readAt_some,hcond,hi,hlk,hne,rd,hw,hlen,q1,hlo,hro,happ]
   refine ih (j+1,acc ++ [x],_) _ _ (by simp; omega) ⟨(hns _ _).app (by simp),?_,by simp; omega⟩ (by simp only [EXA,seval])
   rw [hd]
   simpa [dedupM] using k2
  ·have q1:(((j+1:Nat):Int) == (l.length:Int))=false:=by
    rw [beq_eq_false_iff_ne]; omega
   obtain ⟨y,hy⟩:=get_lt (l:=S) (j:=j+1) (by omega)
   have hi2:=hidx (j+1) (by omega)
   have hy0:readAt (LMem.cells S) ((j+1)*6) none=some (.str y.1):=by
    have:=LMem.read hy (by decide)
    show (LMem.cells S)[(j+1)*6]? =_
    have e:=LMem.drop (l:=S) (j:=j+1) (by omega)
    rw [drop_cons hy,LMem.cells_cons] at e
    have e2:((LMem.cells S).drop ((j+1)*6))[0]? =some (.str y.1):=by
     show ((LMem.cells S).drop ((j+1)*LMem.sz))[0]? =_
     rw [e]
     show ((memE y).cells ++_)[0]? =_
     rw [memE_cells]; rfl
    rw [List.getElem?_drop] at e2
    simpa using e2
   rw [drop_cons hy] at k2
   have hy1:(LMem.cells S)[(j+1)*6]? =some (.str y.1):=hy0
   by_cases hxy:y.1=x.1
   ·have q2:(!(y.1 == x.1))=false:=by simp [hxy]
    simp only [dedupM,hxy,if_true] at k2
    simp only [T15Fa,EXA,seval,VX,readAt_some,hcond,hi,hlk,hne,rd,hw,hlen,q1,hi2,hy1,q2]
    refine ih (j+1,acc,ov) _ _ (by simp; omega) ⟨hns _ _,?_,by simp; omega⟩ (by simp only [EXA,seval])
    rw [drop_cons hy]; exact k2
   ·have q2:(!(y.1 == x.1))=true:=by simp [hxy]
    simp only [dedupM,hxy,if_false] at k2
    have happ: ∀cs cs',appendTo _ 6 96 ov (memE x).cells 1=some _:=fun cs cs'=>(hns cs cs').gr.push (a:=x) (bytes:=96) (by omega) (by unfold maxBytes; omega)
    simp only [memE_cells] at happ hro
    simp only [T15Fa,EXA,seval,VX,readAt_some,hcond,hi,hlk,hne,rd,hw,hlen,q1,hi2,hy1,q2,hlo,hro,happ]
    refine ih (j+1,acc ++ [x],_) _ _ (by simp; omega) ⟨(hns _ _).app (by simp),?_,by simp; omega⟩ (by simp only [EXA,seval])
    rw [drop_cons hy]
    simpa using k2
 ·have hcond:=dge (Nat.not_lt.1 hlt)
  have hd:S.drop j= []:=List.drop_eq_nil_of_le (by omega)
  rw [hd] at k2
  simp only [dedupM,List.append_nil] at k2
  obtain ⟨p1,p2,p3,p4⟩:=k1.gr.plain
  have hlk0:=look_get ((k1.grown.2 0 (by omega)).trans z0)
  have hg2:Gr LMem { next:=τ.next,m:=(0, .own [.int .i64 5, .int .i64 0, .str [], .nils,ov]) ::τ.m } ov acc:=by
   rcases k1.gr with h | ⟨b',rfl,h⟩ | h
   ·exact .inl h
   ·have hb1:=k1.far b' _ _ _ _ rfl
    exact Gr.own (h.frame (by show look ((0,_) ::τ.m) b'=_; simp only [look]; rw [if_neg (by omega)]; rfl) (Nat.le_refl _))
   ·exact .inr (.inr h)
  have hrb:=RbL.agg (RbL.clo (x:= .int .i64 5) rfl (RbL.clo (x:= .int .i64 0) rfl (RbL.clo (x:= .str []) rfl (RbL.clo (x:= .nils) rfl (RbL.gr hg2 (RbL.nil _ 23))))))
  simp only [T15Fa,EXA,seval,VX,readAt_some,hcond,p1,p2,p3,p4,hlk0,hrb]
  rw [←k2]
  exact V.fold1 5 0 [] acc
end Go.Ab
namespace Go.Ab
set_option maxHeartbeats 1000000
set_option maxRecDepth 100000
end Go.Ab
namespace Go.Ab
set_option maxHeartbeats 1000000
def T16Fa:=J @F10_11.eq_1 (J @F10_22.eq_1 (J @F10_23.eq_1 (@F10.eq_1)))
def T16Fb:=J @F10_11.eq_1 (J @F10_22.eq_1 (@F10.eq_1))
set_option maxRecDepth 100000
theorem idx_str {l:List Bs} {j:Nat} {s:Bs} {c:Option Nat} (h:l[j]? =some s):idxOf 1 none (.vsl (l.map AV.str) c) (.int .i64 (j:Int))=some (.vptr [.str s] 0):=idx_map (f:=AV.str) h rfl
theorem neLen {a b:Nat}:((a:Int) != (b:Int))= !(decide (a=b)):=by
 by_cases h:a=b
 ·simp [h]
 ·have:(a:Int)≠(b:Int):=by omega
  simp [h,this]
theorem r_Texts (l m:List Bs) (hb:l.length < big):cR 10 [.vsl (l.map .str) none, .vsl (m.map .str) none]=some (.bool (l == m)):=by
 unfold big at hb
 refine cR_of (F:=F10) rfl ?_
 by_cases hl:l.length=m.length
 ·have hd:(!decide (l.length=m.length))=false:=by simp [hl]
  simp only [T16Fb,ex_loop,EXA,seval,VX,neLen,hd]
  refine ex_while (S:=Nat) (fun j=> [(0, .vsl (l.map .str) none),(1, .vsl (m.map .str) none),(5, .int .i64 (j:Int))]) (fun _=> .empty) (fun j=>l.length - j) (fun j=>(l.drop j == m.drop j)=(l == m)) ?_ 0 rfl
  intro b j hj ih
  by_cases hlt:j < l.length
  ·obtain ⟨x,hx⟩:=get_lt hlt
   obtain ⟨y,hy⟩:=get_lt (l:=m) (j:=j) (by omega)
   have i1:=idx_str (c:=none) hx
   have i2:=idx_str (c:=none) hy
   have hcond:=dlt hlt
   rw [drop_cons hx,drop_cons hy] at hj
   by_cases hxy:x=y
   ·subst hxy
    have hxx:(!(x == x))=false:=by simp
    simp only [T16Fa,EXA,seval,VX,hcond,i1,i2,hxx]
    refine ih (j+1) _ _ (by omega) ?_ ?_ rfl
    ·rw [←hj]; simp
    ·rw [wsucc hlt (by omega)]; simp only [EXA,seval]
   ·have hxx:(!(x == y))=true:=by simp [hxy]
    have hb:(l == m)=false:=by rw [←hj]; simp [hxy]
    simp only [T16Fa,EXA,seval,VX,hcond,i1,i2,hxx,hb]
  ·have hcond:=dge (Nat.not_lt.1 hlt)
   have hb:(l == m)=true:=by
    rw [←hj,List.drop_eq_nil_of_le (by omega),List.drop_eq_nil_of_le (by omega)]; rfl
   simp only [T16Fa,EXA,seval,VX,hcond,hb]
 ·have hd:(!decide (l.length=m.length))=true:=by simp [hl]
  have hb:(l == m)=false:=by
   rw [beq_eq_false_iff_ne]; rintro rfl; exact hl rfl
  simp only [T16Fb,EXA,seval,VX,neLen,hd,hb]
theorem r_awake18:cR 17 []=some (.bool true):=cR_closed 5000 (by kernel_rfl)
end Go.Ab
namespace Go.Ab
set_option maxHeartbeats 1000000
set_option maxRecDepth 100000
end Go.Ab
namespace Go.Ab
set_option maxHeartbeats 1000000
set_option maxRecDepth 100000
end Go.Ab
namespace Go.Ab
set_option maxHeartbeats 1000000
set_option maxRecDepth 100000
end Go.Ab
namespace Go.Ab
set_option maxHeartbeats 1000000
set_option maxRecDepth 100000
end Go.Ab
namespace Go.Ab
set_option maxHeartbeats 1000000
set_option maxRecDepth 100000
end Go.Ab
namespace Go.Ab
set_option maxHeartbeats 1000000
set_option maxRecDepth 100000
section
variable {e:Ev} {k:List Item} {σ:Store} {Q:Fr→Store→Prop}
end
end Go.Ab
namespace Go.Ab
set_option maxHeartbeats 1000000
set_option maxRecDepth 100000
end Go.Ab
namespace Go.Ab
set_option maxHeartbeats 1000000
set_option maxRecDepth 100000
end Go.Ab
namespace Go.Ab
set_option maxHeartbeats 1000000
set_option maxRecDepth 100000
end Go.Ab
namespace Go.Ab
set_option maxHeartbeats 1000000
set_option maxRecDepth 100000
end Go.Ab
namespace Go.Ab
set_option maxHeartbeats 1000000
set_option maxRecDepth 100000
end Go.Ab
namespace Go.Ab
set_option maxHeartbeats 1000000
set_option maxRecDepth 100000
end Go.Ab
namespace Go.Ab
set_option maxHeartbeats 1000000
set_option maxRecDepth 100000
end Go.Ab
namespace Go.Ab
set_option maxHeartbeats 1000000
set_option maxRecDepth 100000
end Go.Ab
namespace Go.Ab
set_option maxHeartbeats 1000000
def U1Fa:=J @F161_2.eq_1 (J @F161_19.eq_1 (J @F161_20.eq_1 (@F161.eq_1)))
set_option maxRecDepth 100000
theorem callS_ex {id:Nat} {F:IFunc} (hF:ipU id=some F) {first args caps:List AV} {σ:Store} {Q:AV→Store→Prop}
  (h:Ex ipU gU [.code F.body] (initFr (first ++args ++caps)) σ fun fr' σ1=>∃r,resAll fr' σ1 F.res=some r∧Q r σ1): ∃r σ',callS ipU gU (.fn id first caps) args σ=some (r,σ')∧Q r σ':=by
 obtain ⟨n,fr',σ1,h1,r,h2,h3⟩:=h
 exact ⟨r,σ1,callS_of hF (first:=first) (args:=args) (caps:=caps) ⟨n,fr',σ1,h1,h2,rfl⟩,h3⟩
theorem idx_mem {l:List Mem} {j:Nat} {e:Mem} {c:Option Nat} (h:l[j]? =some e):idxOf 6 none (.vsl (l.map memE) c) (.int .i64 (j:Int))=some (.vptr (memE e).cells 0):=idx_map (f:=memE) h (by simp [memE_cells])
theorem r_indexM (l:List Mem) (f:AV) (p:Mem→Bool) (hf:f.closed=true) (hfe:f.er=f) (hlen:l.length < big) (hp: ∀e∈l,callR ipU gU f [memE e]=some (.bool (p e))) :
  cR 161 [.vsl (l.map memE) none,f]=some (.int .i64 (firstFrom p l 0)):=by
 unfold big at hlen
 refine cR_of (F:=F161) rfl ?_
 simp only [F161_2,F161_19,F161,ex_loop,EXA,seval,VX]
 refine ex_while (S:=Nat) (fun j=> [(0, .vsl (l.map memE) none),(1,f),(7, .int .i64 l.length),(8, .int .i64 (j:Int))]) (fun _=> .empty) (fun j=>l.length - j) (fun j=>firstFrom p l j=firstFrom p l 0) ?_ 0 rfl
 intro b j hj ih
 by_cases hlt:j < l.length
 ·obtain ⟨v,hv⟩:=get_lt hlt
  have hidx:=idx_mem (c:=none) hv
  have hcall:=hp v (List.mem_of_getElem? hv)
  have hcond:=dlt hlt
  simp only [U1Fa,EXA,seval,VX,readAt_some,hcond,hidx,hf,hfe,hcall]
  split
  ·rename_i hpe
   rw [←hj,firstFrom_hit hv hpe]
  ·rename_i hpe
   refine ih (j+1) _ _ (by omega) ?_ ?_ rfl
   ·rw [←firstFrom_miss hv (by simpa using hpe)]; exact hj
   ·rw [wsucc hlt (by omega)]
    simp only [EXA,seval]
 ·have hcond:=dge (Nat.not_lt.1 hlt)
  simp only [U1Fa,EXA,seval,VX,hcond]
  rw [←hj,firstFrom_end (by omega)]
theorem rb_slp {σ:Store} {d b n sz:Nat} {cells rest:List AV} (h:σ.cells b=some (cells ++rest)) (h2:cells.length=n*sz) (hs:0 < sz) (hc:closedL cells=true) (ha:cells.all AV.notAgg=true) :
  rb σ (d+1) (.sl b 0 n sz none)=some (.vsl (chunks sz n cells) none):=by
 have ht:List.take (n*sz) (List.drop 0 (cells ++rest))=cells:=by rw [List.drop_zero,←h2,List.take_left]
 have e:rb σ (d+1) (.sl b 0 n sz none)=(match σ.cells b with
   | some cs=>
    if 0+n*sz≤cs.length∧0 < sz then
     match mapO (rb σ d) ((cs.drop 0).take (n*sz)) with
     | some cs'=>if cs'.all AV.notAgg then some (.vsl (chunks sz n cs') none) else none
     | none=>none
    else none
   | none=>none):=rfl
 rw [e,h]
 simp only
 rw [if_pos ⟨by rw [List.length_append]; omega,hs⟩,ht,mapO_closed' hc]
 simp only
 rw [if_pos ha]
def Rp {α:Type} (L:Lay α) (σ:Store) (v:AV) (l:List α):Prop:=(l= []∧(v= .nils∨v= .vsl [] (some 0)))∨∃b rest,v= .sl b 0 l.length L.sz none∧σ.get b=some (.own (L.cells l ++rest))
theorem Rp.rbD {α:Type} {L:Lay α} {σ:Store} {v:AV} {l:List α} (h:Rp L σ v l) (d:Nat): ∃v',Go.Ab.rb σ (d+1) v=some v'∧v'.er= .vsl (l.map L.f) none:=by
 rcases h with ⟨rfl,rfl | rfl⟩ | ⟨b,rest,rfl,h⟩
 ·exact ⟨_,rfl,by simp only [AV.er]; rfl⟩
 ·exact ⟨_,rb_closed' rfl,by simp only [AV.er,erL]; rfl⟩
 ·refine ⟨_,rb_slp (cells:=L.cells l) (rest:=rest) (by simp [Store.cells,h]) (L.cells_len l) L.pos (L.cells_closed l) (one_notAgg (L.cells_one l)),?_⟩
  rw [L.chunks]; simp only [AV.er,L.erMap]
theorem RbL.rp {α:Type} {L:Lay α} {σ:Store} {d:Nat} {v:AV} {l:List α} {cs cs':List AV} (hv:Rp L σ v l) (h:RbL σ (d+1) cs cs'):RbL σ (d+1) (v ::cs) (.vsl (l.map L.f) none ::cs'):=by
 obtain ⟨m,h1,h2⟩:=h
 obtain ⟨v',h3,h4⟩:=hv.rbD d
 exact ⟨v' ::m,by simp only [mapO,h3,h1],by simp only [erL,h2,h4]⟩
theorem callP_own {α:Type} {L:Lay α} {σ:Store} {b:Nat} {l:List α} {st:Bool} {f:Nat} {x r:AV} (h:σ.cells b=some (L.cells l)) (hx:x.closed=true) (hxe:x.er=x) (hc:cR f [.vsl (l.map L.f) none,x]=some r) (hr:r.flat=true) :
  callP ipU gU st (.fn f [] []) [.sl b 0 l.length L.sz none,x] σ=some (r,σ):=by
 obtain ⟨v',h1,h2⟩ : ∃v',rb σ (23+1) (.sl b 0 l.length L.sz none)=some v'∧v'.er= .vsl (l.map L.f) none:=by
  refine ⟨_,rb_sl (d:=23) h (L.cells_len l) L.pos (L.cells_closed l) (one_notAgg (L.cells_one l)),?_⟩
  rw [L.chunks]; simp only [AV.er,L.erMap]
 refine callP_flat (args':= [v',x]) rfl ?_ ?_ hr
 ·have h1':rb σ rbDepth (.sl b 0 l.length L.sz none)=some v':=h1
  simp only [mapO,h1',rb_closed' hx]
 ·simp only [erL,h2,hxe]; exact hc
theorem splice_row {α:Type} (L:Lay α) (pre post:List α) (x y:α) (rest:List AV):splice (L.cells (pre ++x ::post) ++rest) (pre.length*L.sz) (L.f y).cells=L.cells (pre ++y ::post) ++rest:=by
 unfold splice
 have h1:=L.cells_len pre
 have hx:=L.len x
 have hy:=L.len y
 rw [L.cells_append,L.cells_cons,L.cells_append,L.cells_cons,←h1,hy]
 simp only [List.append_assoc]
 rw [List.take_left,List.drop_append,List.drop_of_length_le (by omega),Nat.add_sub_cancel_left,List.nil_append,←hx,List.drop_left]
theorem read_row {α:Type} (L:Lay α) (hs:L.sz≠1) (pre post:List α) (x:α) (rest:List AV):readAt (L.cells (pre ++x ::post) ++rest) (pre.length*L.sz) (some L.sz)=some (L.f x):=by
 have hag:=L.agg x
 rw [if_neg hs] at hag
 obtain ⟨cs,hcs⟩:=hag
 have h1:=L.cells_len pre
 have hx:=L.len x
 rw [readAt_some,L.cells_append,L.cells_cons,←h1]
 simp only [List.append_assoc]
 rw [if_pos (by simp; omega),List.drop_left,←hx,List.take_left,hcs]
 rfl
end Go.Ab
namespace Go.Ab
set_option maxHeartbeats 1000000
set_option maxRecDepth 100000
def sh6 (x:Int):Int:=IntKind.wrap .u64 (x*2 ^ (min (6:Int).toNat (IntKind.bits .u64)))
theorem shl_6 (x:Int):shiftInt .shl .u64 x 6=some (.int .u64 (sh6 x)):=rfl
def shrN (x:Int) (n:Nat):Int:=x.fdiv (2 ^ (min (n:Int).toNat (IntKind.bits .u64)))
theorem shr_N (x:Int) (n:Nat):shiftInt .shr .u64 x (n:Int)=some (.int .u64 (shrN x n)):=by
 unfold shiftInt
 rw [if_neg (by omega)]; rfl
theorem and_low {left:Int} (h:0≤left) (r:Nat) (hr:r≤6):IntKind.wrap .u64 ((BitVec.ofInt (IntKind.bits .u64) left &&& BitVec.ofInt (IntKind.bits .u64) (2 ^ r - 1)).toNat:Int)=left % 2 ^ r:=by
 obtain ⟨m,rfl⟩:=Int.eq_ofNat_of_zero_le h
 have hp:2 ^ r≤64:=by
  have:=Nat.pow_le_pow_right (n:=2) (by decide) hr
  simpa using this
 have hp0:0 < 2 ^ r:=Nat.two_pow_pos r
 have e0:((2:Int) ^ r - 1)=((2 ^ r - 1:Nat):Int):=by
  rw [Int.ofNat_sub (by omega)]; simp
 have e1:(BitVec.ofInt (IntKind.bits .u64) (m:Int) &&& BitVec.ofInt (IntKind.bits .u64) (2 ^ r - 1)).toNat=m % 2 ^ r:=by
  rw [e0]
  show (BitVec.ofInt 64 (m:Int) &&& BitVec.ofInt 64 ((2 ^ r - 1:Nat):Int)).toNat=_
  rw [BitVec.toNat_and,BitVec.ofInt_natCast,BitVec.ofInt_natCast,BitVec.toNat_ofNat,BitVec.toNat_ofNat,Nat.mod_eq_of_lt (show 2 ^ r - 1 < 2 ^ 64 by omega),Nat.and_two_pow_sub_one_eq_mod]
  exact Nat.mod_mod_of_dvd m (Nat.pow_dvd_pow 2 (by omega))
 rw [e1]
 have:m % 2 ^ r < 64:=Nat.lt_of_lt_of_le (Nat.mod_lt _ hp0) hp
 have e2:((m:Int) % 2 ^ r)=((m % 2 ^ r:Nat):Int):=by simp
 rw [e2]
 generalize m % 2 ^ r=x at this
 simp only [IntKind.wrap,IntKind.bits,IntKind.signed,Bool.false_eq_true,if_false,Bool.false_and]
 omega
structure GSt where
 j:Nat
 ob:Option Nat
 out:List Int
 left:Int
 n:Nat
theorem RbL.tup {σ:Store} {cs cs':List AV} (h:RbL σ 23 cs cs'):rbE σ (.tup cs)=some (.tup cs'):=by
 obtain ⟨m,h1,h2⟩:=h
 unfold rbE
 by_cases hc:(AV.tup cs).closed=true
 ·have:m=cs:=by
   have hm:=mapO_closed' (σ:=σ) (d:=23) (show closedL cs=true by simpa [AV.closed] using hc)
   rw [h1] at hm
   exact Option.some.inj hm
  subst this
  rw [rb_closed' hc,Option.map_some,AV.er,h2]
 ·have e:rb σ rbDepth (.tup cs)=some (.tup m):=by
   show rb σ (23+1) (.tup cs)=_
   rw [rb,if_neg hc,h1]
  rw [e,Option.map_some,AV.er,h2]
theorem Own.gr {α:Type} {L:Lay α} {σ:Store} {ob:Option Nat} {l:List α} (h:Own L σ ob l):Gr L σ (slOf L.sz ob l.length) l:=by
 cases ob with
 | none=>exact .inl ⟨rfl,List.eq_nil_of_length_eq_zero h.1⟩
 | some b=>exact Gr.own h
end Go.Ab
namespace Go.Ab
set_option maxHeartbeats 1000000
def B1Fa:=J @F163_5.eq_1 (J @F163_16.eq_1 (J @F163_17.eq_1 (@F163.eq_1)))
def B1Fc:=J @F164_4.eq_1 (J @F164_37.eq_1 (J @F164_38.eq_1 (J @F164_52.eq_1 (J @F164_53.eq_1 (@F164.eq_1)))))
def B1Fe:=J @F164_4.eq_1 (J @F164_37.eq_1 (J @F164_38.eq_1 (J @F164_52.eq_1 (@F164.eq_1))))
def B1Ff:= @F219.eq_1
set_option maxRecDepth 100000
theorem signS2_all:((List.range 64).all fun j=>isU8 ((scall ipU (run ipU gU 300) (.fn 167 [] []) [aStd, .int .u8 j] .empty).bind (fun x=>rbE x.2 x.1)) (sgS j))=true:=by kernel_rfl
theorem r_signS {j:Nat} (h:j < 64):cR 167 [aStd, .int .u8 j]=some (.int .u8 (sgS j)):=
 cR_closed 300 (isU8_eq (List.all_eq_true.1 signS2_all j (List.mem_range.2 h)))
def nsF (c:Nat):Nat→Nat→Nat
 | 0,_=>64
 | n+1,j=>if sgS j=c then j else nsF c n (j+1)
def numS (c:UInt8):Nat:=nsF c.toNat 64 0
theorem nsF_le (c:Nat): ∀n j:Nat,j+n=64→nsF c n j≤64
 | 0,j,h=>Nat.le_refl _
 | n+1,j,h=>by
  unfold nsF
  split
  ·omega
  ·exact nsF_le c n (j+1) (by omega)
theorem numS_le (c:UInt8):numS c≤64:=nsF_le _ 64 0 rfl
theorem ns_hit {c j:Nat} (h:sgS j=c) (hj:j < 64):nsF c (64 - j) j=j:=by
 obtain ⟨n,hn⟩ : ∃n,64 - j=n+1:=⟨63 - j,by omega⟩
 rw [hn]; unfold nsF; rw [if_pos h]
theorem ns_miss {c j:Nat} (h: ¬sgS j=c) (hj:j < 64):nsF c (64 - j) j=nsF c (64 - (j+1)) (j+1):=by
 obtain ⟨n,hn⟩ : ∃n,64 - j=n+1:=⟨63 - j,by omega⟩
 rw [hn,show 64 - (j+1)=n by omega]
 show (if sgS j=c then j else nsF c n (j+1))=_
 rw [if_neg h]
theorem ns_end {c j:Nat} (hj:64≤j):nsF c (64 - j) j=64:=by rw [show 64 - j=0 by omega]; rfl
theorem r_numS64 (c:UInt8):cR 163 [aStd, .int .u8 c.toNat]=some (.int .u8 (numS c)):=by
 refine cR_of (F:=F163) rfl ?_
 unfold aStd
 simp only [F163_5,F163_16,F163,ex_loop,EXA,seval]
 refine ex_while (S:=Nat) (fun j=> [(1, .int .u8 c.toNat),(2, .vptr [.int .u8 43, .int .u8 47] 0),(5, .int .u8 (j:Int))]) (fun _=> .empty) (fun j=>64 - j) (fun j=>nsF c.toNat (64 - j) j=numS c) ?_ 0 rfl
 intro b j hj ih
 by_cases hlt:j < 64
 ·have hcall:=r_signS hlt
  unfold aStd at hcall
  have hcond:decide ((j:Int) < 64)=true:=by simp; omega
  have hw:=wsucc8 hlt
  simp only [B1Fa,EXA,seval,readAt_some,hcond,hcall]
  by_cases hs:sgS j=c.toNat
  ·have hb:((sgS j:Int) == (c.toNat:Int))=true:=by simp [hs]
   simp only [B1Fa,EXA,seval,readAt_some,hb]
   rw [←hj,ns_hit hs hlt]
  ·have hb:((sgS j:Int) == (c.toNat:Int))=false:=by simp; omega
   simp only [B1Fa,EXA,seval,readAt_some,hb,hw]
   exact ih (j+1) _ _ (by omega) (by rw [←ns_miss hs hlt]; exact hj) rfl rfl
 ·have hcond:decide ((j:Int) < 64)=false:=by simp; omega
  simp only [B1Fa,EXA,seval,hcond]
  rw [←hj,ns_end (by omega)]; rfl
def gx:Nat→Nat→List Nat→Option (List UInt8)
 | n,c, []=>if n < 6∧c=0 then some [] else none
 | n,c,v ::vs=>if v < 64 then (if 2≤n then (gx (n - 2) ((c*64+v) % 2 ^ (n - 2)) vs).map (UInt8.ofNat ((c*64+v) / 2 ^ (n - 2)) :: ·) else gx (n+6) (c*64+v) vs) else none
def getB (s:Bs):Option (List UInt8):=gx 0 0 (s.map numS)
def getE:Option (List UInt8)→AV
 | some l=> .tup [bsE l, .int .i64 0]
 | none=> .tup [.vsl [] none, .int .i64 2]
theorem shl_or12 (m:Nat) {v:Nat} (hv:v < 64) :
  ∃l':Nat,IntKind.wrap .u64 ((BitVec.ofInt (IntKind.bits .u64) (sh6 (m:Int)) ||| BitVec.ofInt (IntKind.bits .u64) (IntKind.wrap .u64 (v:Int))).toNat:Int)=(l':Int)∧l' % 4096=m % 64*64+v:=by
 refine ⟨m*64 % 2 ^ 64+v,?_,by omega⟩
 have e1:sh6 (m:Int)=((m*64 % 2 ^ 64:Nat):Int):=by
  simp [sh6,IntKind.wrap,IntKind.bits,IntKind.signed]
 have e2:(IntKind.wrap .u64 (v:Int))=((v:Nat):Int):=by
  simp [IntKind.wrap,IntKind.bits,IntKind.signed]; omega
 rw [e1,e2]
 have e3:(BitVec.ofInt (IntKind.bits .u64) ((m*64 % 2 ^ 64:Nat):Int) ||| BitVec.ofInt (IntKind.bits .u64) ((v:Nat):Int)).toNat=(m*64 % 2 ^ 64) ||| v:=by
  show (BitVec.ofInt 64 ((m*64 % 2 ^ 64:Nat):Int) ||| BitVec.ofInt 64 ((v:Nat):Int)).toNat=_
  rw [BitVec.toNat_or,BitVec.ofInt_natCast,BitVec.ofInt_natCast,BitVec.toNat_ofNat,BitVec.toNat_ofNat,Nat.mod_mod,Nat.mod_eq_of_lt (show v < 2 ^ 64 by omega)]
 rw [e3]
 have e4:((m*64 % 2 ^ 64) ||| v)=m*64 % 2 ^ 64+v:=by
  rw [show m*64 % 2 ^ 64=(m % 2 ^ 58) <<< 6 by rw [Nat.shiftLeft_eq]; omega,←Nat.shiftLeft_add_eq_or_of_lt (by omega)]
 rw [e4]
 simp only [IntKind.wrap,IntKind.bits,IntKind.signed,Bool.false_eq_true,if_false,Bool.false_and]
 omega
theorem shrN_nat (m k:Nat) (hk:k≤64):shrN (m:Int) k=((m / 2 ^ k:Nat):Int):=by
 unfold shrN
 rw [show min ((k:Nat):Int).toNat (IntKind.bits .u64)=k from by rw [Int.toNat_natCast]; exact Nat.min_eq_left hk,Int.fdiv_eq_ediv_of_nonneg _ (by exact Int.le_of_lt (Int.pow_pos (by decide)))]
 simp
theorem drop_get {α:Type} {l:List α} {j:Nat} {c:α} (h:l[j]? =some c):l.drop j=c ::l.drop (j+1):=by
 obtain ⟨h1,h2⟩:=List.getElem?_eq_some_iff.1 h
 rw [List.drop_eq_getElem_cons h1,h2]
structure HSt where
 j:Nat
 ob:Option Nat
 out:List UInt8
 left:Nat
 n:Nat
def fH:AV:= .fn 163 [aStd] []
theorem callH (c:UInt8) (σ:Store):callP ipU gU false fH [.int .u8 c.toNat] σ=some (.int .u8 (numS c),σ):=
 callP_flat (args':= [.int .u8 c.toNat]) rfl rfl (by have h:=r_numS64 c; unfold cR at h; exact h) rfl
def HInv (s:Bs) (t:HSt) (σ:Store):Prop:=t.j≤s.length∧(t.n=0∨t.n=2∨t.n=4∨t.n=6)∧t.out.length≤t.j∧OwnSl σ 1 t.ob t.out.length (u8cells t.out)∧
 (gx t.n (t.left % 2 ^ t.n) ((s.drop t.j).map numS)).map (t.out ++ ·)=getB s
def HRes (s:Bs) (r:AV) (σ:Store):Prop:=rbE σ r=some (getE (getB s))
theorem h_err {s:Bs} {σ:Store} (h:getB s=none):HRes s (.tup [.nils, .int .i64 2]) σ:=by rw [HRes,h]; rfl
theorem rbE_tup3 {σ:Store} {ob:Option Nat} {l:List UInt8} {e:Int} (h:OwnSl σ 1 ob l.length (u8cells l)):rbE σ (.tup [slOf 1 ob l.length, .int .i64 e])=some (.tup [bsE l, .int .i64 e]):=by
 cases ob with
 | none=>
  obtain ⟨h1,h2⟩:=h
  have:l= []:=List.eq_nil_of_length_eq_zero h1
  subst this; rfl
 | some b=>
  obtain ⟨h1,h2,h3,h4⟩:=h
  have hb:look σ.m b=some (.own (u8cells l)):=h1
  have k1:rb σ 23 (slOf 1 (some b) l.length)=some (bsE l):=by
   show rb σ 23 (.sl b 0 l.length 1 _)=_
   rw [show 23=22+1 from rfl,rb_sl1 hb (by rw [u8_len]; omega) (closed_u8 _) (notAgg_u8 _),List.drop_zero,List.take_of_length_le (by rw [u8_len]; omega)]
  have k2:rb σ 23 (.int .i64 e)=some (.int .i64 e):=rb_closed' rfl
  have nc:(AV.tup [slOf 1 (some b) l.length, .int .i64 e]).closed=false:=rfl
  have e1:rb σ rbDepth (.tup [slOf 1 (some b) l.length, .int .i64 e])=some (.tup [bsE l, .int .i64 e]):=by
   show rb σ (23+1) _=_
   rw [rb,if_neg (by rw [nc]; decide)]
   simp only [mapO,k1,k2]
  unfold rbE
  rw [e1]
  simp only [Option.map_some,AV.er,erL_cons,er_u8,erL_nil]
theorem gets_ex (s:Bs) (hb:s.length < lim): ∃r σ',callS ipU gU (.fn 164 [] []) [.str s,fH] .empty=some (r,σ')∧HRes s r σ':=by
 unfold lim at hb
 refine callS_ex (F:=F164) rfl (first:= []) (caps:= []) ?_
 simp only [F164_4,F164_37,F164_52,F164,ex_loop,EXA,seval,VX]
 refine ex_whileI (S:=HSt) (fun t=> [(0, .str s),(1,fH),(6,slOf 1 t.ob t.out.length),(7, .int .u64 (t.left:Int)),(8, .int .u64 (t.n:Int)),(12, .int .i64 s.length),(13, .int .i64 (t.j:Int))]) (fun t=>s.length - t.j) (HInv s) ?_ ⟨0,none, [],0,0⟩ .empty ⟨by simp, .inl rfl,by simp,⟨rfl,rfl⟩,by simp [getB]⟩
 rintro b ⟨j,ob,out,left,n⟩ σ ⟨h1,h2,h3,h4,h6⟩ ih
 simp only at h1 h2 h3 h4 h6
 by_cases hlt:j < s.length
 ·obtain ⟨c,hc⟩:=get_lt hlt
  have hcond:=dlt hlt
  have hbyte:=byte_get hc
  have hcall:=callH c σ
  have hw:=wsucc hlt (by omega)
  have hle:=numS_le c
  have hdrop:s.drop j=c ::s.drop (j+1):=drop_get hc
  rw [hdrop,List.map_cons] at h6
  by_cases hv:numS c=64
  ·have he:((numS c:Int) == 64)=true:=by simp [hv]
   have hbad:getB s=none:=by rw [←h6,gx,if_neg (by omega)]; rfl
   simp only [B1Fe,EXA,seval,VX,hcond,hbyte,hcall,he]
   exact ⟨_,rfl,h_err hbad⟩
  ·have he:((numS c:Int) == 64)=false:=by simp; omega
   obtain ⟨l',hl',hl6⟩:=shl_or12 left (v:=numS c) (by omega)
   have hw8:IntKind.wrap .u64 ((n:Int)+6)=((n+6:Nat):Int):=by
    have:n≤6:=by omega
    simp [IntKind.wrap,IntKind.bits,IntKind.signed]; omega
   rw [gx,if_pos (by omega)] at h6
   simp only [B1Fe,EXA,seval,VX,hcond,hbyte,hcall,he,shl_6,hl',hw8,hw]
   by_cases h8:2≤n
   ·rw [if_pos h8] at h6
    have hg:decide (((n+6:Nat):Int)≥8)=true:=by simp; omega
    have hw9:IntKind.wrap .u64 (((n+6:Nat):Int) - 8)=((n - 2:Nat):Int):=by
     have:n≤6:=by omega
     simp [IntKind.wrap,IntKind.bits,IntKind.signed]; omega
    have hz:IntKind.wrap .u8 (shrN l' (n - 2))=((UInt8.ofNat (((left % 2 ^ n)*64+numS c) / 2 ^ (n - 2))).toNat:Int):=by
     rw [UInt8.toNat_ofNat',shrN_nat _ _ (by omega),wrap8]
     rcases (by omega:n=2∨n=4∨n=6) with hn | hn | hn <;> subst hn <;> simp only [Nat.reduceSub,Nat.reducePow] <;> omega
    have hc2:l' % 2 ^ (n - 2)=((left % 2 ^ n)*64+numS c) % 2 ^ (n - 2):=by
     rcases (by omega:n=2∨n=4∨n=6) with hn | hn | hn <;> subst hn <;> simp only [Nat.reduceSub,Nat.reducePow] <;> omega
    obtain ⟨σ2,happ,hown⟩:=own_push1 (c:=UInt8.ofNat (((left % 2 ^ n)*64+numS c) / 2 ^ (n - 2))) h4 (by omega)
    generalize UInt8.ofNat (((left % 2 ^ n)*64+numS c) / 2 ^ (n - 2))=z at*
    have hlo:lenOf (.vsl [AV.int .u8 (z.toNat:Int)] (some 1))=some 1:=rfl
    have hro:rowOf σ 1 (.vsl [AV.int .u8 (z.toNat:Int)] (some 1))=some [AV.int .u8 (z.toNat:Int)]:=rfl
    simp only [B1Fe,EXA,seval,VX,hg,hw9,hw,shr_N,hz,hlo,hro,happ]
    refine ih ⟨j+1,some σ.next,out ++ [z],l',n - 2⟩ _ _ (by simp only; omega) ⟨hlt,by simp only; omega,by simp only [List.length_append,List.length_cons,List.length_nil]; omega,hown,?_⟩ rfl
    simp only
    rw [hc2,←h6,Option.map_map]
    congr 1
    funext x
    simp
   ·rw [if_neg h8] at h6
    have hn0:n=0:=by omega
    subst hn0
    have hg:decide (((0+6:Nat):Int)≥8)=false:=rfl
    simp only [B1Fe,EXA,seval,VX,hg,hw]
    refine ih ⟨j+1,ob,out,l',6⟩ _ _ (by simp only; omega) ⟨hlt, .inr (.inr (.inr rfl)),by simp only; omega,h4,?_⟩ rfl
    simp only
    have hc0:l' % 2 ^ 6=left % 2 ^ 0*64+numS c:=by simp only [Nat.reducePow]; omega
    rw [hc0]; exact h6
 ·have hcond:=dge (Nat.not_lt.1 hlt)
  have hj:j=s.length:=by omega
  subst hj
  rw [List.drop_length,List.map_nil,gx] at h6
  simp only [B1Fe,EXA,seval,VX,hcond]
  rcases h2 with hn | hn | hn | hn <;> subst hn
  ·have hg:decide (((0:Nat):Int)≥6)=false:=rfl
   have hs:shiftInt .shl .u64 1 ((0:Nat):Int)=some (.int .u64 1):=rfl
   have hs2:shiftInt .shl .u64 1 0=some (.int .u64 1):=rfl
   have hm:IntKind.wrap .u64 0=0:=rfl
   have hd:(left:Int) % 2 ^ 0=((left % 1:Nat):Int):=by simp
   have ha:IntKind.wrap .u64 ((BitVec.ofInt (IntKind.bits .u64) (left:Int) &&& BitVec.ofInt (IntKind.bits .u64) 0).toNat:Int)=((left % 1:Nat):Int):=(and_low (Int.natCast_nonneg left) 0 (by decide)).trans hd
   by_cases hz:left % 1=0
   ·have hne:(((left % 1:Nat):Int) != 0)=false:=by rw [hz]; rfl
    rw [if_pos ⟨by decide,hz⟩] at h6
    simp only [B1Fc,EXA,seval,VX,hg,hs,hs2,hm,ha,hne]
    refine ⟨_,rfl,?_⟩
    rw [HRes,←h6]
    simp only [Option.map_some,List.append_nil,getE]
    exact rbE_tup3 h4
   ·have hne:(((left % 1:Nat):Int) != 0)=true:=by rw [bne_iff_ne]; omega
    rw [if_neg (fun c=>hz c.2)] at h6
    simp only [B1Fc,EXA,seval,VX,hg,hs,hs2,hm,ha,hne]
    exact ⟨_,rfl,h_err h6.symm⟩
  ·have hg:decide (((2:Nat):Int)≥6)=false:=rfl
   have hs:shiftInt .shl .u64 1 ((2:Nat):Int)=some (.int .u64 4):=rfl
   have hs2:shiftInt .shl .u64 1 2=some (.int .u64 4):=rfl
   have hm:IntKind.wrap .u64 3=3:=rfl
   have hd:(left:Int) % 2 ^ 2=((left % 4:Nat):Int):=by simp
   have ha:IntKind.wrap .u64 ((BitVec.ofInt (IntKind.bits .u64) (left:Int) &&& BitVec.ofInt (IntKind.bits .u64) 3).toNat:Int)=((left % 4:Nat):Int):=(and_low (Int.natCast_nonneg left) 2 (by decide)).trans hd
   by_cases hz:left % 4=0
   ·have hne:(((left % 4:Nat):Int) != 0)=false:=by rw [hz]; rfl
    rw [if_pos ⟨by decide,hz⟩] at h6
    simp only [B1Fc,EXA,seval,VX,hg,hs,hs2,hm,ha,hne]
    refine ⟨_,rfl,?_⟩
    rw [HRes,←h6]
    simp only [Option.map_some,List.append_nil,getE]
    exact rbE_tup3 h4
   ·have hne:(((left % 4:Nat):Int) != 0)=true:=by rw [bne_iff_ne]; omega
    rw [if_neg (fun c=>hz c.2)] at h6
    simp only [B1Fc,EXA,seval,VX,hg,hs,hs2,hm,ha,hne]
    exact ⟨_,rfl,h_err h6.symm⟩
  ·have hg:decide (((4:Nat):Int)≥6)=false:=rfl
   have hs:shiftInt .shl .u64 1 ((4:Nat):Int)=some (.int .u64 16):=rfl
   have hs2:shiftInt .shl .u64 1 4=some (.int .u64 16):=rfl
   have hm:IntKind.wrap .u64 15=15:=rfl
   have hd:(left:Int) % 2 ^ 4=((left % 16:Nat):Int):=by simp
   have ha:IntKind.wrap .u64 ((BitVec.ofInt (IntKind.bits .u64) (left:Int) &&& BitVec.ofInt (IntKind.bits .u64) 15).toNat:Int)=((left % 16:Nat):Int):=(and_low (Int.natCast_nonneg left) 4 (by decide)).trans hd
   by_cases hz:left % 16=0
   ·have hne:(((left % 16:Nat):Int) != 0)=false:=by rw [hz]; rfl
    rw [if_pos ⟨by decide,hz⟩] at h6
    simp only [B1Fc,EXA,seval,VX,hg,hs,hs2,hm,ha,hne]
    refine ⟨_,rfl,?_⟩
    rw [HRes,←h6]
    simp only [Option.map_some,List.append_nil,getE]
    exact rbE_tup3 h4
   ·have hne:(((left % 16:Nat):Int) != 0)=true:=by rw [bne_iff_ne]; omega
    rw [if_neg (fun c=>hz c.2)] at h6
    simp only [B1Fc,EXA,seval,VX,hg,hs,hs2,hm,ha,hne]
    exact ⟨_,rfl,h_err h6.symm⟩
  ·have hg:decide (((6:Nat):Int)≥6)=true:=rfl
   rw [if_neg (by omega)] at h6
   simp only [B1Fc,EXA,seval,VX,hg]
   exact ⟨_,rfl,h_err h6.symm⟩
theorem r_getS64 (s:Bs) (hb:s.length < lim):cR 164 [.str s,fH]=some (getE (getB s)):=by
 obtain ⟨r,σ',h1,h2⟩:=gets_ex s hb
 show callR ipU gU (.fn 164 [] []) _=_
 unfold callR
 rw [h1]; exact h2
theorem r_bGet (s:Bs) (hb:s.length < lim):cR 219 [.str s]=some (getE (getB s)):=by
 have h1:=r_getS64 s hb
 have hg:gU 4= [.int .u8 43, .int .u8 47]:=rfl
 simp only [fH,aStd] at h1
 refine cR_of (F:=F219) rfl ?_
 cases h:getB s with
 | none=>
  rw [h] at h1
  simp only [getE] at h1 ⊢
  simp only [B1Ff,EXA,seval,VX,readAt_some,hg,h1]
 | some l=>
  rw [h] at h1
  simp only [getE,bsE] at h1 ⊢
  simp only [B1Ff,EXA,seval,VX,readAt_some,hg,h1,closed_u8,er_u8]
end Go.Ab
namespace Go.Ab
set_option maxHeartbeats 1000000
def U2Fa:=J @F155_12.eq_1 (J @F155_28.eq_1 (J @F155_29.eq_1 (@F155.eq_1)))
def U2Fb:=J @F155_12.eq_1 (J @F155_28.eq_1 (@F155.eq_1))
set_option maxRecDepth 100000
abbrev zMem:List AV:= [.str [], .int .i64 0, .int .i64 0, .str [], .nils, .nils]
structure DelI (l:List Mem) (p:Mem→Bool) (b0:Nat) (σ0:Store) (j:Nat) (kept junk:List Mem) (σ:Store):Prop where
 row:look σ.m b0=some (.own (LMem.cells (kept ++junk ++l.drop j)))
 len:kept.length+junk.length=j
 le:j≤l.length
 kept_eq:kept=(l.take j).filter fun x=> !p x
 nx:σ0.next≤σ.next
 old: ∀b,b < σ0.next→b≠b0→σ.get b=σ0.get b
 b0:b0 < σ0.next
theorem slice_tail {b n i:Nat} (h:i≤n):slice3 6 (.sl b 0 n 6 none) (some (some (i:Int))) (some none) (some none)=some (.sl b (i*6) (n - i) 6 none):=by
 have hb:bounds n (some (i:Int)) none=some (i,n):=by simp [bounds]; omega
 simp only [slice3,sliceOf,hb,if_true,Option.map_none,Nat.zero_add]
theorem slice_head {b n i:Nat} (h:i≤n):slice3 6 (.sl b 0 n 6 none) (some none) (some (some (i:Int))) (some none)=some (.sl b 0 i 6 none):=by
 have hb:bounds n none (some (i:Int))=some (0,i):=by simp [bounds]; omega
 simp only [slice3,sliceOf,hb,if_true,Option.map_none,Nat.zero_add,Nat.zero_mul,Nat.sub_zero]
theorem idx_sl {b n j:Nat} {σ:Store} (h:j < n):idxOf 6 none (.sl b 0 n 6 none) (.int .i64 (j:Int))=some (.ptr b (j*6)):=by
 have h2:((j:Int) < (n:Int)):=by omega
 simp [Go.Ab.idxOf,h2]
theorem del_write (kept junk D:List Mem) (x:Mem): ∃junk',splice (LMem.cells (kept ++junk ++x ::D)) (kept.length*6) (memE x).cells=LMem.cells ((kept ++ [x]) ++junk' ++D)∧junk'.length=junk.length:=by
 cases junk with
 | nil=>
  refine ⟨[],?_,rfl⟩
  have:splice (LMem.cells (kept ++x ::D) ++ []) (kept.length*6) (memE x).cells=LMem.cells (kept ++x ::D) ++ []:=splice_row LMem kept D x x []
  simpa using this
 | cons y junk=>
  refine ⟨junk ++ [x],?_,by simp⟩
  have:splice (LMem.cells (kept ++y ::(junk ++x ::D)) ++ []) (kept.length*6) (memE x).cells=LMem.cells (kept ++x ::(junk ++x ::D)) ++ []:=splice_row LMem kept (junk ++x ::D) y x []
  simpa using this
theorem del_loop {l:List Mem} {f:AV} {p:Mem→Bool} {b0:Nat} {σ0:Store} {k:List Item} {Q:Fr→Store→Prop} (hf:f.closed=true) (hfe:f.er=f) (hlen:l.length < lim) (hp: ∀e∈l,callR ipU gU f [memE e]=some (.bool (p e)))
  {j:Nat} {kept junk:List Mem} {σ:Store} (h:DelI l p b0 σ0 j kept junk σ)
  (hk: ∀(kept junk:List Mem) (σ:Store) (fr:Fr),DelI l p b0 σ0 l.length kept junk σ→(look fr 0).getD .undef= .sl b0 0 l.length 6 none→(look fr 5).getD .undef= .int .i64 (kept.length:Int)→Ex ipU gU k fr σ Q) :
  Ex ipU gU (.code F155_29 :: .inLoop [0,1,5,6] F155_29 :: .inBlock 0 ::k) [(0, .sl b0 0 l.length 6 none),(1,f),(5, .int .i64 (kept.length:Int)),(6, .int .i64 (j:Int))] σ Q:=by
 unfold lim at hlen
 refine ex_whileI (S:=Nat×List Mem×List Mem) (fun s=> [(0, .sl b0 0 l.length 6 none),(1,f),(5, .int .i64 (s.2.1.length:Int)),(6, .int .i64 (s.1:Int))]) (fun s=>l.length - s.1)
  (fun s σ=>DelI l p b0 σ0 s.1 s.2.1 s.2.2 σ) ?_ (j,kept,junk) σ h
 rintro b ⟨j,kept,junk⟩ σ h ih
 simp only at h ih ⊢
 have hb0:=h.b0
 have hnx:=h.nx
 have hne:(σ.next=b0)=False:=by simp; omega
 by_cases hlt:j < l.length
 ·obtain ⟨x,hx⟩:=get_lt hlt
  have hcond:=dlt hlt
  have hrow:=h.row
  have hpx:=hp x (List.mem_of_getElem? hx)
  rw [drop_cons hx] at hrow
  have hkl:kept.length≤j:=by have:=h.len; omega
  have hidx:=idx_sl (b:=b0) (σ:=σ) hlt
  have hidx2:=idx_sl (b:=b0) (n:=l.length) (σ:=σ) (j:=kept.length) (by omega)
  have hread:readAt (LMem.cells (kept ++junk ++x ::l.drop (j+1))) (j*6) (some 6)=some (memE x):=by
   have:=read_row LMem (by simp [LMem]) (kept ++junk) (l.drop (j+1)) x []
   have hl:(kept ++junk).length=j:=by simp; exact h.len
   rw [hl] at this
   simpa [LMem] using this
  have hw:=wsucc hlt (by omega)
  have hw2:=wsucc (j:=kept.length) (n:=l.length) (by omega) (by omega)
  obtain ⟨junk',hspl,hjl⟩:=del_write kept junk (l.drop (j+1)) x
  have hcl:(memE x).cells.length=6:=by simp [memE_cells]
  have hle:kept.length*6+6≤(LMem.cells (kept ++junk ++x ::l.drop (j+1))).length:=by
   rw [LMem.cells_len]
   have:(kept ++junk ++x ::l.drop (j+1)).length=l.length:=by simp; have:=h.len; omega
   rw [this]
   show kept.length*6+6≤l.length*6
   omega
  have hone:(memE x).cells.all AV.one=true:=LMem.one x
  have htk:(l.take (j+1)).filter (fun x=> !p x)=kept ++(if p x then [] else [x]):=by
   rw [List.take_add_one,hx,List.filter_append,h.kept_eq]
   cases hpx':p x <;> simp [hpx']
  have hzl:(6:Nat)≤ [AV.str [],AV.int .i64 0,AV.int .i64 0,AV.str [],AV.nils,AV.nils].length:=by simp
  have hspl0:splice [AV.str [],AV.int .i64 0,AV.int .i64 0,AV.str [],AV.nils,AV.nils] 0 (memE x).cells=(memE x).cells:=by simp [splice,memE_cells]
  cases hpe:p x with
  | true=>
   rw [hpe] at hpx
   simp only [U2Fa,EXA,seval,VX,readAt_some,hcond,hidx,hrow,hread,hf,hfe,hpx,hw,hne]
   refine ih (j+1,kept,junk ++ [x]) _ _ (by simp; omega) ⟨?_,by have:=h.len; simp; omega,hlt,?_,by show σ0.next≤σ.next+1; omega,?_,hb0⟩ (by simp only [EXA,seval])
   ·show look ((σ.next,_) ::(σ.next,_) ::σ.m) b0=_
    simp only [look,hne,if_false,hrow]
    simp
   ·simp only [htk,hpe,if_true,List.append_nil]
   ·intro b hb hbn
    show look ((σ.next,_) ::(σ.next,_) ::σ.m) b=_
    have hnb:(σ.next=b)=False:=by simp; omega
    simp only [look,hnb,if_false]
    exact h.old b hb hbn
  | false=>
   rw [hpe] at hpx
   simp only [memE_cells] at hspl hone hle
   simp only [U2Fa,EXA,seval,VX,readAt_some,hcond,hidx,hidx2,hrow,hread,hf,hfe,hpx,hw,hw2,hne,hspl,hone,hle]
   refine ih (j+1,kept ++ [x],junk') _ _ (by simp; omega) ⟨?_,by have:=h.len; simp; omega,hlt,?_,by show σ0.next≤σ.next+1; omega,?_,hb0⟩ (by simp only [EXA,seval,List.length_append])
   ·show look ((b0,_) ::(σ.next,_) ::(σ.next,_) ::σ.m) b0=_
    simp only [look,if_true]
    exact congrArg (fun c=>some (Blk.own c)) hspl
   ·simp only [htk,hpe,Bool.false_eq_true,if_false]
   ·intro b hb hbn
    show look ((b0,_) ::(σ.next,_) ::(σ.next,_) ::σ.m) b=_
    have hnb:(σ.next=b)=False:=by simp; omega
    have hnb2:(b0=b)=False:=by simp; exact fun hh=>hbn hh.symm
    simp only [look,hnb,hnb2,if_false]
    exact h.old b hb hbn
 ·have hcond:=dge (Nat.not_lt.1 hlt)
  have hj:j=l.length:=by have:=h.le; omega
  simp only [U2Fa,EXA,seval,hcond]
  subst hj
  exact hk kept junk σ _ h (by simp only [EXA,seval]) (by simp only [EXA,seval])
theorem firstFrom_some {α:Type} {p:α→Bool} {l:List α} {i:Nat} (h:l.findIdx? p=some i):firstFrom p l 0=(i:Int):=by
 unfold firstFrom; rw [List.drop_zero,h]; rfl
theorem firstFrom_no {α:Type} {p:α→Bool} {l:List α} (h:l.findIdx? p=none):firstFrom p l 0= -1:=by
 unfold firstFrom; rw [List.drop_zero,h]
theorem c_delete (l:List Mem) (f:AV) (p:Mem→Bool) (hf:f.closed=true) (hfe:f.er=f) (hlen:l.length < lim) (hp: ∀e∈l,callR ipU gU f [memE e]=some (.bool (p e)))
  (σ:Store) (b0:Nat) (hown:σ.get b0=some (.own (LMem.cells l))) (hb0:b0 < σ.next) :
  ∃σ',callS ipU gU (.fn 155 [] []) [.sl b0 0 l.length 6 none,f] σ=some (.sl b0 0 (l.filter fun x=> !p x).length 6 none,σ')∧(∃rest,σ'.get b0=some (.own (LMem.cells (l.filter fun x=> !p x) ++rest)))∧σ.next≤σ'.next∧∀b,b < σ.next→b≠b0→σ'.get b=σ.get b:=by
 have hi:=r_indexM l f p hf hfe (by unfold lim at hlen; unfold big; omega) hp
 have hcall:callP ipU gU false (.fn 161 [] []) [.sl b0 0 l.length 6 none,f] σ=some (.int .i64 (firstFrom p l 0),σ):=callP_own (L:=LMem) (l:=l) (by simp [Store.cells,hown]) hf hfe hi rfl
 have hlen':=hlen
 unfold lim at hlen'
 suffices hh: ∃r σ',callS ipU gU (.fn 155 [] []) [.sl b0 0 l.length 6 none,f] σ=some (r,σ')∧(r= .sl b0 0 (l.filter fun x=> !p x).length 6 none∧(∃rest,σ'.get b0=some (.own (LMem.cells (l.filter fun x=> !p x) ++rest)))∧σ.next≤σ'.next∧∀b,b < σ.next→b≠b0→σ'.get b=σ.get b) by
  obtain ⟨r,σ',h1,rfl,h2⟩:=hh
  exact ⟨σ',h1,h2⟩
 refine callS_ex (F:=F155) rfl (first:= []) (caps:= []) ?_
 cases hq:l.findIdx? p with
 | none=>
  rw [firstFrom_no hq] at hcall
  have hall:l.filter (fun x=> !p x)=l:=by
   rw [List.findIdx?_eq_none_iff] at hq
   rw [List.filter_eq_self]
   intro x hx
   simp [hq x hx]
  simp only [U2Fb,EXA,seval,hcall]
  refine ⟨_,rfl,?_⟩
  rw [hall]
  exact ⟨rfl, [],by rw [List.append_nil]; exact hown⟩
 | some i=>
  rw [firstFrom_some hq] at hcall
  obtain ⟨hil,hpi,hbefore⟩:=List.findIdx?_eq_some_iff_getElem.1 hq
  have hx:l[i]? =some l[i]:=List.getElem?_eq_getElem hil
  have hne1:((i:Int) == -1)=false:=by simp
  have hw:=wsucc hil (by omega)
  have hk0:(l.take (i+1)).filter (fun x=> !p x)=l.take i:=by
   rw [List.take_add_one,hx,List.filter_append]
   have h1:(l.take i).filter (fun x=> !p x)=l.take i:=by
    rw [List.filter_eq_self]
    intro x hx'
    obtain ⟨j,hj,rfl⟩:=List.mem_iff_getElem.1 hx'
    simp only [List.length_take] at hj
    rw [List.getElem_take]
    have:=hbefore j (by omega)
    simp [this]
   rw [h1]; simp [hpi]
  have h0:DelI l p b0 σ (i+1) (l.take i) [l[i]] σ:=by
   refine ⟨?_,by simp; omega,hil,hk0.symm,Nat.le_refl _,fun _ _ _=>rfl,hb0⟩
   have:l.take i ++ [l[i]] ++l.drop (i+1)=l:=by
    have e:l.take i ++ [l[i]]=l.take (i+1):=by rw [List.take_add_one,hx]; rfl
    rw [e]; exact List.take_append_drop (i+1) l
   rw [this]
   exact hown
  have hkl:(l.take i).length=i:=by simp; omega
  have hloop:=fun {k Q}=>del_loop (k:=k) (Q:=Q) hf hfe hlen hp h0
  rw [hkl] at hloop
  simp only [U2Fb,ex_loop,EXA,seval,hcall,hne1,hw]
  refine hloop ?_
  intro kept junk σ' fr hI h0' h5'
  have hrow:=hI.row
  rw [List.drop_eq_nil_of_le (Nat.le_refl _),List.append_nil] at hrow
  have hkle:kept.length≤l.length:=by have:=hI.len; omega
  have hs1:=slice_tail (b:=b0) hkle
  have hs2:=slice_head (b:=b0) hkle
  have hclr:clearOf σ' 6 zMem (.sl b0 (kept.length*6) (l.length - kept.length) 6 none)=some (.tup [],σ'.set b0 (.own (LMem.cells kept ++rep (l.length - kept.length) zMem))):=by
   have hown':σ'.owned b0=some (LMem.cells (kept ++junk)):=by
    have:σ'.get b0=some (.own (LMem.cells (kept ++junk))):=hrow
    simp [Store.owned,this]
   have hcl:=LMem.cells_len (kept ++junk)
   have hck:=LMem.cells_len kept
   have hjl:(kept ++junk).length=l.length:=by rw [List.length_append]; exact hI.len
   have hsz:LMem.sz=6:=rfl
   have hrl:(rep (l.length - kept.length) zMem).length=(l.length - kept.length)*6:=by unfold rep; rw [rep_length]; rfl
   rw [hjl,hsz] at hcl
   rw [hsz] at hck
   unfold clearOf
   simp only [hown']
   rw [if_pos ⟨by trivial,by rfl,by omega,by rw [hcl]; omega,by rfl⟩]
   have:splice (LMem.cells (kept ++junk)) (kept.length*6) (rep (l.length - kept.length) zMem)=LMem.cells kept ++rep (l.length - kept.length) zMem:=by
    unfold splice
    rw [Lay.cells_append,←hck,List.take_left,List.drop_eq_nil_of_le (by rw [List.length_append,hrl]; rw [Lay.cells_append,List.length_append] at hcl; omega),List.append_nil]
   rw [this]
  have hkeep: ∀L:List Nat,keep L fr=L.map fun t=>(t,fr.get t):=fun _=>rfl
  simp only [U2Fb,EXA,seval,h0',h5',hs1,hs2,hclr]
  have hke:=hI.kept_eq
  rw [List.take_of_length_le (Nat.le_refl _)] at hke
  rw [←hke]
  refine ⟨_,rfl,rfl,⟨rep (l.length - kept.length) zMem,rfl⟩,hI.nx,?_⟩
  intro b hb hbn
  rw [if_neg (fun hh=>hbn hh.symm)]
  exact hI.old b hb hbn
end Go.Ab
namespace Go.Ab
set_option maxHeartbeats 1000000
def U3Fc:= @F145.eq_1
set_option maxRecDepth 100000
theorem c_cloneM0 (c:Option Nat) (σ:Store):callM ipU gU .split (.fn 38 [] []) [.vsl [] c] σ=some (.vsl [] (some 0),σ):=by
 have hb2:both ipU gU (.fn 38 [] []) σ=true:=both_of 100 (by kernel_rfl) (by kernel_rfl)
 simp only [callM,noItems,if_true,hb2]
theorem c_cloneM1 (x:Mem) (l:List Mem) (c:Option Nat) (σ:Store) (hb:(x ::l).length < lim) :
  callM ipU gU .split (.fn 38 [] []) [.vsl ((x ::l).map memE) c] σ=some (.sl σ.next 0 (x ::l).length 6 none,σ.alloc (LMem.cells (x ::l))):=by
 unfold lim at hb
 have hro: ∀σ',rowOf σ' 6 (.vsl ((x ::l).map memE) c)=some (LMem.cells (x ::l)):=fun σ'=>LMem.rowOf σ' (x ::l) c
 have ha:appendTo σ 6 96 (.vsl [] (some 0)) (LMem.cells (x ::l)) (l.length+1)=some (.sl σ.next 0 (l.length+1) 6 none,σ.alloc (LMem.cells (x ::l))):=
  app00 (by omega) (by omega) (by unfold maxBytes; simp at hb; omega) (LMem.cells_len (x ::l)) (LMem.cells_one _) (by omega)
 have hn:noItems [.vsl ((x ::l).map memE) c]=false:=rfl
 simp only [callM,hn,Bool.false_eq_true,if_false]
 refine callS_of (F:=F38) rfl (first:= []) (caps:= []) ?_
 simp only [List.map_cons] at hro
 simp only [F38,EXA,seval,VX,lenOf_vsl,hro,ha]
theorem c_delete0 (f:AV) (hf:f.closed=true) (hfe:f.er=f) (σ:Store):callS ipU gU (.fn 155 [] []) [.vsl [] (some 0),f] σ=some (.vsl [] (some 0),σ):=by
 have hi:=r_indexM [] f (fun _=>false) hf hfe (by simp [big]) (fun _ h=>by cases h)
 have hcall:callP ipU gU false (.fn 161 [] []) [.vsl [] (some 0),f] σ=some (.int .i64 (-1),σ):=by
  rw [callP_closed rfl (by simp [closedL,AV.closed,hf])]
  simp only [erL,AV.er,hfe]
  have:callR ipU gU (.fn 161 [] []) [.vsl [] none,f]=some (.int .i64 (-1)):=hi
  rw [this]; rfl
 refine callS_of (F:=F155) rfl (first:= []) (caps:= []) ?_
 simp only [F155_12,F155_28,F155,EXA,seval,hcall]
def withoutV (v:V) (p:Bs→Bool):V:=if v.kind=5 then V.mk v.kind v.n v.s v.l (v.m.filter fun x=> !p x.1) else v
theorem r_without1 (f:AV) (p:Bs→Bool) (hf:f.closed=true) (hfe:f.er=f) (k:Bs) (hp:callR ipU gU f [.str k]=some (.bool (p k))) (v:V) :
  callR ipU gU (.fn 154 [] [.vptr [f] 0]) [memE (k,v)]=some (.bool (p k)):=by
 refine callR_of (F:=F154) rfl (first:= []) (caps:= [.vptr [f] 0]) ?_
 simp only [F154,EXA,seval,VX,readAt_some,hf,hfe,hp]
theorem r_without (v:V) (f:AV) (p:Bs→Bool) (hf:f.closed=true) (hfe:f.er=f) (hk:f.known=true) (hc:f.cells= [f]) (hlen:v.m.length < lim) (hp: ∀k,callR ipU gU f [.str k]=some (.bool (p k))) :
  cR 145 [v.enc,f]=some (withoutV v p).enc:=by
 refine cR_of (F:=F145) rfl ?_
 obtain ⟨r,hr⟩ : ∃r,r=(withoutV v p).enc:=⟨_,rfl⟩
 rw [←hr]
 unfold withoutV at hr
 cases h5:v.kind == 5 with
 | false=>
  have hk5:v.kind≠5:=by simpa using h5
  rw [if_neg hk5] at hr
  simp only [U3Fc,EXA,seval,VX,readAt_some,h5,hk,hc,hr]
 | true=>
  have hk5:v.kind=5:=by simpa using h5
  rw [if_pos hk5] at hr
  have h154: ∀e∈v.m,callR ipU gU (.fn 154 [] [.vptr [f] 0]) [memE e]=some (.bool (p e.1)):=fun e _=>r_without1 f p hf hfe e.1 (hp e.1) e.2
  have hfc:(AV.fn 154 [] [.vptr [f] 0]).closed=true:=by simp [AV.closed,closedL,hf]
  have hfee:(AV.fn 154 [] [.vptr [f] 0]).er= .fn 154 [] [.vptr [f] 0]:=by simp only [AV.er,erL,hfe]
  obtain ⟨σ0,hσ⟩ : ∃σ0:Store,σ0=⟨2, [(1, .own [.int .i64 0, .int .i64 0, .str [], .nils, .nils]),(0, .own [.int .i64 v.kind, .int .i64 v.n, .str v.s, .vsl (v.l.map V.enc) none, .vsl (v.m.map memE) none])]⟩:=⟨_,rfl⟩
  cases hm:v.m with
  | nil=>
   rw [hm] at hσ hr
   have c1:=c_cloneM0 none σ0
   have c2:=c_delete0 _ hfc hfee σ0
   rw [hσ] at c1 c2
   simp only [List.map_nil] at c1 c2
   simp only [U3Fc,EXA,seval,VX,readAt_some,h5,hk,hc,hm,List.map_nil,c1,c2]
   rw [hr,hk5]; rfl
  | cons x m=>
   have hlen':=hlen
   rw [hm] at hlen'
   have c1:=c_cloneM1 x m none σ0 hlen'
   rw [←hm] at c1
   have hnx:σ0.next=2:=by rw [hσ]
   obtain ⟨σ',d1,⟨rest,d2⟩,d3,d4⟩:=c_delete v.m _ (fun e=>p e.1) hfc hfee hlen h154 (σ0.alloc (LMem.cells v.m)) σ0.next (get_alloc_next (σ:=σ0)) (by simp [next_alloc])
   have z0:look σ'.m 0=look σ0.m 0:=(d4 0 (by simp [next_alloc]) (by omega)).trans (get_alloc (σ:=σ0) (by omega))
   have z1:look σ'.m 1=look σ0.m 1:=(d4 1 (by rw [next_alloc]; omega) (by omega)).trans (get_alloc (σ:=σ0) (by omega))
   rw [hnx] at c1 d1 d2
   simp only [hσ,look,if_true,Nat.succ_ne_self,if_false] at z0 z1
   clear d3 d4
   generalize hσa:σ0.alloc (LMem.cells v.m)=σa at c1 d1
   rw [hσ] at c1
   simp only [U3Fc,EXA,seval,VX,readAt_some,h5,hk,hc,c1,d1,z0,z1]
   have hcl:(AV.vsl (v.l.map V.enc) none).closed=true:=by simp only [AV.closed,closedL_mapV]
   have hce:(AV.vsl (v.l.map V.enc) none).er= .vsl (v.l.map V.enc) none:=by simp only [AV.er,erL_mapV]
   have hb:=fun (σ1:Store) (h2:look σ1.m 2=some (.own (LMem.cells (v.m.filter fun x=> !p x.1) ++rest)))=>
    RbL.agg (σ:=σ1) (RbL.clo (x:= .int .i64 v.kind) rfl (RbL.clo (x:= .int .i64 v.n) rfl (RbL.clo (x:= .str v.s) rfl (RbL.clo (x:= .vsl (v.l.map V.enc) none) hcl (RbL.rp (L:=LMem) (.inr ⟨2,rest,rfl,h2⟩) (RbL.nil σ1 23))))))
   simp only [er_int,er_str,hce] at hb
   rw [hr,V.enc_eq]
   exact hb _ (by simp only [look,Nat.reduceEqDiff,if_false]; exact d2)
theorem r_Drop1 (keys:List Bs) (hk:keys.length < big) (k:Bs):callR ipU gU (.fn 144 [] [.vptr [.vsl (keys.map .str) none] 0]) [.str k]=some (.bool (hasS keys k)):=by
 have h:=r_containsS keys k hk
 refine callR_of (F:=F144) rfl (first:= []) (caps:= [.vptr [.vsl (keys.map .str) none] 0]) ?_
 simp only [F144,EXA,seval,VX,readAt_some,h]
def dropV (v:V) (keys:List Bs):V:=withoutV v (hasS keys)
theorem r_Drop (v:V) (keys:List Bs) (hlen:v.m.length < lim) (hk:keys.length < big):cR 131 [v.enc, .vsl (keys.map .str) none]=some (dropV v keys).enc:=by
 have hc:(AV.fn 144 [] [.vptr [.vsl (keys.map .str) none] 0]).closed=true:=by simp only [AV.closed,closedL,closedL_strs,Bool.and_self]
 have he:(AV.fn 144 [] [.vptr [.vsl (keys.map .str) none] 0]).er= .fn 144 [] [.vptr [.vsl (keys.map .str) none] 0]:=by simp only [AV.er,erL,erL_strs]
 have h:=r_without v _ (hasS keys) hc he rfl rfl hlen (r_Drop1 keys hk)
 refine cR_of (F:=F131) rfl ?_
 simp only [F131,EXA,seval,VX,readAt_some,h]
 unfold dropV
 simp
end Go.Ab
namespace Go.Ab
set_option maxHeartbeats 1000000
set_option maxRecDepth 100000
def GM (σ:Store) (v:AV) (l:List Mem):Prop:=(v= .nils∧l= [])∨∃b,v= .sl b 0 l.length 6 none∧look σ.m b=some (.own (LMem.cells l))∧b < σ.next∧0 < b
theorem GM.lenL {σ:Store} {v:AV} {l:List Mem} (h:GM σ v l):lenL v=some (.int .i64 l.length):=by
 rcases h with ⟨rfl,rfl⟩ | ⟨b,rfl,_⟩ <;> rfl
def shC (acc:List Mem) (j:Nat) (junk:List AV):List AV:=LMem.cells (acc.take j) ++junk ++LMem.cells (acc.drop j)
theorem take_cells (acc:List Mem) {j:Nat} (h:j≤acc.length):(LMem.cells (acc.take j)).length=j*6:=by
 rw [LMem.cells_len,List.length_take,Nat.min_eq_left h]; rfl
end Go.Ab
namespace Go.Ab
set_option maxHeartbeats 1000000
set_option maxRecDepth 100000
theorem GM.frame {σ σ':Store} {v:AV} {l:List Mem} (h:GM σ v l) (hn:σ.next≤σ'.next) (hg: ∀b,v= .sl b 0 l.length 6 none→look σ'.m b=look σ.m b):GM σ' v l:=by
 rcases h with h | ⟨b,rfl,h1,h2,h3⟩
 ·exact .inl h
 ·exact .inr ⟨b,rfl,by rw [hg b rfl]; exact h1,by omega,h3⟩
theorem GM.app {σ:Store} {v:AV} {l:List Mem} (h:GM σ v l) (hl:l.length < lim) (hn:0 < σ.next): ∃σ',appendTo σ 6 96 v zMem 1=some (.sl σ.next 0 (l.length+1) 6 none,σ')∧
  look σ'.m σ.next=some (.own (shC l l.length zMem))∧σ'.next=σ.next+1∧look σ'.m 0=look σ.m 0:=by
 unfold lim at hl
 have hc:shC l l.length zMem=LMem.cells l ++zMem:=by
  unfold shC
  rw [List.take_of_length_le (Nat.le_refl _),List.drop_of_length_le (Nat.le_refl _)]
  simp [Lay.cells]
 rcases h with ⟨rfl,rfl⟩ | ⟨b,rfl,h1,h2,h3⟩
 ·obtain ⟨σ',a1,a2,a3,a4⟩:=append_own (σ:=σ) (sz:=6) (bytes:=96) (n:=0) (k:=1) (ob:=none) (cells:= []) (new:=zMem) ⟨rfl,rfl⟩ (by omega) (by omega) (by unfold maxBytes; omega) rfl rfl (by omega)
  refine ⟨σ',a1,?_,a3,a4 0 hn (by simp)⟩
  rw [hc]
  exact a2.1
 ·cases l with
  | nil=>
   refine ⟨(σ.set b .dead).alloc ([] ++zMem),?_,?_,rfl,?_⟩
   ·have ho:σ.owned b=some []:=by
     have:σ.get b=some (.own (LMem.cells [])):=h1
     simp [Store.owned,this,Lay.cells]
    unfold appendTo
    simp only [lenOf,ho,List.length_nil]
    simp [maxBytes,AV.one]
   ·rw [hc]; exact get_alloc_next (σ:=σ.set b .dead)
   ·have:=get_alloc (σ:=σ.set b .dead) (cs:= [] ++zMem) (b:=0) (by rw [next_set]; omega)
    exact this.trans (get_set (by omega))
  | cons x l=>
   obtain ⟨σ',a1,a2,a3,a4⟩:=append_own (σ:=σ) (sz:=6) (bytes:=96) (n:=(x ::l).length) (k:=1) (ob:=some b) (cells:=LMem.cells (x ::l)) (new:=zMem) ⟨h1,LMem.cells_len _,h2,by simp⟩ (by omega) (by omega) (by unfold maxBytes; omega) rfl rfl (by omega)
   refine ⟨σ',a1,?_,a3,a4 0 hn (by simp; omega)⟩
   rw [hc]
   exact a2.1
end Go.Ab
namespace Go.Ab
set_option maxHeartbeats 1000000
set_option maxRecDepth 100000
def Rd {α:Type} (L:Lay α) (σ:Store) (v:AV) (l:List α):Prop:=
 (v= .nils∧l= [])∨(∃b,v= .sl b 0 l.length L.sz none∧σ.cells b=some (L.cells l)∧b < σ.next)∨v= .vsl (l.map L.f) (some l.length)
section
variable {α:Type} {L:Lay α} {σ:Store} {v:AV} {l:List α}
theorem Gr.rd (h:Gr L σ v l):Rd L σ v l:=by
 rcases h with h | ⟨b,rfl,h⟩ | h
 ·exact .inl h
 ·exact .inr (.inl ⟨b,rfl,by have:=h.1; simp [Store.cells,this],h.lt⟩)
 ·exact .inr (.inr h)
theorem freeze_cells (σ:Store) (b:Nat):σ.freeze.cells b=σ.cells b:=by
 have e:σ.freeze.get b=(σ.get b).map fun x=>match x with | .own cs=> .frz cs | x=>x:=by
  unfold Store.freeze Store.get
  simp only
  induction σ.m with
  | nil=>rfl
  | cons p l ih=>
   obtain ⟨i,x⟩:=p
   simp only [List.map_cons,look]
   by_cases h:i=b
   ·rw [if_pos h,if_pos h]; rfl
   ·rw [if_neg h,if_neg h]; exact ih
 unfold Store.cells
 rw [e]
 cases σ.get b with
 | none=>rfl
 | some x=>cases x <;> rfl
theorem Rd.freeze (h:Rd L σ v l):Rd L σ.freeze v l:=by
 rcases h with h | ⟨b,rfl,h,h2⟩ | h
 ·exact .inl h
 ·exact .inr (.inl ⟨b,rfl,by rw [freeze_cells]; exact h,h2⟩)
 ·exact .inr (.inr h)
theorem Rd.newset (h:Rd L σ v l) (cs cs':List AV):Rd L { next:=σ.next+1,m:=(σ.next, .own cs) ::(σ.next, .own cs') ::σ.m } v l:=by
 rcases h with h | ⟨b,rfl,h,h2⟩ | h
 ·exact .inl h
 ·refine .inr (.inl ⟨b,rfl,?_,by simp; omega⟩)
  have:Store.get { next:=σ.next+1,m:=(σ.next, .own cs) ::(σ.next, .own cs') ::σ.m } b=σ.get b:=by
   show look ((σ.next,Blk.own cs) ::(σ.next, .own cs') ::σ.m) b=look σ.m b
   simp only [look]; rw [if_neg (by omega),if_neg (by omega)]
  unfold Store.cells at h ⊢
  rw [this]; exact h
 ·exact .inr (.inr h)
theorem Rd.rb (h:Rd L σ v l): ∃v',Go.Ab.rb σ rbDepth v=some v'∧v'.er= .vsl (l.map L.f) none:=by
 rcases h with ⟨rfl,rfl⟩ | ⟨b,rfl,h,_⟩ | rfl
 ·exact ⟨_,rfl,by simp only [AV.er]; rfl⟩
 ·refine ⟨_,rb_sl (d:=23) h (L.cells_len l) L.pos (L.cells_closed l) (one_notAgg (L.cells_one l)),?_⟩
  rw [L.chunks]; simp only [AV.er,L.erMap]
 ·refine ⟨_,rb_closed' (by simp only [AV.closed]; exact closedL_map fun a _=>L.closed a),?_⟩
  simp only [AV.er,L.erMap]
def Dis (v w:AV):Prop:=∀b o len sz c o' len' sz' c',v= .sl b o len sz c→w≠ .sl b o' len' sz' c'
theorem Dis.symm {v w:AV} (h:Dis v w):Dis w v:=fun _ _ _ _ _ _ _ _ _ h1 h2=>h _ _ _ _ _ _ _ _ _ h2 h1
end
theorem Gr.idxS {σ:Store} {v:AV} {l:List Bs} (h:Gr LStr σ v l) {j:Nat} {s:Bs} (hj:l[j]? =some s): ∃p,idxOf 1 none v (.int .i64 (j:Int))=some p∧readPtr σ p none=some (.str s):=by
 have hlt:=lt_of_get hj
 have hc: ∀m:List Bs,LStr.cells m=m.map AV.str:=by
  intro m; simp only [Lay.cells,LStr,AV.cells]; induction m with
  | nil=>rfl
  | cons a m ih=>simp [ih]
 rcases h with ⟨rfl,rfl⟩ | ⟨b,rfl,h⟩ | rfl
 ·simp at hj
 ·refine ⟨.ptr b j,?_,?_⟩
  ·simp [idxOf,LStr,hlt]
  ·have:=h.1
   simp only [readPtr,Store.cells,this,readAt,hc,List.getElem?_map,hj,Option.map_some]
 ·refine ⟨.vptr [.str s] 0,idx_map (f:=AV.str) hj rfl,rfl⟩
end Go.Ab
namespace Go.Ab
set_option maxHeartbeats 1000000
set_option maxRecDepth 100000
def tV3 (s:Bs):V:=V.mk 3 0 s [] []
def lV (l:List Bs):V:=V.mk 4 0 [] (l.map tV3) []
structure LSt (σ:Store) (v:AV) (acc:List V):Prop where
 one:look σ.m 1=some (.own [.int .i64 4, .int .i64 0, .str [],v, .nils])
 nil:look σ.m 0=some (.own [.int .i64 0, .int .i64 0, .str [], .nils, .nils])
 gr:Gr LV σ v acc
 nx:1 < σ.next
 far: ∀b len sz c,b < 2→v≠ .sl b 0 len sz c
theorem LSt.push {σ:Store} {v:AV} {acc:List V} (h:LSt σ v acc) (hl:acc.length < lim) (x:V) :
  appendTo σ 5 80 v x.enc.cells 1=some (.sl σ.next 0 (acc ++ [x]).length 5 none,grNext LV σ v acc [x])∧look (grNext LV σ v acc [x]).m 1=some (.own [.int .i64 4, .int .i64 0, .str [],v, .nils])∧
  LSt { next:=(grNext LV σ v acc [x]).next,m:=(1, .own [.int .i64 4, .int .i64 0, .str [], .sl σ.next 0 (acc ++ [x]).length 5 none, .nils]) ::(grNext LV σ v acc [x]).m } (.sl σ.next 0 (acc ++ [x]).length 5 none) (acc ++ [x]):=by
 unfold lim at hl
 have hnx:=h.nx
 have hn:=grNext_next LV σ v acc [x]
 have g1:look (grNext LV σ v acc [x]).m 1=look σ.m 1:=grNext_get (m:= [x]) h.gr hnx (fun len sz c=>h.far 1 len sz c (by omega))
 have g0:look (grNext LV σ v acc [x]).m 0=look σ.m 0:=grNext_get (m:= [x]) h.gr (by omega) (fun len sz c=>h.far 0 len sz c (by omega))
 have hg:=h.gr.next (m:= [x]) (by simp)
 refine ⟨h.gr.push (a:=x) (bytes:=80) (by omega) (by unfold maxBytes; omega),by rw [g1]; exact h.one,by simp [look],?_,?_,by show 1 < (grNext LV σ v acc [x]).next; omega,?_⟩
 ·show look ((1,_) ::_) 0=_
  simp only [look]
  rw [if_neg (by omega),g0]; exact h.nil
 ·exact Gr.own (L:=LV) (hg.frame (by show look ((1,_) ::_) σ.next=look _ σ.next; simp only [look]; rw [if_neg (by omega)]) (Nat.le_refl _))
 ·intro b len sz c hb hv
  simp only [AV.sl.injEq] at hv
  omega
theorem LSt.fin {σ:Store} {v:AV} {acc:List V} (h:LSt σ v acc):rbE { next:=σ.next,m:=(0, .own [.int .i64 4, .int .i64 0, .str [],v, .nils]) ::σ.m } (.agg [.int .i64 4, .int .i64 0, .str [],v, .nils])=some (V.mk 4 0 [] acc []).enc:=by
 have hg:Gr LV { next:=σ.next,m:=(0, .own [.int .i64 4, .int .i64 0, .str [],v, .nils]) ::σ.m } v acc:=by
  rcases h.gr with g | ⟨b,rfl,g⟩ | g
  ·exact .inl g
  ·refine .inr (.inl ⟨b,rfl,g.frame ?_ (Nat.le_refl _)⟩)
   have hb:b≠0:=by rintro rfl; exact h.far 0 _ _ _ (by omega) rfl
   show look ((0,_) ::_) b=look _ b
   simp only [look]; rw [if_neg (fun hh=>hb hh.symm)]
  ·exact .inr (.inr g)
 have:=RbL.agg (RbL.clo (x:= .int .i64 4) rfl (RbL.clo (x:= .int .i64 0) rfl (RbL.clo (x:= .str []) rfl (RbL.gr hg (RbL.clo (x:= .nils) rfl (RbL.nil _ 23))))))
 simp only [er_int,er_str,er_nils] at this
 rw [V.enc_eq]
 exact this
end Go.Ab
namespace Go.Ab
set_option maxHeartbeats 1000000
set_option maxRecDepth 100000
structure KSt (σ:Store) (v:AV) (acc:List Mem):Prop where
 nil:look σ.m 0=some (.own [.int .i64 0, .int .i64 0, .str [], .nils, .nils])
 gr:Gr LMem σ v acc
 nx:0 < σ.next
 far: ∀len sz c,v≠ .sl 0 0 len sz c
theorem KSt.push {σ:Store} {v:AV} {acc:List Mem} (h:KSt σ v acc) (hl:acc.length < lim) (x:Mem) :
  appendTo σ 6 96 v (memE x).cells 1=some (.sl σ.next 0 (acc ++ [x]).length 6 none,grNext LMem σ v acc [x])∧KSt (grNext LMem σ v acc [x]) (.sl σ.next 0 (acc ++ [x]).length 6 none) (acc ++ [x]):=by
 unfold lim at hl
 have hnx:=h.nx
 have hn:=grNext_next LMem σ v acc [x]
 have g0:look (grNext LMem σ v acc [x]).m 0=look σ.m 0:=grNext_get (m:= [x]) h.gr (by omega) h.far
 refine ⟨h.gr.push (a:=x) (bytes:=96) (by omega) (by unfold maxBytes; omega),by rw [g0]; exact h.nil,Gr.own (h.gr.next (m:= [x]) (by simp)),by omega,?_⟩
 intro len sz c hv
 simp only [AV.sl.injEq] at hv
 omega
end Go.Ab
namespace Go.Ab
set_option maxHeartbeats 1000000
set_option maxRecDepth 100000
theorem view_row {α:Type} {L:Lay α} {σ:Store} {b:Nat} {l:List α} (h:σ.get b=some (.frz (L.cells l))):readPtrF σ (.sl b 0 l.length L.sz none) (some 0)=some (.vsl (l.map L.f) none):=by
 have hl:=L.cells_len l
 simp only [readPtrF,h,List.drop_zero]
 rw [List.take_of_length_le (by rw [hl]; exact Nat.le_refl _),if_pos ⟨by rw [hl]; omega,L.pos,one_notAgg (L.cells_one l)⟩,L.chunks]
section
variable (e:Ev)
end
end Go.Ab
namespace Go.Ab
set_option maxHeartbeats 1000000
set_option maxRecDepth 100000
theorem ex_arity {ip:Nat→Option IFunc} {G:Nat→List AV} {m:Nat} {c:ICode} {k:List Item} {fr:Fr} {σ:Store} {Q:Fr→Store→Prop} (h:fr.length=m):Ex ip G (.code (.arity m c) ::k) fr σ Q↔Ex ip G (.code c ::k) fr σ Q:=
 ex_step fun n=>by simp only [run,h,if_true]
theorem c_insert {x y:AV} {i:Int} {σ:Store} {r:AV×Store} (h:insertTo σ 6 96 x i y=some r):callS ipU gU (.fn 153 [] []) [x, .int .i64 i,y] σ=some r:=by
 obtain ⟨v,σ'⟩:=r
 refine callS_of (F:=F153) rfl (first:= []) (caps:= []) ?_
 simp only [F153,natF,List.nil_append,List.append_nil]
 rw [ex_arity (by rfl)]
 simp only [EXA,seval,h]
def zK (k:Bs):List AV:= [.str k, .int .i64 0, .int .i64 0, .str [], .nils, .nils]
theorem insC_len (l:List Mem) (i:Nat) (hi:i≤l.length) (k:Bs):(LMem.cells (l.take i) ++zK k ++LMem.cells (l.drop i)).length=(l.length+1)*6:=by
 rw [List.length_append,List.length_append,LMem.cells_len,LMem.cells_len,List.length_take,List.length_drop]
 show min i l.length*6+6+(l.length - i)*6=_
 omega
theorem ins_to (l:List Mem) (b c:Nat) (σ:Store) (i:Nat) (k:Bs) (hl:l.length < lim) (hi:i≤l.length) (hb:σ.get b=some (.own (LMem.cells l))) (hc:σ.get c=some (.own (zK k))) (hbc:b≠c) (hn:0 < l.length) :
  insertTo σ 6 96 (.sl b 0 l.length 6 none) (i:Int) (.sl c 0 1 6 (some 1))=some (.sl σ.next 0 (l.length+1) 6 none,(σ.set b .dead).alloc (LMem.cells (l.take i) ++zK k ++LMem.cells (l.drop i))):=by
 unfold lim at hl
 have hob:σ.owned b=some (LMem.cells l):=by simp [Store.owned,hb]
 have hoc:σ.owned c=some (zK k):=by simp [Store.owned,hc]
 have hro:rowOf σ 6 (.sl c 0 1 6 (some 1))=some (zK k):=by simp [rowOf,Store.cells,hc,zK]
 have hck:=LMem.cells_len l
 have hsz:LMem.sz=6:=rfl
 rw [hsz] at hck
 have hone:=LMem.cells_one l
 have hz1:(zK k).all AV.one=true:=rfl
 unfold insertTo
 simp only [lenOf,hro]
 by_cases he:(i:Int)=(l.length:Int)
 ·have he':i=l.length:=by omega
  subst he'
  rw [if_pos rfl,if_pos (by omega)]
  simp only [appendTo,lenOf,hob]
  rw [if_pos ⟨by omega,by omega,by unfold maxBytes; omega,rfl,hz1⟩]
  simp only [if_true]
  rw [if_neg (by omega),if_pos (by omega)]
  simp [Lay.cells]
 ·rw [if_neg he]
  simp only [hob,hoc]
  rw [if_pos ⟨hbc,by trivial,by omega,by omega,by omega,by omega,by omega,by unfold maxBytes; omega,by omega,hone,hz1⟩]
  have e1:(LMem.cells l).take (i*6)=LMem.cells (l.take i):=by
   have:LMem.cells l=LMem.cells (l.take i) ++LMem.cells (l.drop i):=by rw [←Lay.cells_append,List.take_append_drop]
   rw [this,←take_cells l hi,List.take_left]
  have e2:(LMem.cells l).drop (i*6)=LMem.cells (l.drop i):=by
   have:LMem.cells l=LMem.cells (l.take i) ++LMem.cells (l.drop i):=by rw [←Lay.cells_append,List.take_append_drop]
   rw [this,←take_cells l hi,List.drop_left]
  simp only [List.drop_zero,Int.toNat_natCast,e1,e2]
theorem ins_to0 (c:Nat) (σ:Store) (k:Bs) (hc:σ.get c=some (.own (zK k))) :
  insertTo σ 6 96 (.vsl [] (some 0)) ((0:Nat):Int) (.sl c 0 1 6 (some 1))=some (.sl σ.next 0 1 6 none,σ.alloc (zK k)):=by
 have hro:rowOf σ 6 (.sl c 0 1 6 (some 1))=some (zK k):=by simp [rowOf,Store.cells,hc,zK]
 unfold insertTo
 simp only [lenOf,hro]
 simp [appendTo,lenOf,rowOf,zK,maxBytes,AV.one]
theorem splice_mid {α:Type} (pre:List α) (a:α) (A B post:List α) (h:A.length=B.length):(pre ++a ::(A ++post)).take (pre.length+1) ++B ++(pre ++a ::(A ++post)).drop (pre.length+1+B.length)=pre ++a ::(B ++post):=by
 have e1:pre ++a ::(A ++post)=(pre ++ [a]) ++(A ++post):=by simp
 have e2:pre ++a ::(A ++post)=((pre ++ [a]) ++A) ++post:=by simp
 have l1:pre.length+1=(pre ++ [a]).length:=by simp
 have l2:pre.length+1+B.length=((pre ++ [a]) ++A).length:=by simp [h]; omega
 have t1:(pre ++a ::(A ++post)).take (pre.length+1)=pre ++ [a]:=by rw [e1,l1,List.take_left]
 have t2:(pre ++a ::(A ++post)).drop (pre.length+1+B.length)=post:=by rw [e2,l2,List.drop_left]
 rw [t1,t2]; simp
theorem splice_val (pre:List AV) (k:Bs) (x:V) (post:List AV):splice (pre ++zK k ++post) (pre.length+1) x.enc.cells=pre ++(memE (k,x)).cells ++post:=by
 rw [V.enc_cells,memE_cells]
 have:=splice_mid pre (AV.str k) [.int .i64 0, .int .i64 0, .str [], .nils, .nils] [.int .i64 x.kind, .int .i64 x.n, .str x.s, .vsl (x.l.map V.enc) none, .vsl (x.m.map memE) none] post rfl
 unfold splice zK
 simpa using this
theorem splice_valM (pre:List AV) (y:Mem) (x:V) (post:List AV):splice (pre ++(memE y).cells ++post) (pre.length+1) x.enc.cells=pre ++(memE (y.1,x)).cells ++post:=by
 rw [V.enc_cells,memE_cells,memE_cells]
 have:=splice_mid pre (AV.str y.1) [.int .i64 y.2.kind, .int .i64 y.2.n, .str y.2.s, .vsl (y.2.l.map V.enc) none, .vsl (y.2.m.map memE) none] [.int .i64 x.kind, .int .i64 x.n, .str x.s, .vsl (x.l.map V.enc) none, .vsl (x.m.map memE) none] post rfl
 unfold splice
 simpa using this
end Go.Ab
namespace Go.Ab
set_option maxHeartbeats 1000000
def U10Fa:= @F142.eq_1
set_option maxRecDepth 100000
theorem bsF_le (m:List Mem) (k:Bs): ∀(n i j:Nat),j - i≤n→i≤j→bsF m k i j≤j
 | 0,i,j,h,hij=>by rw [bsF,if_neg (by omega)]; exact hij
 | n+1,i,j,h,hij=>by
  rw [bsF]
  by_cases hlt:i < j
  ·rw [if_pos hlt]
   split
   ·exact bsF_le m k n _ _ (by omega) (by omega)
   ·exact Nat.le_trans (bsF_le m k n _ _ (by omega) (by omega)) (by omega)
  ·rw [if_neg hlt]; exact hij
theorem placeV_le (v:V) (k:Bs):(placeV v k).1≤v.m.length:=by
 unfold placeV
 split
 ·exact bsF_le v.m k _ 0 _ (Nat.le_refl _) (by omega)
 ·simp
theorem placeV_lt {v:V} {k:Bs} (h:(placeV v k).2=true):(placeV v k).1 < v.m.length:=by
 unfold placeV at h ⊢
 split
 ·rename_i h5
  rw [if_pos h5] at h
  simp at h
  exact h.1
 ·rename_i h5
  rw [if_neg h5] at h
  cases h
def setM (m:List Mem) (i:Nat) (ok:Bool) (k:Bs) (x:V):List Mem:=if ok then (match m[i]? with | some y=>m.set i (y.1,x) | none=>m) else m.take i ++(k,x) ::m.drop i
def setV (v:V) (k:Bs) (x:V):V:=if v.kind=5 then V.mk v.kind v.n v.s v.l (setM v.m (placeV v k).1 (placeV v k).2 k x) else v
abbrev vCs (v:V):List AV:= [.int .i64 v.kind, .int .i64 v.n, .str v.s, .vsl (v.l.map V.enc) none, .vsl (v.m.map memE) none]
theorem rbE_own {σ:Store} (v:V) {b:Nat} {l:List Mem} (h:look σ.m b=some (.own (LMem.cells l))):rbE σ (.agg [.int .i64 v.kind, .int .i64 v.n, .str v.s, .vsl (v.l.map V.enc) none, .sl b 0 l.length 6 none])=some (V.mk v.kind v.n v.s v.l l).enc:=by
 have hcl:(AV.vsl (v.l.map V.enc) none).closed=true:=by simp only [AV.closed,closedL_mapV]
 have hce:(AV.vsl (v.l.map V.enc) none).er= .vsl (v.l.map V.enc) none:=by simp only [AV.er,erL_mapV]
 have hb:=RbL.agg (σ:=σ) (RbL.clo (x:= .int .i64 v.kind) rfl (RbL.clo (x:= .int .i64 v.n) rfl (RbL.clo (x:= .str v.s) rfl (RbL.clo (x:= .vsl (v.l.map V.enc) none) hcl (RbL.rp (L:=LMem) (l:=l) (v:= .sl b 0 l.length 6 none) (.inr ⟨b, [],rfl,by rw [List.append_nil]; exact h⟩) (RbL.nil σ 23))))))
 simp only [er_int,er_str,hce] at hb
 rw [V.enc_eq]
 exact hb
theorem rbE_ownN {σ:Store} (v:V) {b n:Nat} {l:List Mem} (hn:l.length=n) (h:look σ.m b=some (.own (LMem.cells l))):rbE σ (.agg [.int .i64 v.kind, .int .i64 v.n, .str v.s, .vsl (v.l.map V.enc) none, .sl b 0 n 6 none])=some (V.mk v.kind v.n v.s v.l l).enc:=by
 subst hn; exact rbE_own v h
theorem r_Set (v:V) (k:Bs) (x:V) (hlen:v.m.length < lim):cR 142 [v.enc, .str k,x.enc]=some (setV v k x).enc:=by
 have hlen':=hlen
 unfold lim at hlen'
 have hp:=r_place v k (by unfold big; omega)
 have hple:=placeV_le v k
 have hplt:=fun h=>placeV_lt (v:=v) (k:=k) h
 refine cR_of (F:=F142) rfl ?_
 obtain ⟨r,hr⟩ : ∃r,r=(setV v k x).enc:=⟨_,rfl⟩
 rw [←hr]
 unfold setV at hr
 cases h5:v.kind != 5 with
 | true=>
  have hk5:v.kind≠5:=by simpa using h5
  rw [if_neg hk5] at hr
  simp only [U10Fa,EXA,Nat.reduceEqDiff,reduceIte,reduceCtorEq,Nat.reduceAdd,Nat.reduceLeDiff,Nat.reduceSub,Nat.reduceMul,Int.reduceEq,Int.reduceBEq,Int.reduceBNe,Int.reduceLT,Int.reduceLE,Nat.reduceLT,VX,readAt_some,h5,hr]
 | false=>
  have hk5:v.kind=5:=by simpa using h5
  rw [if_pos hk5] at hr
  generalize placeV v k=pl at hp hple hplt hr
  obtain ⟨i,ok⟩:=pl
  simp only at hp hple hplt hr
  cases hm:v.m with
  | nil=>
   have hi:i=0:=by rw [hm] at hple; simpa using hple
   subst hi
   have hok:ok=false:=by
    cases ok with
    | false=>rfl
    | true=>have:=hplt rfl; rw [hm] at this; simp at this
   subst hok
   have c1:callM ipU gU .split (.fn 38 [] []) [.vsl (v.m.map memE) none] ⟨2, [(1, .own [.int .i64 0, .int .i64 0, .str [], .nils, .nils]),(0, .own (vCs v))]⟩=some (.vsl [] (some 0),⟨2, [(1, .own [.int .i64 0, .int .i64 0, .str [], .nils, .nils]),(0, .own (vCs v))]⟩):=by
    have:=c_cloneM0 none ⟨2, [(1, .own [.int .i64 0, .int .i64 0, .str [], .nils, .nils]),(0, .own (vCs v))]⟩
    rw [hm]; exact this
   have c2:=c_insert (ins_to0 2 ⟨3, [(2, .own (zK k)),(0, .own [.int .i64 v.kind, .int .i64 v.n, .str v.s, .vsl (v.l.map V.enc) none, .vsl [] (some 0)]),(1, .own [.int .i64 0, .int .i64 0, .str [], .nils, .nils]),(0, .own (vCs v))]⟩ k rfl)
   simp only [Store.alloc,zK,vCs] at c1 c2
   have hspl:=splice_val [] k x []
   have i0:=idx_sl (b:=3) (n:=1) (j:=0) (σ:= .empty) (by omega)
   simp only [V.enc_cells,memE_cells,zK,splice,List.nil_append,List.append_nil,List.length_nil,List.length_cons,Nat.zero_add,Nat.reduceAdd] at hspl
   rw [hm] at hr
   simp only [setM,List.take_nil,List.drop_nil,List.nil_append,Bool.false_eq_true,if_false] at hr
   simp only [U10Fa,EXA,Nat.reduceEqDiff,reduceIte,reduceCtorEq,Nat.reduceAdd,Nat.reduceLeDiff,Nat.reduceSub,Nat.reduceMul,Int.reduceEq,Int.reduceBEq,Int.reduceBNe,Int.reduceLT,Int.reduceLE,Nat.reduceLT,VX,readAt_some,h5,hp,c1,c2,i0,hspl]
   rw [hr]
   exact rbE_own v (l:= [(k,x)]) (by simp [look,Lay.cells,LMem,memE_cells])
  | cons y0 m0=>
   have hn:0 < v.m.length:=by rw [hm]; simp
   have c1:callM ipU gU .split (.fn 38 [] []) [.vsl (v.m.map memE) none] ⟨2, [(1, .own [.int .i64 0, .int .i64 0, .str [], .nils, .nils]),(0, .own (vCs v))]⟩=some (.sl 2 0 v.m.length 6 none,⟨3, [(2, .own (LMem.cells v.m)),(1, .own [.int .i64 0, .int .i64 0, .str [], .nils, .nils]),(0, .own (vCs v))]⟩):=by
    have:=c_cloneM1 y0 m0 none ⟨2, [(1, .own [.int .i64 0, .int .i64 0, .str [], .nils, .nils]),(0, .own (vCs v))]⟩ (by rw [←hm]; exact hlen)
    rw [hm]; exact this
   simp only [vCs] at c1
   clear hm
   have hcl:=LMem.cells_len v.m
   have hsz:LMem.sz=6:=rfl
   rw [hsz] at hcl
   have hxl:x.enc.cells.length=5:=by rw [V.enc_cells]; rfl
   have hxo:x.enc.cells.all AV.one=true:=LV.one x
   cases ok with
   | true=>
    have hlt:=hplt rfl
    obtain ⟨y,hy⟩:=get_lt hlt
    simp only [setM,hy,if_true] at hr
    have i0:=idx_sl (b:=2) (n:=v.m.length) (j:=i) (σ:= .empty) hlt
    have hspl:splice (LMem.cells v.m) (i*6+1) x.enc.cells=LMem.cells (v.m.set i (y.1,x)):=by
     have e:v.m=v.m.take i ++y ::v.m.drop (i+1):=by rw [←drop_cons hy,List.take_append_drop]
     have e2:v.m.set i (y.1,x)=v.m.take i ++(y.1,x) ::v.m.drop (i+1):=List.set_eq_take_append_cons_drop.trans (by rw [if_pos hlt])
     have h1:=take_cells v.m (j:=i) (by omega)
     have:=splice_valM (LMem.cells (v.m.take i)) y x (LMem.cells (v.m.drop (i+1)))
     rw [h1] at this
     rw [e2,Lay.cells_append,Lay.cells_cons,←List.append_assoc]
     have e3:LMem.cells v.m=LMem.cells (v.m.take i) ++(memE y).cells ++LMem.cells (v.m.drop (i+1)):=by
      rw [List.append_assoc]
      have:LMem.cells v.m=LMem.cells (v.m.take i ++y ::v.m.drop (i+1)):=by rw [←e]
      rw [this,Lay.cells_append,Lay.cells_cons]; rfl
     rw [e3]; exact this
    have hle:i*6+1+5≤(LMem.cells v.m).length:=by rw [hcl]; omega
    generalize LMem.cells v.m=C at c1 hspl hle
    simp only [V.enc_cells,splice,List.length_nil,List.length_cons,Nat.zero_add,Nat.reduceAdd] at hspl hxo
    simp only [U10Fa,EXA,Nat.reduceEqDiff,reduceIte,reduceCtorEq,Nat.reduceAdd,Nat.reduceLeDiff,Nat.reduceSub,Nat.reduceMul,Int.reduceEq,Int.reduceBEq,Int.reduceBNe,Int.reduceLT,Int.reduceLE,Nat.reduceLT,VX,readAt_some,h5,hp,c1,i0,hspl,hle,hxo]
    rw [hr]
    exact rbE_ownN v List.length_set rfl
   | false=>
    simp only [setM,Bool.false_eq_true,if_false] at hr
    have c2:=c_insert (ins_to v.m 2 3 ⟨4, [(3, .own (zK k)),(0, .own [.int .i64 v.kind, .int .i64 v.n, .str v.s, .vsl (v.l.map V.enc) none, .sl 2 0 v.m.length 6 none]),(2, .own (LMem.cells v.m)),(1, .own [.int .i64 0, .int .i64 0, .str [], .nils, .nils]),(0, .own (vCs v))]⟩ i k hlen hple rfl rfl (by omega) hn)
    have i0:=idx_sl (b:=4) (n:=v.m.length+1) (j:=i) (σ:= .empty) (by omega)
    have hspl:splice (LMem.cells (v.m.take i) ++zK k ++LMem.cells (v.m.drop i)) (i*6+1) x.enc.cells=LMem.cells (v.m.take i ++(k,x) ::v.m.drop i):=by
     have:=splice_val (LMem.cells (v.m.take i)) k x (LMem.cells (v.m.drop i))
     rw [take_cells v.m hple] at this
     rw [Lay.cells_append,Lay.cells_cons,←List.append_assoc]
     exact this
    have hle:i*6+1+5≤(LMem.cells (v.m.take i) ++zK k ++LMem.cells (v.m.drop i)).length:=by rw [insC_len v.m i hple k]; omega
    generalize LMem.cells (v.m.take i) ++zK k ++LMem.cells (v.m.drop i)=D at c2 hspl hle
    generalize LMem.cells v.m=C at c1 c2
    simp only [V.enc_cells,splice,List.length_nil,List.length_cons,Nat.zero_add,Nat.reduceAdd] at hspl hxo
    simp only [Store.alloc,Store.set,zK,vCs] at c2
    simp only [U10Fa,EXA,Nat.reduceEqDiff,reduceIte,reduceCtorEq,Nat.reduceAdd,Nat.reduceLeDiff,Nat.reduceSub,Nat.reduceMul,Int.reduceEq,Int.reduceBEq,Int.reduceBNe,Int.reduceLT,Int.reduceLE,Nat.reduceLT,VX,readAt_some,h5,hp,c1,c2,i0,hspl,hle,hxo]
    rw [hr]
    exact rbE_ownN v (by simp; omega) rfl
end Go.Ab
