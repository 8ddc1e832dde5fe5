/- What functions of the program, and of the library, answer. Conditions: none. -/
import Derived.Test.YtmamekpnopidlaaGreatDoorEx
import Derived.Test.YtmamekpnopidlaaGreatDoorDraw
import Derived.Test.YtmamekpnopidlaaGreatDoorLaw8
import Derived.Test.YtmamekpnopidlaaGreatDoorLaw7
set_option linter.unusedVariables false
set_option linter.unusedSimpArgs false
set_option linter.defProp false
set_option linter.unnecessarySimpa false
namespace Go.Ab
section
variable {ip:Nat→Option IFunc} {G:Nat→List AV} {fr fr':Fr} {σ:Store} {Q:Fr→Store→Prop} {k:List Item}
end
end Go.Ab
namespace Go.Ab
set_option maxHeartbeats 1000000
set_option maxRecDepth 100000
section
variable {l:List Ev} {e:Ev} {j:Nat} {c:ICode} {k:List Item} {σ:Store} {Q:Fr→Store→Prop}
end
theorem r_awake19:cR 1 []=some (.bool true):=cR_closed 3000 (by kernel_rfl)
end Go.Ab
namespace Go.Ab
set_option maxHeartbeats 1000000
def T13Fa:=J @F72_4.eq_1 (J @F72_9.eq_1 (J @F72_15.eq_1 (J @F72_16.eq_1 (J @F72_25.eq_1 (J @F72_26.eq_1 (@F72.eq_1))))))
def T13Fb:=J @F72_4.eq_1 (J @F72_9.eq_1 (J @F72_15.eq_1 (J @F72_25.eq_1 (J @F72_26.eq_1 (@F72.eq_1)))))
set_option maxRecDepth 100000
def insR (x:Mem):List Mem→List Mem
 | []=> [x]
 | y ::r=>if bytesLess x.1 y.1=true then y ::insR x r else x ::y ::r
def sortR:List Mem→List Mem→List Mem
 | acc, []=>acc
 | acc,x ::r=>sortR (insR x acc) r
def sortM (l:List Mem):List Mem:=(sortR [] l).reverse
theorem insR_len (x:Mem): ∀l,(insR x l).length=l.length+1
 | []=>rfl
 | y ::r=>by simp only [insR]; split <;> simp [insR_len x r]
theorem sortR_len: ∀(l acc:List Mem),(sortR acc l).length=acc.length+l.length
 | [],acc=>by simp [sortR]
 | x ::r,acc=>by rw [sortR,sortR_len r,insR_len]; simp; omega
section
variable {α:Type} (L:Lay α)
theorem Lay.cells_append (l m:List α):L.cells (l ++m)=L.cells l ++L.cells m:=by simp [Lay.cells]
theorem Lay.cells_cons (a:α) (l:List α):L.cells (a ::l)=(L.f a).cells ++L.cells l:=by simp [Lay.cells]
theorem Lay.take {l:List α} {j:Nat} (h:j≤l.length):(L.cells l).take (j*L.sz)=L.cells (l.take j):=by
 have e:L.cells l=L.cells (l.take j) ++L.cells (l.drop j):=by rw [←L.cells_append,List.take_append_drop]
 have hl:(L.cells (l.take j)).length=j*L.sz:=by rw [L.cells_len,List.length_take,Nat.min_eq_left h]
 rw [e,←hl,List.take_left]
theorem Lay.drop {l:List α} {j:Nat} (h:j≤l.length):(L.cells l).drop (j*L.sz)=L.cells (l.drop j):=by
 have e:L.cells l=L.cells (l.take j) ++L.cells (l.drop j):=by rw [←L.cells_append,List.take_append_drop]
 have hl:(L.cells (l.take j)).length=j*L.sz:=by rw [L.cells_len,List.length_take,Nat.min_eq_left h]
 rw [e,←hl,List.drop_left]
theorem Lay.read {l:List α} {j:Nat} {a:α} (h:l[j]? =some a) (hs:L.sz≠1):readAt (L.cells l) (j*L.sz) (some L.sz)=some (L.f a):=by
 have hlt:=lt_of_get h
 have hcl:=L.cells_len l
 have hle:j*L.sz+L.sz≤(L.cells l).length:=by
  rw [hcl]
  have:=Nat.mul_le_mul_right L.sz (Nat.succ_le_of_lt hlt)
  rw [Nat.succ_mul] at this
  exact this
 show (if j*L.sz+L.sz≤(L.cells l).length then some (AV.agg (((L.cells l).drop (j*L.sz)).take L.sz)) else none)=_
 rw [if_pos hle,L.drop (Nat.le_of_lt hlt),drop_cons h,L.cells_cons]
 have ha:=L.agg a
 rw [if_neg hs] at ha
 obtain ⟨cs,hcs⟩:=ha
 have hl:=L.len a
 rw [hcs] at hl ⊢
 simp only [AV.cells] at hl ⊢
 rw [←hl,List.take_left]
theorem Lay.splice {l:List α} {j:Nat} (a:α) (h:j < l.length):(L.cells l).take (j*L.sz) ++(L.f a).cells ++(L.cells l).drop (j*L.sz+L.sz)=L.cells (l.set j a):=by
 have e:j*L.sz+L.sz=(j+1)*L.sz:=by rw [Nat.add_mul]; simp
 rw [e,L.take (Nat.le_of_lt h),L.drop h,List.set_eq_take_append_cons_drop,if_pos h,L.cells_append,L.cells_cons,List.append_assoc]
end
theorem swap_set {α:Type} (A B:List α) (x y:α):((A ++y ::x ::B).set (A.length+1) y).set A.length x=A ++x ::y ::B:=by
 induction A with
 | nil=>rfl
 | cons a A ih=>simp [ih]
theorem Own.blk {α:Type} {L:Lay α} {σ:Store} {b:Nat} {l:List α} (h:Own L σ (some b) l):look σ.m b=some (.own (L.cells l)):=h.1
def InsQ (σ:Store) (b:Nat) (l:List Mem) (τ:Store):Prop:=Own LMem τ (some b) l∧τ.next=σ.next∧∀b',b'≠b→τ.get b'=σ.get b'
theorem c_ins (b N:Nat) (l:List Mem) (σ:Store) (hN:l.length=N) (hlt:N < 64) (ho:Own LMem σ (some b) l) :
  ∃σ',callS ipU gU (.fn 72 [] []) [.sl b 0 N 6 none, .int .i64 0, .int .i64 (N:Int), .fn 40 [] []] σ=some (.tup [],σ')∧InsQ σ b (sortM l) σ':=by
 have main:Ex ipU gU [.code F72.body] (initFr [.sl b 0 N 6 none, .int .i64 0, .int .i64 (N:Int), .fn 40 [] []]) σ fun fr' σ1=>resAll fr' σ1 F72.res=some (.tup [])∧InsQ σ b (sortM l) σ1:=by
  have w1:IntKind.wrap .i64 (0+1)=((1:Nat):Int):=by decide
  cases l with
  | nil=>
   subst hN
   have d0:decide (((1:Nat):Int) < (([] :List Mem).length:Int))=false:=rfl
   simp only [T13Fb,ex_loop,EXA,seval,w1,d0]
   exact ⟨ho,rfl,fun _ _=>rfl⟩
  | cons x0 r0=>
  simp only [F72_4,F72_9,F72_15,F72_25,F72,ex_loop,EXA,seval,w1]
  refine ex_whileI (S:=List Mem×List Mem) (fun p=> [(0, .sl b 0 N 6 none),(1, .int .i64 0),(2, .int .i64 (N:Int)),(3, .fn 40 [] []),(8, .int .i64 (p.1.length:Int))]) (fun p=>p.2.length)
   (fun p τ=>0 < p.1.length∧p.1.length+p.2.length=N∧sortR p.1 p.2=sortR [] (x0 ::r0)∧Own LMem τ (some b) (p.1.reverse ++p.2)∧τ.next=σ.next∧∀b',b'≠b→τ.get b'=σ.get b') ?_ ([x0],r0) σ ⟨by simp,by simp at hN ⊢; omega,rfl,ho,rfl,fun _ _=>rfl⟩
  rintro bd ⟨acc,rest⟩ τ ⟨k1,k2,k3,k4,k5,k6⟩ ih
  simp only at k1 k2 k3 k4 k5 k6 ih ⊢
  cases rest with
  | nil=>
   have d0:decide ((acc.length:Int) < (N:Int))=false:=by simp at k2 ⊢; omega
   simp only [T13Fb,EXA,seval,d0]
   have k3':acc=sortR [] (x0 ::r0):=k3
   refine ⟨?_,k5,k6⟩
   unfold sortM
   rw [←k3']; simpa using k4
  | cons x rest=>
   have d0:decide ((acc.length:Int) < (N:Int))=true:=by simp at k2 ⊢; omega
   simp only [T13Fb,ex_loop,EXA,seval,d0]
   have k3':sortR (insR x acc) rest=sortR [] (x0 ::r0):=k3
   refine ex_whileI (S:=List Mem×List Mem) (fun p=> [(0, .sl b 0 N 6 none),(1, .int .i64 0),(2, .int .i64 (N:Int)),(3, .fn 40 [] []),(8, .int .i64 (acc.length:Int)),(9, .int .i64 (p.1.length:Int))]) (fun p=>p.1.length)
    (fun p ρ=>p.1.length+p.2.length=acc.length∧p.2 ++insR x p.1=insR x acc∧Own LMem ρ (some b) (p.1.reverse ++x ::(p.2.reverse ++rest))∧ρ.next=σ.next∧∀b',b'≠b→ρ.get b'=σ.get b') ?_ (acc, []) τ ⟨by simp,rfl,by simpa using k4,k5,k6⟩
   rintro bd2 ⟨left,passed⟩ ρ ⟨q1,q2,q3,q4,q5⟩ ih2
   simp only at q1 q2 q3 q4 q5 ih2 ⊢
   have fin: ∀(fr':Fr) (ρ':Store),passed ++x ::left=insR x acc→Own LMem ρ' (some b) (left.reverse ++x ::(passed.reverse ++rest))→ρ'.next=σ.next→(∀b',b'≠b→ρ'.get b'=σ.get b')→
     keep [0,1,2,3,8] fr'= [(0, .sl b 0 N 6 none),(1, .int .i64 0),(2, .int .i64 (N:Int)),(3, .fn 40 [] []),(8, .int .i64 ((acc.length+1:Nat):Int))]→_:=fun fr' ρ' e1 e2 e3 e4 e5=>
    ih (passed ++x ::left,rest) fr' ρ' (by simp) ⟨by simp; omega,by simp at k2 ⊢; omega,by rw [e1]; exact k3',by simpa using e2,e3,e4⟩ (by
     have hh:(passed ++x ::left).length=acc.length+1:=by
      simp; omega
     rw [e5,hh])
   have hwi:=wsucc (j:=acc.length) (n:=64) (by simp at k2; omega) (by omega)
   cases left with
   | nil=>
    have d1:decide (((([] :List Mem).length:Nat):Int) > 0)=false:=rfl
    have d1':decide (0 < ((([] :List Mem).length:Nat):Int))=false:=rfl
    have d1'':decide (0 < ((0:Nat):Int))=false:=rfl
    simp only [T13Fa,EXA,seval,d1,d1',d1'',hwi]
    exact fin _ _ q2 q3 q4 q5 (by simp only [EXA,seval])
   | cons y r=>
    have hD:(y ::r).reverse ++x ::(passed.reverse ++rest)=r.reverse ++y ::x ::(passed.reverse ++rest):=by simp
    rw [hD] at q3
    have g0:(r.reverse ++y ::x ::(passed.reverse ++rest))[r.length]? =some y:=by
     rw [List.getElem?_append_right (by simp)]; simp
    have g1:(r.reverse ++y ::x ::(passed.reverse ++rest))[r.length+1]? =some x:=by
     rw [List.getElem?_append_right (by simp)]; simp
    have hrN:r.length+1 < N:=by simp at q1 k2; omega
    have d1:decide (((r.length+1:Nat):Int) > 0)=true:=by simp
    have d1':decide (0 < ((r.length+1:Nat):Int))=true:=by simp
    have i1:idxOf 6 none (.sl b 0 N 6 none) (.int .i64 ((r.length+1:Nat):Int))=some (.ptr b ((r.length+1)*6)):=by
     simp [idxOf]
     omega
    have i0:idxOf 6 none (.sl b 0 N 6 none) (.int .i64 ((r.length:Nat):Int))=some (.ptr b (r.length*6)):=by
     have:r.length < N:=by omega
     simp [idxOf,this]
    have wp:IntKind.wrap .i64 (((r.length+1:Nat):Int) - 1)=((r.length:Nat):Int):=by
     have:=wpred (j:=r.length+1) (by omega) (by omega)
     simpa using this
    have hlk:=q3.blk
    have hlen:(r.reverse ++y ::x ::(passed.reverse ++rest)).length=N:=by simp at q1 k2 ⊢; omega
    have rd1:readAt (LMem.cells _) ((r.length+1)*6) (some 6)=some (memE x):=LMem.read g1 (by decide)
    have rd0:readAt (LMem.cells _) (r.length*6) (some 6)=some (memE y):=LMem.read g0 (by decide)
    have hk:=r_key x y
    cases hb:bytesLess x.1 y.1
    ·simp only [T13Fa,EXA,seval,VX,d1,d1',i1,i0,wp,hlk,rd1,rd0,hk,keyC_lt,hb,hwi]
     simp only [insR,hb,Bool.false_eq_true,if_false] at q2
     exact fin _ _ q2 (by rw [hD]; exact q3) q4 q5 (by simp only [EXA,seval])
    ·simp only [insR,hb,if_true] at q2
     have hCl:=LMem.cells_len (r.reverse ++y ::x ::(passed.reverse ++rest))
     rw [hlen] at hCl
     have sw:=swap_set r.reverse (passed.reverse ++rest) x y
     rw [List.length_reverse] at sw
     have sp1:=LMem.splice (l:=r.reverse ++y ::x ::(passed.reverse ++rest)) (j:=r.length+1) y (by omega)
     generalize hD1:(r.reverse ++y ::x ::(passed.reverse ++rest)).set (r.length+1) y=D1 at sp1 sw
     have hl1:D1.length=N:=by rw [←hD1,List.length_set,hlen]
     have sp2:=LMem.splice (l:=D1) (j:=r.length) x (by omega)
     rw [sw] at sp2
     simp only [show ∀z,LMem.f z=memE z from fun _=>rfl,memE_cells,show LMem.sz=6 from rfl] at sp1 sp2
     have hc1:((r.length+1)*6+6≤(LMem.cells (r.reverse ++y ::x ::(passed.reverse ++rest))).length)=True:=eq_true (by rw [hCl]; show _≤N*6; omega)
     have hc2:(r.length*6+6≤(LMem.cells D1).length)=True:=eq_true (by rw [LMem.cells_len,hl1]; show _≤N*6; omega)
     simp only [T13Fa,EXA,seval,VX,d1,d1',i1,i0,wp,hlk,rd1,rd0,hk,keyC_lt,hb,hwi,hc1,sp1,hc2,sp2]
     refine ih2 (r,passed ++ [y]) _ _ (by simp) ⟨by simp at q1 ⊢; omega,by simpa using q2,?_,q4,?_⟩ (by simp only [EXA,seval])
     ·obtain ⟨o1,o2,o3,o4⟩:=q3
      refine ⟨?_,by simpa using LMem.cells_len (r.reverse ++x ::((passed ++ [y]).reverse ++rest)),o3,by simp; omega⟩
      simp [Store.get,look]
     ·intro b' hb'
      rw [←q5 b' hb']
      simp only [Store.get,look]
      rw [if_neg (fun hh=>hb' hh.symm),if_neg (fun hh=>hb' hh.symm)]
 obtain ⟨n,fr',σ1,h1,h2,h3⟩:=main
 exact ⟨σ1,callS_of (F:=F72) rfl (first:= []) (caps:= []) ⟨n,fr',σ1,h1,h2,rfl⟩,h3⟩
end Go.Ab
namespace Go.Ab
set_option maxHeartbeats 1000000
def T14Fb:= @F39.eq_1
set_option maxRecDepth 100000
theorem c_ins0 (v:AV) (σ:Store):callS ipU gU (.fn 72 [] []) [v, .int .i64 0, .int .i64 0, .fn 40 [] []] σ=some (.tup [],σ):=by
 refine callS_of (F:=F72) rfl (first:= []) (caps:= []) ?_
 have w1:IntKind.wrap .i64 (0+1)=((1:Nat):Int):=by decide
 have d0:decide (((1:Nat):Int) < 0)=false:=rfl
 simp only [F72_4,F72_9,F72_15,F72_25,F72_26,F72,ex_loop,EXA,Nat.reduceEqDiff,reduceIte,reduceCtorEq,Nat.reduceAdd,Nat.reduceLeDiff,Nat.reduceSub,Nat.reduceMul,Int.reduceEq,Int.reduceBEq,Int.reduceBNe,Int.reduceLT,Int.reduceLE,Nat.reduceLT,w1,d0]
def cpy (σ:Store) (l:List Mem):AV:=if l= [] then .vsl [] (some 0) else .sl σ.next 0 l.length 6 none
def cpyS (σ:Store) (l:List Mem):Store:=if l= [] then σ else σ.alloc (LMem.cells l)
theorem c_clone2 (l:List Mem) (c:Option Nat) (σ:Store) (hb:l.length < lim):callM ipU gU .split (.fn 38 [] []) [.vsl (l.map memE) c] σ=some (cpy σ l,cpyS σ l):=by
 unfold lim at hb
 cases l with
 | nil=>
  have hb2:both ipU gU (.fn 38 [] []) σ=true:=both_of 100 (by kernel_rfl) (by kernel_rfl)
  simp only [callM,List.map_nil,noItems,if_true,hb2,cpy,cpyS]
 | cons x l=>
  have hro: ∀σ',rowOf σ' 6 (.vsl ((x ::l).map memE) c)=some (LMem.cells (x ::l)):=fun σ'=>LMem.rowOf σ' (x ::l) c
  have ha:appendTo σ 6 96 (.vsl [] (some 0)) (LMem.cells (x ::l)) (l.length+1)=some (.sl σ.next 0 (l.length+1) 6 none,σ.alloc (LMem.cells (x ::l))):=
   app00 (by omega) (by omega) (by unfold maxBytes; simp at hb; omega) (LMem.cells_len (x ::l)) (LMem.cells_one _) (by omega)
  have hn:noItems [.vsl ((x ::l).map memE) c]=false:=rfl
  simp only [callM,hn,Bool.false_eq_true,if_false]
  refine callS_of (F:=F38) rfl (first:= []) (caps:= []) ?_
  simp only [List.map_cons] at hro
  simp only [F38,EXA,Nat.reduceEqDiff,reduceIte,reduceCtorEq,Nat.reduceAdd,Nat.reduceLeDiff,Nat.reduceSub,Nat.reduceMul,Int.reduceEq,Int.reduceBEq,Int.reduceBNe,Int.reduceLT,Int.reduceLE,Nat.reduceLT,VX,lenOf_vsl,hro,ha]
  simp [Store.alloc,cpy,cpyS]
theorem cpy_own {σ:Store} {l:List Mem} (h:l≠ []):Own LMem (cpyS σ l) (some σ.next) l:=by
 have hl:0 < l.length:=List.length_pos_iff.2 h
 rw [cpyS,if_neg h]
 exact ⟨get_alloc_next,LMem.cells_len l,by simp [next_alloc],hl⟩
theorem sortM_len (l:List Mem):(sortM l).length=l.length:=by simp [sortM,sortR_len]
theorem c_sort (l:List Mem) (σ:Store) (hb:l.length < 20): ∃σ',callS ipU gU (.fn 39 [] []) [cpy σ l, .fn 40 [] []] (cpyS σ l)=some (.tup [],σ')∧
  (if l= [] then σ'=σ else Own LMem σ' (some σ.next) (sortM l))∧Grown σ σ'∧σ'.next≤σ.next+1:=by
 have d1:decide ((20:Int)≤(l.length:Int))=false:=by simp; omega
 have d2:decide ((20:Int) < (l.length:Int))=false:=by simp; omega
 have h60: ∀(v:AV) (τ τ':Store),callS ipU gU (.fn 72 [] []) [v, .int .i64 0, .int .i64 (l.length:Int), .fn 40 [] []] τ=some (.tup [],τ')→
   callS ipU gU (.fn 60 [] []) [v, .int .i64 (l.length:Int), .fn 40 [] []] τ=some (.tup [],τ'):=by
  intro v τ τ' hc
  refine callS_of (F:=F60) rfl (first:= []) (caps:= []) ?_
  simp only [F60_27,F60_36,F60,ex_loop,EXA,Nat.reduceEqDiff,reduceIte,reduceCtorEq,Nat.reduceAdd,Nat.reduceLeDiff,Nat.reduceSub,Nat.reduceMul,Int.reduceEq,Int.reduceBEq,Int.reduceBNe,Int.reduceLT,Int.reduceLE,Nat.reduceLT,d1,d2,hc]
 by_cases h0:l= []
 ·subst h0
  refine ⟨σ,?_,by rw [if_pos rfl],Grown.refl _,by omega⟩
  have h:=h60 (.vsl [] (some 0)) σ σ (c_ins0 _ _)
  refine callS_of (F:=F39) rfl (first:= []) (caps:= []) ?_
  simp only [cpy,cpyS,if_true]
  simp only [T14Fb,EXA,Nat.reduceEqDiff,reduceIte,reduceCtorEq,Nat.reduceAdd,Nat.reduceLeDiff,Nat.reduceSub,Nat.reduceMul,Int.reduceEq,Int.reduceBEq,Int.reduceBNe,Int.reduceLT,Int.reduceLE,Nat.reduceLT,VX] at h ⊢
  simp only [h,EXA,Nat.reduceEqDiff,reduceIte,reduceCtorEq,Nat.reduceAdd,Nat.reduceLeDiff,Nat.reduceSub,Nat.reduceMul,Int.reduceEq,Int.reduceBEq,Int.reduceBNe,Int.reduceLT,Int.reduceLE,Nat.reduceLT]
 ·have ho:=cpy_own (σ:=σ) h0
  obtain ⟨σ',h1,h2,h3,h4⟩:=c_ins σ.next l.length l (cpyS σ l) rfl (by omega) ho
  have h:=h60 _ _ _ h1
  have hn:(cpyS σ l).next=σ.next+1:=by rw [cpyS,if_neg h0]; rfl
  refine ⟨σ',?_,by rw [if_neg h0]; exact h2,⟨by omega,fun b hb'=> ?_⟩,by omega⟩
  ·refine callS_of (F:=F39) rfl (first:= []) (caps:= []) ?_
   simp only [cpy,if_neg h0]
   simp only [T14Fb,EXA,Nat.reduceEqDiff,reduceIte,reduceCtorEq,Nat.reduceAdd,Nat.reduceLeDiff,Nat.reduceSub,Nat.reduceMul,Int.reduceEq,Int.reduceBEq,Int.reduceBNe,Int.reduceLT,Int.reduceLE,Nat.reduceLT,VX,h]
  ·rw [h4 b (by omega),cpyS,if_neg h0,get_alloc hb']
end Go.Ab
namespace Go.Ab
set_option maxHeartbeats 1000000
def T15Fa:=J @F20_5.eq_1 (J @F20_21.eq_1 (J @F20_22.eq_1 (@F20.eq_1)))
set_option maxRecDepth 100000
structure Acc {α:Type} (L:Lay α) (σ0 σ:Store) (v:AV) (l:List α):Prop where
 gr:Gr L σ v l
 far: ∀b o len sz c,v= .sl b o len sz c→σ0.next≤b
 grown:Grown σ0 σ
theorem Acc.newset {α:Type} {L:Lay α} {σ0 σ:Store} {v:AV} {l:List α} (h:Acc L σ0 σ v l) (cs cs':List AV):Acc L σ0 { next:=σ.next+1,m:=(σ.next, .own cs) ::(σ.next, .own cs') ::σ.m } v l where
 gr:=h.gr.newset cs cs'
 far:=h.far
 grown:=⟨by have:=h.grown.1; simp; omega,fun b hb=>by
  rw [←h.grown.2 b hb]
  have:=h.grown.1
  show look ((σ.next,Blk.own cs) ::(σ.next, .own cs') ::σ.m) b=look σ.m b
  simp only [look]; rw [if_neg (by omega),if_neg (by omega)]⟩
theorem Acc.app {α:Type} {L:Lay α} {σ0 σ:Store} {v:AV} {l m:List α} (h:Acc L σ0 σ v l) (hm:0 < m.length):Acc L σ0 (grNext L σ v l m) (.sl σ.next 0 (l ++m).length L.sz none) (l ++m) where
 gr:=Gr.own (h.gr.next hm)
 far:=fun b o len sz c he=>by simp only [AV.sl.injEq] at he; have:=h.grown.1; omega
 grown:=⟨by rw [grNext_next]; have:=h.grown.1; omega,fun b hb=>by
  have h1:=h.grown.1
  rw [grNext_get h.gr (by omega) (fun len sz c he=>by have:=h.far _ _ _ _ _ he; omega)]
  exact h.grown.2 b hb⟩
def dedupM:List Mem→List Mem
 | []=> []
 | [x]=> [x]
 | x ::y ::r=>if y.1=x.1 then dedupM (y ::r) else x ::dedupM (y ::r)
def mapOf (l:List Mem):V:=V.mk 5 0 [] [] (dedupM (sortM l))
theorem dedupM_len: ∀l:List Mem,(dedupM l).length≤l.length
 | []=>by simp [dedupM]
 | [x]=>by simp [dedupM]
 | x ::y ::r=>by
  have:=dedupM_len (y ::r)
  simp only [dedupM]
  split <;> simp at this ⊢ <;> omega
theorem r_Map (l:List Mem) (hb:l.length < 20):cR 20 [.vsl (l.map memE) none]=some (mapOf l).enc:=by
 refine cR_of (F:=F20) rfl ?_
 simp only [F20_5,F20_21,F20,ex_loop,EXA,seval,VX]
 have h1:=c_clone2 l none ⟨1, [(0, .own [.int .i64 0, .int .i64 0, .str [], .nils, .nils])]⟩ (by unfold lim; omega)
 obtain ⟨σ1,h2,h3,h4,h5⟩:=c_sort l ⟨1, [(0, .own [.int .i64 0, .int .i64 0, .str [], .nils, .nils])]⟩ hb
 have hN:=sortM_len l
 have hlen:lenL (cpy ⟨1, [(0, .own [.int .i64 0, .int .i64 0, .str [], .nils, .nils])]⟩ l)=some (.int .i64 (l.length:Int)):=by
  unfold cpy
  split
  ·rename_i h; subst h; rfl
  ·rfl
 have hidx: ∀j:Nat,j < l.length→idxOf 6 none (cpy ⟨1, [(0, .own [.int .i64 0, .int .i64 0, .str [], .nils, .nils])]⟩ l) (.int .i64 (j:Int))=some (.ptr 1 (j*6)):=by
  intro j hj
  have h0:l≠ []:=by rintro rfl; simp at hj
  unfold cpy
  rw [if_neg h0]
  simp [idxOf,hj]
 generalize cpy ⟨1, [(0, .own [.int .i64 0, .int .i64 0, .str [], .nils, .nils])]⟩ l=cv at h1 h2 hlen hidx
 simp only [h1]
 simp only [ex_loop,EXA,seval,VX,h2,hlen]
 unfold mapOf
 generalize hS:sortM l=S at h3 hN ⊢
 have z0:σ1.get 0=some (.own [.int .i64 0, .int .i64 0, .str [], .nils, .nils]):=h4.2 0 (by simp)
 have hnx:1≤σ1.next:=h4.1
 have own1: ∀j:Nat,j < l.length→Own LMem σ1 (some 1) S:=by
  intro j hj
  have h0:l≠ []:=by rintro rfl; simp at hj
  rw [if_neg h0] at h3
  exact h3
 refine ex_whileI (S:=Nat×List Mem×AV) (fun p=> [(0,cv),(2, .ptr 0 0),(3,p.2.2),(10,cv),(11, .int .i64 (l.length:Int)),(12, .int .i64 (p.1:Int))]) (fun p=>l.length - p.1)
  (fun p τ=>Acc LMem σ1 τ p.2.2 p.2.1∧p.2.1 ++dedupM (S.drop p.1)=dedupM S∧p.2.1.length≤p.1) ?_ (0, [], .nils) σ1 ⟨⟨Gr.nil _ _,fun b o len sz c h=>by simp at h,Grown.refl _⟩,by simp,by simp⟩
 rintro b ⟨j,acc,ov⟩ τ ⟨k1,k2,k3⟩ ih
 simp only at k1 k2 k3 ih ⊢
 by_cases hlt:j < l.length
 ·obtain ⟨x,hx⟩:=get_lt (l:=S) (j:=j) (by omega)
  have hcond:=dlt hlt
  have ho:=own1 j hlt
  have hb1:1 < σ1.next:=ho.lt
  have hg1:τ.get 1=some (.own (LMem.cells S)):=by rw [k1.grown.2 1 hb1]; exact ho.1
  have hlk:=look_get hg1
  have hne:(τ.next=1)=False:=eq_false (by have:=k1.grown.1; omega)
  have rd:readAt (LMem.cells S) (j*6) (some 6)=some (memE x):=LMem.read hx (by decide)
  have hi:=hidx j hlt
  have hw:=wsucc (j:=j) (n:=64) (by omega) (by omega)
  have hns:=k1.newset
  have hlo:lenOf (.vsl [memE x] (some 1))=some 1:=rfl
  have hro: ∀σ',rowOf σ' 6 (.vsl [memE x] (some 1))=some (memE x).cells:=fun σ'=>by
   have:=LMem.rowOf σ' [x] (some 1)
   simpa [Lay.cells,LMem] using this
  rw [drop_cons hx] at k2
  by_cases hlast:j+1=l.length
  ·have q1:(((j+1:Nat):Int) == (l.length:Int))=true:=by simp; omega
   have hd:S.drop (j+1)= []:=List.drop_eq_nil_of_le (by omega)
   rw [hd] at k2
   have happ: ∀cs cs',appendTo _ 6 96 ov (memE x).cells 1=some _:=fun cs cs'=>(hns cs cs').gr.push (a:=x) (bytes:=96) (by omega) (by unfold maxBytes; omega)
   simp only [memE_cells] at happ hro
   simp only [T15Fa,EXA,seval,VX,readAt_some,hcond,hi,hlk,hne,rd,hw,hlen,q1,hlo,hro,happ]
   refine ih (j+1,acc ++ [x],_) _ _ (by simp; omega) ⟨(hns _ _).app (by simp),?_,by simp; omega⟩ (by simp only [EXA,seval])
   rw [hd]
   simpa [dedupM] using k2
  ·have q1:(((j+1:Nat):Int) == (l.length:Int))=false:=by
    rw [beq_eq_false_iff_ne]; omega
   obtain ⟨y,hy⟩:=get_lt (l:=S) (j:=j+1) (by omega)
   have hi2:=hidx (j+1) (by omega)
   have hy0:readAt (LMem.cells S) ((j+1)*6) none=some (.str y.1):=by
    have:=LMem.read hy (by decide)
    show (LMem.cells S)[(j+1)*6]? =_
    have e:=LMem.drop (l:=S) (j:=j+1) (by omega)
    rw [drop_cons hy,LMem.cells_cons] at e
    have e2:((LMem.cells S).drop ((j+1)*6))[0]? =some (.str y.1):=by
     show ((LMem.cells S).drop ((j+1)*LMem.sz))[0]? =_
     rw [e]
     show ((memE y).cells ++_)[0]? =_
     rw [memE_cells]; rfl
    rw [List.getElem?_drop] at e2
    simpa using e2
   rw [drop_cons hy] at k2
   have hy1:(LMem.cells S)[(j+1)*6]? =some (.str y.1):=hy0
   by_cases hxy:y.1=x.1
   ·have q2:(!(y.1 == x.1))=false:=by simp [hxy]
    simp only [dedupM,hxy,if_true] at k2
    simp only [T15Fa,EXA,seval,VX,readAt_some,hcond,hi,hlk,hne,rd,hw,hlen,q1,hi2,hy1,q2]
    refine ih (j+1,acc,ov) _ _ (by simp; omega) ⟨hns _ _,?_,by simp; omega⟩ (by simp only [EXA,seval])
    rw [drop_cons hy]; exact k2
   ·have q2:(!(y.1 == x.1))=true:=by simp [hxy]
    simp only [dedupM,hxy,if_false] at k2
    have happ: ∀cs cs',appendTo _ 6 96 ov (memE x).cells 1=some _:=fun cs cs'=>(hns cs cs').gr.push (a:=x) (bytes:=96) (by omega) (by unfold maxBytes; omega)
    simp only [memE_cells] at happ hro
    simp only [T15Fa,EXA,seval,VX,readAt_some,hcond,hi,hlk,hne,rd,hw,hlen,q1,hi2,hy1,q2,hlo,hro,happ]
    refine ih (j+1,acc ++ [x],_) _ _ (by simp; omega) ⟨(hns _ _).app (by simp),?_,by simp; omega⟩ (by simp only [EXA,seval])
    rw [drop_cons hy]
    simpa using k2
 ·have hcond:=dge (Nat.not_lt.1 hlt)
  have hd:S.drop j= []:=List.drop_eq_nil_of_le (by omega)
  rw [hd] at k2
  simp only [dedupM,List.append_nil] at k2
  obtain ⟨p1,p2,p3,p4⟩:=k1.gr.plain
  have hlk0:=look_get ((k1.grown.2 0 (by omega)).trans z0)
  have hg2:Gr LMem { next:=τ.next,m:=(0, .own [.int .i64 5, .int .i64 0, .str [], .nils,ov]) ::τ.m } ov acc:=by
   rcases k1.gr with h | ⟨b',rfl,h⟩ | h
   ·exact .inl h
   ·have hb1:=k1.far b' _ _ _ _ rfl
    exact Gr.own (h.frame (by show look ((0,_) ::τ.m) b'=_; simp only [look]; rw [if_neg (by omega)]; rfl) (Nat.le_refl _))
   ·exact .inr (.inr h)
  have hrb:=RbL.agg (RbL.clo (x:= .int .i64 5) rfl (RbL.clo (x:= .int .i64 0) rfl (RbL.clo (x:= .str []) rfl (RbL.clo (x:= .nils) rfl (RbL.gr hg2 (RbL.nil _ 23))))))
  simp only [T15Fa,EXA,seval,VX,readAt_some,hcond,p1,p2,p3,p4,hlk0,hrb]
  rw [←k2]
  exact V.fold1 5 0 [] acc
end Go.Ab
namespace Go.Ab
set_option maxHeartbeats 1000000
set_option maxRecDepth 100000
end Go.Ab
namespace Go.Ab
set_option maxHeartbeats 1000000
def T16Fa:=J @F10_11.eq_1 (J @F10_22.eq_1 (J @F10_23.eq_1 (@F10.eq_1)))
def T16Fb:=J @F10_11.eq_1 (J @F10_22.eq_1 (@F10.eq_1))
set_option maxRecDepth 100000
theorem idx_str {l:List Bs} {j:Nat} {s:Bs} {c:Option Nat} (h:l[j]? =some s):idxOf 1 none (.vsl (l.map AV.str) c) (.int .i64 (j:Int))=some (.vptr [.str s] 0):=idx_map (f:=AV.str) h rfl
theorem neLen {a b:Nat}:((a:Int) != (b:Int))= !(decide (a=b)):=by
 by_cases h:a=b
 ·simp [h]
 ·have:(a:Int)≠(b:Int):=by omega
  simp [h,this]
theorem r_Texts (l m:List Bs) (hb:l.length < big):cR 10 [.vsl (l.map .str) none, .vsl (m.map .str) none]=some (.bool (l == m)):=by
 unfold big at hb
 refine cR_of (F:=F10) rfl ?_
 by_cases hl:l.length=m.length
 ·have hd:(!decide (l.length=m.length))=false:=by simp [hl]
  simp only [T16Fb,ex_loop,EXA,seval,VX,neLen,hd]
  refine ex_while (S:=Nat) (fun j=> [(0, .vsl (l.map .str) none),(1, .vsl (m.map .str) none),(5, .int .i64 (j:Int))]) (fun _=> .empty) (fun j=>l.length - j) (fun j=>(l.drop j == m.drop j)=(l == m)) ?_ 0 rfl
  intro b j hj ih
  by_cases hlt:j < l.length
  ·obtain ⟨x,hx⟩:=get_lt hlt
   obtain ⟨y,hy⟩:=get_lt (l:=m) (j:=j) (by omega)
   have i1:=idx_str (c:=none) hx
   have i2:=idx_str (c:=none) hy
   have hcond:=dlt hlt
   rw [drop_cons hx,drop_cons hy] at hj
   by_cases hxy:x=y
   ·subst hxy
    have hxx:(!(x == x))=false:=by simp
    simp only [T16Fa,EXA,seval,VX,hcond,i1,i2,hxx]
    refine ih (j+1) _ _ (by omega) ?_ ?_ rfl
    ·rw [←hj]; simp
    ·rw [wsucc hlt (by omega)]; simp only [EXA,seval]
   ·have hxx:(!(x == y))=true:=by simp [hxy]
    have hb:(l == m)=false:=by rw [←hj]; simp [hxy]
    simp only [T16Fa,EXA,seval,VX,hcond,i1,i2,hxx,hb]
  ·have hcond:=dge (Nat.not_lt.1 hlt)
   have hb:(l == m)=true:=by
    rw [←hj,List.drop_eq_nil_of_le (by omega),List.drop_eq_nil_of_le (by omega)]; rfl
   simp only [T16Fa,EXA,seval,VX,hcond,hb]
 ·have hd:(!decide (l.length=m.length))=true:=by simp [hl]
  have hb:(l == m)=false:=by
   rw [beq_eq_false_iff_ne]; rintro rfl; exact hl rfl
  simp only [T16Fb,EXA,seval,VX,neLen,hd,hb]
end Go.Ab
namespace Go.Ab
set_option maxHeartbeats 1000000
def S1Fe:=J @F7_11.eq_1 (J @F7_22.eq_1 (J @F7_23.eq_1 (@F7.eq_1)))
def S1Ff:=J @F7_11.eq_1 (J @F7_22.eq_1 (@F7.eq_1))
set_option maxRecDepth 100000
theorem r_slots (a b:List Slt) (hb:a.length < big):cR 7 [.vsl (a.map sltE) none, .vsl (b.map sltE) none]=some (.bool (decide (a=b))):=by
 unfold big at hb
 refine cR_of (F:=F7) rfl ?_
 obtain ⟨r,hr⟩ : ∃r,r=AV.bool (decide (a=b)):=⟨_,rfl⟩
 rw [←hr]
 by_cases hl:a.length=b.length
 ·have hd:(!decide (a.length=b.length))=false:=by simp [hl]
  simp only [S1Ff,ex_loop,EXA,seval,VX,neLen,hd]
  refine ex_while (S:=Nat) (fun j=> [(0, .vsl (a.map sltE) none),(1, .vsl (b.map sltE) none),(5, .int .i64 (j:Int))]) (fun _=> .empty) (fun j=>a.length - j) (fun j=>decide (a.drop j=b.drop j)=decide (a=b)) ?_ 0 rfl
  intro bb j hj ih
  by_cases hlt:j < a.length
  ·obtain ⟨x,hx⟩:=get_lt hlt
   obtain ⟨y,hy⟩:=get_lt (l:=b) (j:=j) (by omega)
   have i1:=idx_slt (c:=none) hx
   have i2:=idx_slt (c:=none) hy
   have hcond:=dlt hlt
   have hw:=wsucc hlt (by omega)
   rw [drop_cons hx,drop_cons hy] at hj
   cases hxy:sEq x y with
   | true=>
    have he:=sEq_iff.1 hxy
    subst he
    simp only [S1Fe,EXA,seval,VX,readAt_some,hcond,i1,i2,Slt.eta,eqs_slt,hxy,hw]
    exact ih (j+1) _ _ (by omega) (by rw [←hj]; simp) rfl rfl
   | false=>
    have he:x≠y:=fun h=>by rw [sEq_iff.2 h] at hxy; simp at hxy
    have:decide (a=b)=false:=by rw [←hj]; simp [he]
    rw [this] at hr
    simp only [S1Fe,EXA,seval,VX,readAt_some,hcond,i1,i2,Slt.eta,eqs_slt,hxy,hr]
  ·have hcond:=dge (Nat.not_lt.1 hlt)
   have:decide (a=b)=true:=by
    rw [←hj,List.drop_eq_nil_of_le (by omega),List.drop_eq_nil_of_le (by omega)]; rfl
   rw [this] at hr
   simp only [S1Fe,EXA,seval,VX,hcond,hr]
 ·have hd:(!decide (a.length=b.length))=true:=by simp [hl]
  have:decide (a=b)=false:=by simp; rintro rfl; exact hl rfl
  rw [this] at hr
  simp only [S1Ff,EXA,seval,VX,neLen,hd,hr]
end Go.Ab
namespace Go.Ab
set_option maxHeartbeats 1000000
set_option maxRecDepth 100000
end Go.Ab
namespace Go.Ab
set_option maxHeartbeats 1000000
set_option maxRecDepth 100000
end Go.Ab
namespace Go.Ab
set_option maxHeartbeats 1000000
set_option maxRecDepth 100000
end Go.Ab
namespace Go.Ab
set_option maxHeartbeats 1000000
set_option maxRecDepth 100000
end Go.Ab
namespace Go.Ab
set_option maxHeartbeats 1000000
set_option maxRecDepth 100000
section
variable {e:Ev} {k:List Item} {σ:Store} {Q:Fr→Store→Prop}
end
end Go.Ab
namespace Go.Ab
set_option maxHeartbeats 1000000
set_option maxRecDepth 100000
end Go.Ab
namespace Go.Ab
set_option maxHeartbeats 1000000
set_option maxRecDepth 100000
end Go.Ab
namespace Go.Ab
set_option maxHeartbeats 1000000
set_option maxRecDepth 100000
end Go.Ab
namespace Go.Ab
set_option maxHeartbeats 1000000
set_option maxRecDepth 100000
end Go.Ab
namespace Go.Ab
set_option maxHeartbeats 1000000
set_option maxRecDepth 100000
end Go.Ab
namespace Go.Ab
set_option maxHeartbeats 1000000
set_option maxRecDepth 100000
end Go.Ab
namespace Go.Ab
set_option maxHeartbeats 1000000
set_option maxRecDepth 100000
end Go.Ab
namespace Go.Ab
set_option maxHeartbeats 1000000
set_option maxRecDepth 100000
end Go.Ab
namespace Go.Ab
set_option maxHeartbeats 1000000
set_option maxRecDepth 100000
theorem rb_slp {σ:Store} {d b n sz:Nat} {cells rest:List AV} (h:σ.cells b=some (cells ++rest)) (h2:cells.length=n*sz) (hs:0 < sz) (hc:closedL cells=true) (ha:cells.all AV.notAgg=true) :
  rb σ (d+1) (.sl b 0 n sz none)=some (.vsl (chunks sz n cells) none):=by
 have ht:List.take (n*sz) (List.drop 0 (cells ++rest))=cells:=by rw [List.drop_zero,←h2,List.take_left]
 have e:rb σ (d+1) (.sl b 0 n sz none)=(match σ.cells b with
   | some cs=>
    if 0+n*sz≤cs.length∧0 < sz then
     match mapO (rb σ d) ((cs.drop 0).take (n*sz)) with
     | some cs'=>if cs'.all AV.notAgg then some (.vsl (chunks sz n cs') none) else none
     | none=>none
    else none
   | none=>none):=rfl
 rw [e,h]
 simp only
 rw [if_pos ⟨by rw [List.length_append]; omega,hs⟩,ht,mapO_closed' hc]
 simp only
 rw [if_pos ha]
def Rp {α:Type} (L:Lay α) (σ:Store) (v:AV) (l:List α):Prop:=(l= []∧(v= .nils∨v= .vsl [] (some 0)))∨∃b rest,v= .sl b 0 l.length L.sz none∧σ.get b=some (.own (L.cells l ++rest))
theorem Rp.rbD {α:Type} {L:Lay α} {σ:Store} {v:AV} {l:List α} (h:Rp L σ v l) (d:Nat): ∃v',Go.Ab.rb σ (d+1) v=some v'∧v'.er= .vsl (l.map L.f) none:=by
 rcases h with ⟨rfl,rfl | rfl⟩ | ⟨b,rest,rfl,h⟩
 ·exact ⟨_,rfl,by simp only [AV.er]; rfl⟩
 ·exact ⟨_,rb_closed' rfl,by simp only [AV.er,erL]; rfl⟩
 ·refine ⟨_,rb_slp (cells:=L.cells l) (rest:=rest) (by simp [Store.cells,h]) (L.cells_len l) L.pos (L.cells_closed l) (one_notAgg (L.cells_one l)),?_⟩
  rw [L.chunks]; simp only [AV.er,L.erMap]
theorem RbL.rp {α:Type} {L:Lay α} {σ:Store} {d:Nat} {v:AV} {l:List α} {cs cs':List AV} (hv:Rp L σ v l) (h:RbL σ (d+1) cs cs'):RbL σ (d+1) (v ::cs) (.vsl (l.map L.f) none ::cs'):=by
 obtain ⟨m,h1,h2⟩:=h
 obtain ⟨v',h3,h4⟩:=hv.rbD d
 exact ⟨v' ::m,by simp only [mapO,h3,h1],by simp only [erL,h2,h4]⟩
end Go.Ab
namespace Go.Ab
set_option maxHeartbeats 1000000
set_option maxRecDepth 100000
abbrev zMem:List AV:= [.str [], .int .i64 0, .int .i64 0, .str [], .nils, .nils]
structure DelI (l:List Mem) (p:Mem→Bool) (b0:Nat) (σ0:Store) (j:Nat) (kept junk:List Mem) (σ:Store):Prop where
 row:look σ.m b0=some (.own (LMem.cells (kept ++junk ++l.drop j)))
 len:kept.length+junk.length=j
 le:j≤l.length
 kept_eq:kept=(l.take j).filter fun x=> !p x
 nx:σ0.next≤σ.next
 old: ∀b,b < σ0.next→b≠b0→σ.get b=σ0.get b
 b0:b0 < σ0.next
theorem idx_sl {b n j:Nat} {σ:Store} (h:j < n):idxOf 6 none (.sl b 0 n 6 none) (.int .i64 (j:Int))=some (.ptr b (j*6)):=by
 have h2:((j:Int) < (n:Int)):=by omega
 simp [Go.Ab.idxOf,h2]
end Go.Ab
namespace Go.Ab
set_option maxHeartbeats 1000000
set_option maxRecDepth 100000
theorem c_cloneM0 (c:Option Nat) (σ:Store):callM ipU gU .split (.fn 38 [] []) [.vsl [] c] σ=some (.vsl [] (some 0),σ):=by
 have hb2:both ipU gU (.fn 38 [] []) σ=true:=both_of 100 (by kernel_rfl) (by kernel_rfl)
 simp only [callM,noItems,if_true,hb2]
theorem c_cloneM1 (x:Mem) (l:List Mem) (c:Option Nat) (σ:Store) (hb:(x ::l).length < lim) :
  callM ipU gU .split (.fn 38 [] []) [.vsl ((x ::l).map memE) c] σ=some (.sl σ.next 0 (x ::l).length 6 none,σ.alloc (LMem.cells (x ::l))):=by
 unfold lim at hb
 have hro: ∀σ',rowOf σ' 6 (.vsl ((x ::l).map memE) c)=some (LMem.cells (x ::l)):=fun σ'=>LMem.rowOf σ' (x ::l) c
 have ha:appendTo σ 6 96 (.vsl [] (some 0)) (LMem.cells (x ::l)) (l.length+1)=some (.sl σ.next 0 (l.length+1) 6 none,σ.alloc (LMem.cells (x ::l))):=
  app00 (by omega) (by omega) (by unfold maxBytes; simp at hb; omega) (LMem.cells_len (x ::l)) (LMem.cells_one _) (by omega)
 have hn:noItems [.vsl ((x ::l).map memE) c]=false:=rfl
 simp only [callM,hn,Bool.false_eq_true,if_false]
 refine callS_of (F:=F38) rfl (first:= []) (caps:= []) ?_
 simp only [List.map_cons] at hro
 simp only [F38,EXA,seval,VX,lenOf_vsl,hro,ha]
def withoutV (v:V) (p:Bs→Bool):V:=if v.kind=5 then V.mk v.kind v.n v.s v.l (v.m.filter fun x=> !p x.1) else v
def dropV (v:V) (keys:List Bs):V:=withoutV v (hasS keys)
end Go.Ab
namespace Go.Ab
set_option maxHeartbeats 1000000
set_option maxRecDepth 100000
def GM (σ:Store) (v:AV) (l:List Mem):Prop:=(v= .nils∧l= [])∨∃b,v= .sl b 0 l.length 6 none∧look σ.m b=some (.own (LMem.cells l))∧b < σ.next∧0 < b
theorem GM.lenL {σ:Store} {v:AV} {l:List Mem} (h:GM σ v l):lenL v=some (.int .i64 l.length):=by
 rcases h with ⟨rfl,rfl⟩ | ⟨b,rfl,_⟩ <;> rfl
def shC (acc:List Mem) (j:Nat) (junk:List AV):List AV:=LMem.cells (acc.take j) ++junk ++LMem.cells (acc.drop j)
theorem take_cells (acc:List Mem) {j:Nat} (h:j≤acc.length):(LMem.cells (acc.take j)).length=j*6:=by
 rw [LMem.cells_len,List.length_take,Nat.min_eq_left h]; rfl
end Go.Ab
namespace Go.Ab
set_option maxHeartbeats 1000000
set_option maxRecDepth 100000
theorem GM.frame {σ σ':Store} {v:AV} {l:List Mem} (h:GM σ v l) (hn:σ.next≤σ'.next) (hg: ∀b,v= .sl b 0 l.length 6 none→look σ'.m b=look σ.m b):GM σ' v l:=by
 rcases h with h | ⟨b,rfl,h1,h2,h3⟩
 ·exact .inl h
 ·exact .inr ⟨b,rfl,by rw [hg b rfl]; exact h1,by omega,h3⟩
theorem GM.app {σ:Store} {v:AV} {l:List Mem} (h:GM σ v l) (hl:l.length < lim) (hn:0 < σ.next): ∃σ',appendTo σ 6 96 v zMem 1=some (.sl σ.next 0 (l.length+1) 6 none,σ')∧
  look σ'.m σ.next=some (.own (shC l l.length zMem))∧σ'.next=σ.next+1∧look σ'.m 0=look σ.m 0:=by
 unfold lim at hl
 have hc:shC l l.length zMem=LMem.cells l ++zMem:=by
  unfold shC
  rw [List.take_of_length_le (Nat.le_refl _),List.drop_of_length_le (Nat.le_refl _)]
  simp [Lay.cells]
 rcases h with ⟨rfl,rfl⟩ | ⟨b,rfl,h1,h2,h3⟩
 ·obtain ⟨σ',a1,a2,a3,a4⟩:=append_own (σ:=σ) (sz:=6) (bytes:=96) (n:=0) (k:=1) (ob:=none) (cells:= []) (new:=zMem) ⟨rfl,rfl⟩ (by omega) (by omega) (by unfold maxBytes; omega) rfl rfl (by omega)
  refine ⟨σ',a1,?_,a3,a4 0 hn (by simp)⟩
  rw [hc]
  exact a2.1
 ·cases l with
  | nil=>
   refine ⟨(σ.set b .dead).alloc ([] ++zMem),?_,?_,rfl,?_⟩
   ·have ho:σ.owned b=some []:=by
     have:σ.get b=some (.own (LMem.cells [])):=h1
     simp [Store.owned,this,Lay.cells]
    unfold appendTo
    simp only [lenOf,ho,List.length_nil]
    simp [maxBytes,AV.one]
   ·rw [hc]; exact get_alloc_next (σ:=σ.set b .dead)
   ·have:=get_alloc (σ:=σ.set b .dead) (cs:= [] ++zMem) (b:=0) (by rw [next_set]; omega)
    exact this.trans (get_set (by omega))
  | cons x l=>
   obtain ⟨σ',a1,a2,a3,a4⟩:=append_own (σ:=σ) (sz:=6) (bytes:=96) (n:=(x ::l).length) (k:=1) (ob:=some b) (cells:=LMem.cells (x ::l)) (new:=zMem) ⟨h1,LMem.cells_len _,h2,by simp⟩ (by omega) (by omega) (by unfold maxBytes; omega) rfl rfl (by omega)
   refine ⟨σ',a1,?_,a3,a4 0 hn (by simp; omega)⟩
   rw [hc]
   exact a2.1
end Go.Ab
namespace Go.Ab
set_option maxHeartbeats 1000000
set_option maxRecDepth 100000
def Rd {α:Type} (L:Lay α) (σ:Store) (v:AV) (l:List α):Prop:=
 (v= .nils∧l= [])∨(∃b,v= .sl b 0 l.length L.sz none∧σ.cells b=some (L.cells l)∧b < σ.next)∨v= .vsl (l.map L.f) (some l.length)
section
variable {α:Type} {L:Lay α} {σ:Store} {v:AV} {l:List α}
theorem Gr.rd (h:Gr L σ v l):Rd L σ v l:=by
 rcases h with h | ⟨b,rfl,h⟩ | h
 ·exact .inl h
 ·exact .inr (.inl ⟨b,rfl,by have:=h.1; simp [Store.cells,this],h.lt⟩)
 ·exact .inr (.inr h)
theorem freeze_cells (σ:Store) (b:Nat):σ.freeze.cells b=σ.cells b:=by
 have e:σ.freeze.get b=(σ.get b).map fun x=>match x with | .own cs=> .frz cs | x=>x:=by
  unfold Store.freeze Store.get
  simp only
  induction σ.m with
  | nil=>rfl
  | cons p l ih=>
   obtain ⟨i,x⟩:=p
   simp only [List.map_cons,look]
   by_cases h:i=b
   ·rw [if_pos h,if_pos h]; rfl
   ·rw [if_neg h,if_neg h]; exact ih
 unfold Store.cells
 rw [e]
 cases σ.get b with
 | none=>rfl
 | some x=>cases x <;> rfl
theorem Rd.freeze (h:Rd L σ v l):Rd L σ.freeze v l:=by
 rcases h with h | ⟨b,rfl,h,h2⟩ | h
 ·exact .inl h
 ·exact .inr (.inl ⟨b,rfl,by rw [freeze_cells]; exact h,h2⟩)
 ·exact .inr (.inr h)
theorem Rd.newset (h:Rd L σ v l) (cs cs':List AV):Rd L { next:=σ.next+1,m:=(σ.next, .own cs) ::(σ.next, .own cs') ::σ.m } v l:=by
 rcases h with h | ⟨b,rfl,h,h2⟩ | h
 ·exact .inl h
 ·refine .inr (.inl ⟨b,rfl,?_,by simp; omega⟩)
  have:Store.get { next:=σ.next+1,m:=(σ.next, .own cs) ::(σ.next, .own cs') ::σ.m } b=σ.get b:=by
   show look ((σ.next,Blk.own cs) ::(σ.next, .own cs') ::σ.m) b=look σ.m b
   simp only [look]; rw [if_neg (by omega),if_neg (by omega)]
  unfold Store.cells at h ⊢
  rw [this]; exact h
 ·exact .inr (.inr h)
theorem Rd.rb (h:Rd L σ v l): ∃v',Go.Ab.rb σ rbDepth v=some v'∧v'.er= .vsl (l.map L.f) none:=by
 rcases h with ⟨rfl,rfl⟩ | ⟨b,rfl,h,_⟩ | rfl
 ·exact ⟨_,rfl,by simp only [AV.er]; rfl⟩
 ·refine ⟨_,rb_sl (d:=23) h (L.cells_len l) L.pos (L.cells_closed l) (one_notAgg (L.cells_one l)),?_⟩
  rw [L.chunks]; simp only [AV.er,L.erMap]
 ·refine ⟨_,rb_closed' (by simp only [AV.closed]; exact closedL_map fun a _=>L.closed a),?_⟩
  simp only [AV.er,L.erMap]
def Dis (v w:AV):Prop:=∀b o len sz c o' len' sz' c',v= .sl b o len sz c→w≠ .sl b o' len' sz' c'
theorem Dis.symm {v w:AV} (h:Dis v w):Dis w v:=fun _ _ _ _ _ _ _ _ _ h1 h2=>h _ _ _ _ _ _ _ _ _ h2 h1
end
theorem Gr.idxS {σ:Store} {v:AV} {l:List Bs} (h:Gr LStr σ v l) {j:Nat} {s:Bs} (hj:l[j]? =some s): ∃p,idxOf 1 none v (.int .i64 (j:Int))=some p∧readPtr σ p none=some (.str s):=by
 have hlt:=lt_of_get hj
 have hc: ∀m:List Bs,LStr.cells m=m.map AV.str:=by
  intro m; simp only [Lay.cells,LStr,AV.cells]; induction m with
  | nil=>rfl
  | cons a m ih=>simp [ih]
 rcases h with ⟨rfl,rfl⟩ | ⟨b,rfl,h⟩ | rfl
 ·simp at hj
 ·refine ⟨.ptr b j,?_,?_⟩
  ·simp [idxOf,LStr,hlt]
  ·have:=h.1
   simp only [readPtr,Store.cells,this,readAt,hc,List.getElem?_map,hj,Option.map_some]
 ·refine ⟨.vptr [.str s] 0,idx_map (f:=AV.str) hj rfl,rfl⟩
end Go.Ab
namespace Go.Ab
set_option maxHeartbeats 1000000
set_option maxRecDepth 100000
def tV3 (s:Bs):V:=V.mk 3 0 s [] []
def lV (l:List Bs):V:=V.mk 4 0 [] (l.map tV3) []
structure LSt (σ:Store) (v:AV) (acc:List V):Prop where
 one:look σ.m 1=some (.own [.int .i64 4, .int .i64 0, .str [],v, .nils])
 nil:look σ.m 0=some (.own [.int .i64 0, .int .i64 0, .str [], .nils, .nils])
 gr:Gr LV σ v acc
 nx:1 < σ.next
 far: ∀b len sz c,b < 2→v≠ .sl b 0 len sz c
theorem LSt.push {σ:Store} {v:AV} {acc:List V} (h:LSt σ v acc) (hl:acc.length < lim) (x:V) :
  appendTo σ 5 80 v x.enc.cells 1=some (.sl σ.next 0 (acc ++ [x]).length 5 none,grNext LV σ v acc [x])∧look (grNext LV σ v acc [x]).m 1=some (.own [.int .i64 4, .int .i64 0, .str [],v, .nils])∧
  LSt { next:=(grNext LV σ v acc [x]).next,m:=(1, .own [.int .i64 4, .int .i64 0, .str [], .sl σ.next 0 (acc ++ [x]).length 5 none, .nils]) ::(grNext LV σ v acc [x]).m } (.sl σ.next 0 (acc ++ [x]).length 5 none) (acc ++ [x]):=by
 unfold lim at hl
 have hnx:=h.nx
 have hn:=grNext_next LV σ v acc [x]
 have g1:look (grNext LV σ v acc [x]).m 1=look σ.m 1:=grNext_get (m:= [x]) h.gr hnx (fun len sz c=>h.far 1 len sz c (by omega))
 have g0:look (grNext LV σ v acc [x]).m 0=look σ.m 0:=grNext_get (m:= [x]) h.gr (by omega) (fun len sz c=>h.far 0 len sz c (by omega))
 have hg:=h.gr.next (m:= [x]) (by simp)
 refine ⟨h.gr.push (a:=x) (bytes:=80) (by omega) (by unfold maxBytes; omega),by rw [g1]; exact h.one,by simp [look],?_,?_,by show 1 < (grNext LV σ v acc [x]).next; omega,?_⟩
 ·show look ((1,_) ::_) 0=_
  simp only [look]
  rw [if_neg (by omega),g0]; exact h.nil
 ·exact Gr.own (L:=LV) (hg.frame (by show look ((1,_) ::_) σ.next=look _ σ.next; simp only [look]; rw [if_neg (by omega)]) (Nat.le_refl _))
 ·intro b len sz c hb hv
  simp only [AV.sl.injEq] at hv
  omega
theorem LSt.fin {σ:Store} {v:AV} {acc:List V} (h:LSt σ v acc):rbE { next:=σ.next,m:=(0, .own [.int .i64 4, .int .i64 0, .str [],v, .nils]) ::σ.m } (.agg [.int .i64 4, .int .i64 0, .str [],v, .nils])=some (V.mk 4 0 [] acc []).enc:=by
 have hg:Gr LV { next:=σ.next,m:=(0, .own [.int .i64 4, .int .i64 0, .str [],v, .nils]) ::σ.m } v acc:=by
  rcases h.gr with g | ⟨b,rfl,g⟩ | g
  ·exact .inl g
  ·refine .inr (.inl ⟨b,rfl,g.frame ?_ (Nat.le_refl _)⟩)
   have hb:b≠0:=by rintro rfl; exact h.far 0 _ _ _ (by omega) rfl
   show look ((0,_) ::_) b=look _ b
   simp only [look]; rw [if_neg (fun hh=>hb hh.symm)]
  ·exact .inr (.inr g)
 have:=RbL.agg (RbL.clo (x:= .int .i64 4) rfl (RbL.clo (x:= .int .i64 0) rfl (RbL.clo (x:= .str []) rfl (RbL.gr hg (RbL.clo (x:= .nils) rfl (RbL.nil _ 23))))))
 simp only [er_int,er_str,er_nils] at this
 rw [V.enc_eq]
 exact this
end Go.Ab
namespace Go.Ab
set_option maxHeartbeats 1000000
set_option maxRecDepth 100000
structure KSt (σ:Store) (v:AV) (acc:List Mem):Prop where
 nil:look σ.m 0=some (.own [.int .i64 0, .int .i64 0, .str [], .nils, .nils])
 gr:Gr LMem σ v acc
 nx:0 < σ.next
 far: ∀len sz c,v≠ .sl 0 0 len sz c
theorem KSt.push {σ:Store} {v:AV} {acc:List Mem} (h:KSt σ v acc) (hl:acc.length < lim) (x:Mem) :
  appendTo σ 6 96 v (memE x).cells 1=some (.sl σ.next 0 (acc ++ [x]).length 6 none,grNext LMem σ v acc [x])∧KSt (grNext LMem σ v acc [x]) (.sl σ.next 0 (acc ++ [x]).length 6 none) (acc ++ [x]):=by
 unfold lim at hl
 have hnx:=h.nx
 have hn:=grNext_next LMem σ v acc [x]
 have g0:look (grNext LMem σ v acc [x]).m 0=look σ.m 0:=grNext_get (m:= [x]) h.gr (by omega) h.far
 refine ⟨h.gr.push (a:=x) (bytes:=96) (by omega) (by unfold maxBytes; omega),by rw [g0]; exact h.nil,Gr.own (h.gr.next (m:= [x]) (by simp)),by omega,?_⟩
 intro len sz c hv
 simp only [AV.sl.injEq] at hv
 omega
end Go.Ab
namespace Go.Ab
set_option maxHeartbeats 1000000
set_option maxRecDepth 100000
section
variable (e:Ev)
end
end Go.Ab
namespace Go.Ab
set_option maxHeartbeats 1000000
set_option maxRecDepth 100000
theorem ex_arity {ip:Nat→Option IFunc} {G:Nat→List AV} {m:Nat} {c:ICode} {k:List Item} {fr:Fr} {σ:Store} {Q:Fr→Store→Prop} (h:fr.length=m):Ex ip G (.code (.arity m c) ::k) fr σ Q↔Ex ip G (.code c ::k) fr σ Q:=
 ex_step fun n=>by simp only [run,h,if_true]
theorem c_insert {x y:AV} {i:Int} {σ:Store} {r:AV×Store} (h:insertTo σ 6 96 x i y=some r):callS ipU gU (.fn 153 [] []) [x, .int .i64 i,y] σ=some r:=by
 obtain ⟨v,σ'⟩:=r
 refine callS_of (F:=F153) rfl (first:= []) (caps:= []) ?_
 simp only [F153,natF,List.nil_append,List.append_nil]
 rw [ex_arity (by rfl)]
 simp only [EXA,seval,h]
def zK (k:Bs):List AV:= [.str k, .int .i64 0, .int .i64 0, .str [], .nils, .nils]
theorem insC_len (l:List Mem) (i:Nat) (hi:i≤l.length) (k:Bs):(LMem.cells (l.take i) ++zK k ++LMem.cells (l.drop i)).length=(l.length+1)*6:=by
 rw [List.length_append,List.length_append,LMem.cells_len,LMem.cells_len,List.length_take,List.length_drop]
 show min i l.length*6+6+(l.length - i)*6=_
 omega
theorem ins_to (l:List Mem) (b c:Nat) (σ:Store) (i:Nat) (k:Bs) (hl:l.length < lim) (hi:i≤l.length) (hb:σ.get b=some (.own (LMem.cells l))) (hc:σ.get c=some (.own (zK k))) (hbc:b≠c) (hn:0 < l.length) :
  insertTo σ 6 96 (.sl b 0 l.length 6 none) (i:Int) (.sl c 0 1 6 (some 1))=some (.sl σ.next 0 (l.length+1) 6 none,(σ.set b .dead).alloc (LMem.cells (l.take i) ++zK k ++LMem.cells (l.drop i))):=by
 unfold lim at hl
 have hob:σ.owned b=some (LMem.cells l):=by simp [Store.owned,hb]
 have hoc:σ.owned c=some (zK k):=by simp [Store.owned,hc]
 have hro:rowOf σ 6 (.sl c 0 1 6 (some 1))=some (zK k):=by simp [rowOf,Store.cells,hc,zK]
 have hck:=LMem.cells_len l
 have hsz:LMem.sz=6:=rfl
 rw [hsz] at hck
 have hone:=LMem.cells_one l
 have hz1:(zK k).all AV.one=true:=rfl
 unfold insertTo
 simp only [lenOf,hro]
 by_cases he:(i:Int)=(l.length:Int)
 ·have he':i=l.length:=by omega
  subst he'
  rw [if_pos rfl,if_pos (by omega)]
  simp only [appendTo,lenOf,hob]
  rw [if_pos ⟨by omega,by omega,by unfold maxBytes; omega,rfl,hz1⟩]
  simp only [if_true]
  rw [if_neg (by omega),if_pos (by omega)]
  simp [Lay.cells]
 ·rw [if_neg he]
  simp only [hob,hoc]
  rw [if_pos ⟨hbc,by trivial,by omega,by omega,by omega,by omega,by omega,by unfold maxBytes; omega,by omega,hone,hz1⟩]
  have e1:(LMem.cells l).take (i*6)=LMem.cells (l.take i):=by
   have:LMem.cells l=LMem.cells (l.take i) ++LMem.cells (l.drop i):=by rw [←Lay.cells_append,List.take_append_drop]
   rw [this,←take_cells l hi,List.take_left]
  have e2:(LMem.cells l).drop (i*6)=LMem.cells (l.drop i):=by
   have:LMem.cells l=LMem.cells (l.take i) ++LMem.cells (l.drop i):=by rw [←Lay.cells_append,List.take_append_drop]
   rw [this,←take_cells l hi,List.drop_left]
  simp only [List.drop_zero,Int.toNat_natCast,e1,e2]
theorem ins_to0 (c:Nat) (σ:Store) (k:Bs) (hc:σ.get c=some (.own (zK k))) :
  insertTo σ 6 96 (.vsl [] (some 0)) ((0:Nat):Int) (.sl c 0 1 6 (some 1))=some (.sl σ.next 0 1 6 none,σ.alloc (zK k)):=by
 have hro:rowOf σ 6 (.sl c 0 1 6 (some 1))=some (zK k):=by simp [rowOf,Store.cells,hc,zK]
 unfold insertTo
 simp only [lenOf,hro]
 simp [appendTo,lenOf,rowOf,zK,maxBytes,AV.one]
theorem splice_mid {α:Type} (pre:List α) (a:α) (A B post:List α) (h:A.length=B.length):(pre ++a ::(A ++post)).take (pre.length+1) ++B ++(pre ++a ::(A ++post)).drop (pre.length+1+B.length)=pre ++a ::(B ++post):=by
 have e1:pre ++a ::(A ++post)=(pre ++ [a]) ++(A ++post):=by simp
 have e2:pre ++a ::(A ++post)=((pre ++ [a]) ++A) ++post:=by simp
 have l1:pre.length+1=(pre ++ [a]).length:=by simp
 have l2:pre.length+1+B.length=((pre ++ [a]) ++A).length:=by simp [h]; omega
 have t1:(pre ++a ::(A ++post)).take (pre.length+1)=pre ++ [a]:=by rw [e1,l1,List.take_left]
 have t2:(pre ++a ::(A ++post)).drop (pre.length+1+B.length)=post:=by rw [e2,l2,List.drop_left]
 rw [t1,t2]; simp
theorem splice_val (pre:List AV) (k:Bs) (x:V) (post:List AV):splice (pre ++zK k ++post) (pre.length+1) x.enc.cells=pre ++(memE (k,x)).cells ++post:=by
 rw [V.enc_cells,memE_cells]
 have:=splice_mid pre (AV.str k) [.int .i64 0, .int .i64 0, .str [], .nils, .nils] [.int .i64 x.kind, .int .i64 x.n, .str x.s, .vsl (x.l.map V.enc) none, .vsl (x.m.map memE) none] post rfl
 unfold splice zK
 simpa using this
theorem splice_valM (pre:List AV) (y:Mem) (x:V) (post:List AV):splice (pre ++(memE y).cells ++post) (pre.length+1) x.enc.cells=pre ++(memE (y.1,x)).cells ++post:=by
 rw [V.enc_cells,memE_cells,memE_cells]
 have:=splice_mid pre (AV.str y.1) [.int .i64 y.2.kind, .int .i64 y.2.n, .str y.2.s, .vsl (y.2.l.map V.enc) none, .vsl (y.2.m.map memE) none] [.int .i64 x.kind, .int .i64 x.n, .str x.s, .vsl (x.l.map V.enc) none, .vsl (x.m.map memE) none] post rfl
 unfold splice
 simpa using this
end Go.Ab
namespace Go.Ab
set_option maxHeartbeats 1000000
def U10Fa:= @F142.eq_1
set_option maxRecDepth 100000
theorem bsF_le (m:List Mem) (k:Bs): ∀(n i j:Nat),j - i≤n→i≤j→bsF m k i j≤j
 | 0,i,j,h,hij=>by rw [bsF,if_neg (by omega)]; exact hij
 | n+1,i,j,h,hij=>by
  rw [bsF]
  by_cases hlt:i < j
  ·rw [if_pos hlt]
   split
   ·exact bsF_le m k n _ _ (by omega) (by omega)
   ·exact Nat.le_trans (bsF_le m k n _ _ (by omega) (by omega)) (by omega)
  ·rw [if_neg hlt]; exact hij
theorem placeV_le (v:V) (k:Bs):(placeV v k).1≤v.m.length:=by
 unfold placeV
 split
 ·exact bsF_le v.m k _ 0 _ (Nat.le_refl _) (by omega)
 ·simp
theorem placeV_lt {v:V} {k:Bs} (h:(placeV v k).2=true):(placeV v k).1 < v.m.length:=by
 unfold placeV at h ⊢
 split
 ·rename_i h5
  rw [if_pos h5] at h
  simp at h
  exact h.1
 ·rename_i h5
  rw [if_neg h5] at h
  cases h
def setM (m:List Mem) (i:Nat) (ok:Bool) (k:Bs) (x:V):List Mem:=if ok then (match m[i]? with | some y=>m.set i (y.1,x) | none=>m) else m.take i ++(k,x) ::m.drop i
def setV (v:V) (k:Bs) (x:V):V:=if v.kind=5 then V.mk v.kind v.n v.s v.l (setM v.m (placeV v k).1 (placeV v k).2 k x) else v
abbrev vCs (v:V):List AV:= [.int .i64 v.kind, .int .i64 v.n, .str v.s, .vsl (v.l.map V.enc) none, .vsl (v.m.map memE) none]
theorem rbE_own {σ:Store} (v:V) {b:Nat} {l:List Mem} (h:look σ.m b=some (.own (LMem.cells l))):rbE σ (.agg [.int .i64 v.kind, .int .i64 v.n, .str v.s, .vsl (v.l.map V.enc) none, .sl b 0 l.length 6 none])=some (V.mk v.kind v.n v.s v.l l).enc:=by
 have hcl:(AV.vsl (v.l.map V.enc) none).closed=true:=by simp only [AV.closed,closedL_mapV]
 have hce:(AV.vsl (v.l.map V.enc) none).er= .vsl (v.l.map V.enc) none:=by simp only [AV.er,erL_mapV]
 have hb:=RbL.agg (σ:=σ) (RbL.clo (x:= .int .i64 v.kind) rfl (RbL.clo (x:= .int .i64 v.n) rfl (RbL.clo (x:= .str v.s) rfl (RbL.clo (x:= .vsl (v.l.map V.enc) none) hcl (RbL.rp (L:=LMem) (l:=l) (v:= .sl b 0 l.length 6 none) (.inr ⟨b, [],rfl,by rw [List.append_nil]; exact h⟩) (RbL.nil σ 23))))))
 simp only [er_int,er_str,hce] at hb
 rw [V.enc_eq]
 exact hb
theorem rbE_ownN {σ:Store} (v:V) {b n:Nat} {l:List Mem} (hn:l.length=n) (h:look σ.m b=some (.own (LMem.cells l))):rbE σ (.agg [.int .i64 v.kind, .int .i64 v.n, .str v.s, .vsl (v.l.map V.enc) none, .sl b 0 n 6 none])=some (V.mk v.kind v.n v.s v.l l).enc:=by
 subst hn; exact rbE_own v h
theorem r_Set (v:V) (k:Bs) (x:V) (hlen:v.m.length < lim):cR 142 [v.enc, .str k,x.enc]=some (setV v k x).enc:=by
 have hlen':=hlen
 unfold lim at hlen'
 have hp:=r_place v k (by unfold big; omega)
 have hple:=placeV_le v k
 have hplt:=fun h=>placeV_lt (v:=v) (k:=k) h
 refine cR_of (F:=F142) rfl ?_
 obtain ⟨r,hr⟩ : ∃r,r=(setV v k x).enc:=⟨_,rfl⟩
 rw [←hr]
 unfold setV at hr
 cases h5:v.kind != 5 with
 | true=>
  have hk5:v.kind≠5:=by simpa using h5
  rw [if_neg hk5] at hr
  simp only [U10Fa,EXA,Nat.reduceEqDiff,reduceIte,reduceCtorEq,Nat.reduceAdd,Nat.reduceLeDiff,Nat.reduceSub,Nat.reduceMul,Int.reduceEq,Int.reduceBEq,Int.reduceBNe,Int.reduceLT,Int.reduceLE,Nat.reduceLT,VX,readAt_some,h5,hr]
 | false=>
  have hk5:v.kind=5:=by simpa using h5
  rw [if_pos hk5] at hr
  generalize placeV v k=pl at hp hple hplt hr
  obtain ⟨i,ok⟩:=pl
  simp only at hp hple hplt hr
  cases hm:v.m with
  | nil=>
   have hi:i=0:=by rw [hm] at hple; simpa using hple
   subst hi
   have hok:ok=false:=by
    cases ok with
    | false=>rfl
    | true=>have:=hplt rfl; rw [hm] at this; simp at this
   subst hok
   have c1:callM ipU gU .split (.fn 38 [] []) [.vsl (v.m.map memE) none] ⟨2, [(1, .own [.int .i64 0, .int .i64 0, .str [], .nils, .nils]),(0, .own (vCs v))]⟩=some (.vsl [] (some 0),⟨2, [(1, .own [.int .i64 0, .int .i64 0, .str [], .nils, .nils]),(0, .own (vCs v))]⟩):=by
    have:=c_cloneM0 none ⟨2, [(1, .own [.int .i64 0, .int .i64 0, .str [], .nils, .nils]),(0, .own (vCs v))]⟩
    rw [hm]; exact this
   have c2:=c_insert (ins_to0 2 ⟨3, [(2, .own (zK k)),(0, .own [.int .i64 v.kind, .int .i64 v.n, .str v.s, .vsl (v.l.map V.enc) none, .vsl [] (some 0)]),(1, .own [.int .i64 0, .int .i64 0, .str [], .nils, .nils]),(0, .own (vCs v))]⟩ k rfl)
   simp only [Store.alloc,zK,vCs] at c1 c2
   have hspl:=splice_val [] k x []
   have i0:=idx_sl (b:=3) (n:=1) (j:=0) (σ:= .empty) (by omega)
   simp only [V.enc_cells,memE_cells,zK,splice,List.nil_append,List.append_nil,List.length_nil,List.length_cons,Nat.zero_add,Nat.reduceAdd] at hspl
   rw [hm] at hr
   simp only [setM,List.take_nil,List.drop_nil,List.nil_append,Bool.false_eq_true,if_false] at hr
   simp only [U10Fa,EXA,Nat.reduceEqDiff,reduceIte,reduceCtorEq,Nat.reduceAdd,Nat.reduceLeDiff,Nat.reduceSub,Nat.reduceMul,Int.reduceEq,Int.reduceBEq,Int.reduceBNe,Int.reduceLT,Int.reduceLE,Nat.reduceLT,VX,readAt_some,h5,hp,c1,c2,i0,hspl]
   rw [hr]
   exact rbE_own v (l:= [(k,x)]) (by simp [look,Lay.cells,LMem,memE_cells])
  | cons y0 m0=>
   have hn:0 < v.m.length:=by rw [hm]; simp
   have c1:callM ipU gU .split (.fn 38 [] []) [.vsl (v.m.map memE) none] ⟨2, [(1, .own [.int .i64 0, .int .i64 0, .str [], .nils, .nils]),(0, .own (vCs v))]⟩=some (.sl 2 0 v.m.length 6 none,⟨3, [(2, .own (LMem.cells v.m)),(1, .own [.int .i64 0, .int .i64 0, .str [], .nils, .nils]),(0, .own (vCs v))]⟩):=by
    have:=c_cloneM1 y0 m0 none ⟨2, [(1, .own [.int .i64 0, .int .i64 0, .str [], .nils, .nils]),(0, .own (vCs v))]⟩ (by rw [←hm]; exact hlen)
    rw [hm]; exact this
   simp only [vCs] at c1
   clear hm
   have hcl:=LMem.cells_len v.m
   have hsz:LMem.sz=6:=rfl
   rw [hsz] at hcl
   have hxl:x.enc.cells.length=5:=by rw [V.enc_cells]; rfl
   have hxo:x.enc.cells.all AV.one=true:=LV.one x
   cases ok with
   | true=>
    have hlt:=hplt rfl
    obtain ⟨y,hy⟩:=get_lt hlt
    simp only [setM,hy,if_true] at hr
    have i0:=idx_sl (b:=2) (n:=v.m.length) (j:=i) (σ:= .empty) hlt
    have hspl:splice (LMem.cells v.m) (i*6+1) x.enc.cells=LMem.cells (v.m.set i (y.1,x)):=by
     have e:v.m=v.m.take i ++y ::v.m.drop (i+1):=by rw [←drop_cons hy,List.take_append_drop]
     have e2:v.m.set i (y.1,x)=v.m.take i ++(y.1,x) ::v.m.drop (i+1):=List.set_eq_take_append_cons_drop.trans (by rw [if_pos hlt])
     have h1:=take_cells v.m (j:=i) (by omega)
     have:=splice_valM (LMem.cells (v.m.take i)) y x (LMem.cells (v.m.drop (i+1)))
     rw [h1] at this
     rw [e2,Lay.cells_append,Lay.cells_cons,←List.append_assoc]
     have e3:LMem.cells v.m=LMem.cells (v.m.take i) ++(memE y).cells ++LMem.cells (v.m.drop (i+1)):=by
      rw [List.append_assoc]
      have:LMem.cells v.m=LMem.cells (v.m.take i ++y ::v.m.drop (i+1)):=by rw [←e]
      rw [this,Lay.cells_append,Lay.cells_cons]; rfl
     rw [e3]; exact this
    have hle:i*6+1+5≤(LMem.cells v.m).length:=by rw [hcl]; omega
    generalize LMem.cells v.m=C at c1 hspl hle
    simp only [V.enc_cells,splice,List.length_nil,List.length_cons,Nat.zero_add,Nat.reduceAdd] at hspl hxo
    simp only [U10Fa,EXA,Nat.reduceEqDiff,reduceIte,reduceCtorEq,Nat.reduceAdd,Nat.reduceLeDiff,Nat.reduceSub,Nat.reduceMul,Int.reduceEq,Int.reduceBEq,Int.reduceBNe,Int.reduceLT,Int.reduceLE,Nat.reduceLT,VX,readAt_some,h5,hp,c1,i0,hspl,hle,hxo]
    rw [hr]
    exact rbE_ownN v List.length_set rfl
   | false=>
    simp only [setM,Bool.false_eq_true,if_false] at hr
    have c2:=c_insert (ins_to v.m 2 3 ⟨4, [(3, .own (zK k)),(0, .own [.int .i64 v.kind, .int .i64 v.n, .str v.s, .vsl (v.l.map V.enc) none, .sl 2 0 v.m.length 6 none]),(2, .own (LMem.cells v.m)),(1, .own [.int .i64 0, .int .i64 0, .str [], .nils, .nils]),(0, .own (vCs v))]⟩ i k hlen hple rfl rfl (by omega) hn)
    have i0:=idx_sl (b:=4) (n:=v.m.length+1) (j:=i) (σ:= .empty) (by omega)
    have hspl:splice (LMem.cells (v.m.take i) ++zK k ++LMem.cells (v.m.drop i)) (i*6+1) x.enc.cells=LMem.cells (v.m.take i ++(k,x) ::v.m.drop i):=by
     have:=splice_val (LMem.cells (v.m.take i)) k x (LMem.cells (v.m.drop i))
     rw [take_cells v.m hple] at this
     rw [Lay.cells_append,Lay.cells_cons,←List.append_assoc]
     exact this
    have hle:i*6+1+5≤(LMem.cells (v.m.take i) ++zK k ++LMem.cells (v.m.drop i)).length:=by rw [insC_len v.m i hple k]; omega
    generalize LMem.cells (v.m.take i) ++zK k ++LMem.cells (v.m.drop i)=D at c2 hspl hle
    generalize LMem.cells v.m=C at c1 c2
    simp only [V.enc_cells,splice,List.length_nil,List.length_cons,Nat.zero_add,Nat.reduceAdd] at hspl hxo
    simp only [Store.alloc,Store.set,zK,vCs] at c2
    simp only [U10Fa,EXA,Nat.reduceEqDiff,reduceIte,reduceCtorEq,Nat.reduceAdd,Nat.reduceLeDiff,Nat.reduceSub,Nat.reduceMul,Int.reduceEq,Int.reduceBEq,Int.reduceBNe,Int.reduceLT,Int.reduceLE,Nat.reduceLT,VX,readAt_some,h5,hp,c1,c2,i0,hspl,hle,hxo]
    rw [hr]
    exact rbE_ownN v (by simp; omega) rfl
end Go.Ab
namespace Go.Ab
set_option maxHeartbeats 1000000
def K1Fa:=J @F175_9.eq_1 (J @F175_15.eq_1 (J @F175_16.eq_1 (@F175.eq_1)))
set_option maxRecDepth 100000
abbrev kSigs:Bs:= [115,105,103,110,97,116,117,114,101,115]
abbrev kIdOrg:Bs:= [105,100,46,111,114,103]
abbrev kEdZ:Bs:= [101,100,50,53,53,49,57,58,122]
abbrev kEd:Bs:= [101,100,50,53,53,49,57,58]
abbrev sX:Bs:= [120]
def seedB (b:UInt8):List UInt8:=List.replicate 32 b
theorem r_Seed (b:UInt8):cR 198 [.int .u8 (b.toNat:Int)]=some (bsE (seedB b)):=by
 have hm:makeSlOf ⟨0, []⟩ 1 1 [.int .u8 0] 32=some (.sl 0 0 32 1 none,⟨1, [(0, .own (rep 32 [.int .u8 0]))]⟩):=by rfl
 have hr:rep 32 [AV.int .u8 0]=List.replicate 32 (.int .u8 0):=by rfl
 rw [hr] at hm
 have hix {i:Int} (h0:0≤i) (h1:i < 32):idxOf 1 none (.sl 0 0 32 1 none) (.int .i64 i)=some (.ptr 0 i.toNat):=by
  simp [idxOf,h0,h1]
 have hfin {σ:Store} (h:look σ.m 0=some (.own (u8cells (seedB b)))):rbE σ (.sl 0 0 32 1 none)=some (bsE (seedB b)):=by
  have hl:(seedB b).length=32:=by simp [seedB]
  have:=rb_sl1 (d:=23) (off:=0) (n:=32) (c:=none) h (by rw [u8_len]; omega) (closed_u8 _) (notAgg_u8 _)
  rw [List.drop_zero,List.take_of_length_le (by rw [u8_len]; omega)] at this
  unfold rbE
  rw [show rbDepth=23+1 from rfl,this,Option.map_some,er_vsl,er_u8]
 refine cR_of (F:=F198) rfl ?_
 simp only [List.replicate] at hm
 simp only [F198,EXA,seval,readAt_some,ex_loop,ex_inLoop,@wrap_i,hm,@hix]
 exact hfin rfl
def inv0 (token mxid:Bs):V:=mapOf [(kMxid,tV3 mxid),(kToken,tV3 token)]
def edKey (i:Nat):Bs:=kEd ++ [UInt8.ofNat (97+i)]
def moreM:Nat→V
 | 0=>mapOf []
 | n+1=>setV (moreM n) (edKey n) (tV3 sX)
def sigM (n:Nat) (g:Bs):V:=setV (moreM n) kEdZ (tV3 g)
def invS (token mxid:Bs) (n:Nat) (g:Bs):V:=setV (inv0 token mxid) kSigs (mapOf [(kIdOrg,sigM n g)])
def inviteV (token mxid:Bs) (n:Nat) (g:Bs):V:=mapOf [(kMembership,tV3 kInvite),(kThird,mapOf [(kSigned,invS token mxid n g)])]
theorem setV_mlen (v:V) (k:Bs) (x:V):(setV v k x).m.length≤v.m.length+1:=by
 unfold setV
 split
 ·show (setM _ _ _ _ _).length≤_
  unfold setM
  split
  ·split
   ·rw [List.length_set]; omega
   ·omega
  ·rw [List.length_append,List.length_cons,List.length_take,List.length_drop]; omega
 ·omega
theorem moreM_len: ∀n,(moreM n).m.length≤n
 | 0=>by decide
 | n+1=>by have:=moreM_len n; have:=setV_mlen (moreM n) (edKey n) (tV3 sX); rw [moreM]; omega
theorem mapOf_mlen (l:List Mem) (h:l.length < 20):(mapOf l).m.length < 20:=by
 have h1:=dedupM_len (sortM l)
 have h2:(sortM l).length=l.length:=by unfold sortM; rw [List.length_reverse,sortR_len]; simp
 show (dedupM (sortM l)).length < 20
 omega
theorem sig_len (seed msg:List UInt8):(sigB sha512 seed msg).length=64:=by
 simp only [sigB,List.length_append,toLE_len]
theorem r_Invite {token mxid msg:Bs} {seed:UInt8} {n:Nat} (hw:cR 190 [(inv0 token mxid).enc]=some (.tup [.str msg, .int .i64 0])) (hm:msg.length < 1099511000000) (hn:n < 10) :
  cR 175 [.str token, .str mxid, .int .u8 (seed.toNat:Int), .int .i64 (n:Int)]=some (inviteV token mxid n (putS (sigB sha512 (seedB seed) msg))).enc:=by
 have a3: ∀s,cR 18 [.str s]=some (tV3 s).enc:=r_Text
 have m0:cR 20 [.vsl [memE (kMxid,tV3 mxid),memE (kToken,tV3 token)] none]=some (inv0 token mxid).enc:=r_Map [(kMxid,tV3 mxid),(kToken,tV3 token)] (by simp)
 have hs:=r_Seed seed
 have hsl:(seedB seed).length=32:=by simp [seedB]
 have hg:=r_Sign (seed:=seedB seed) (msg:=msg) hsl hm
 have hgl:=sig_len (seedB seed) msg
 have hp:=r_put (sigB sha512 (seedB seed) msg) (by rw [hgl]; decide)
 have me:cR 20 [.vsl [] none]=some (moreM 0).enc:=r_Map [] (by simp)
 have hinv:inviteV token mxid n (putS (sigB sha512 (seedB seed) msg))=mapOf [(kMembership,tV3 kInvite),(kThird,mapOf [(kSigned,setV (inv0 token mxid) kSigs (mapOf [(kIdOrg,setV (moreM n) kEdZ (tV3 (putS (sigB sha512 (seedB seed) msg))))]))])]:=rfl
 have z1:=r_Set (moreM n) kEdZ (tV3 (putS (sigB sha512 (seedB seed) msg))) (by have:=moreM_len n; unfold lim; omega)
 have z2:cR 20 [.vsl [memE (kIdOrg,setV (moreM n) kEdZ (tV3 (putS (sigB sha512 (seedB seed) msg))))] none]=some (mapOf [(kIdOrg,setV (moreM n) kEdZ (tV3 (putS (sigB sha512 (seedB seed) msg))))]).enc:=r_Map [(kIdOrg,_)] (by simp)
 have hil:(inv0 token mxid).m.length < lim:=by
  have:=mapOf_mlen [(kMxid,tV3 mxid),(kToken,tV3 token)] (by simp)
  unfold lim inv0; omega
 rw [hinv]
 generalize hMn:setV (moreM n) kEdZ (tV3 (putS (sigB sha512 (seedB seed) msg)))=Z at*
 have z3:=r_Set (inv0 token mxid) kSigs (mapOf [(kIdOrg,Z)]) hil
 generalize mapOf [(kIdOrg,Z)]=Y at*
 generalize setV (inv0 token mxid) kSigs Y=X at*
 have z4:cR 20 [.vsl [memE (kSigned,X)] none]=some (mapOf [(kSigned,X)]).enc:=r_Map [(kSigned,X)] (by simp)
 generalize mapOf [(kSigned,X)]=S at*
 have z5:cR 20 [.vsl [memE (kMembership,tV3 kInvite),memE (kThird,S)] none]=some (mapOf [(kMembership,tV3 kInvite),(kThird,S)]).enc:=r_Map [(kMembership,tV3 kInvite),(kThird,S)] (by simp)
 generalize mapOf [(kMembership,tV3 kInvite),(kThird,S)]=R at*
 generalize inv0 token mxid=I at*
 generalize putS (sigB sha512 (seedB seed) msg)=P at*
 generalize sigB sha512 (seedB seed) msg=g at*
 generalize seedB seed=sd at*
 clear hinv hil hgl hsl
 refine cR_of (F:=F175) rfl ?_
 have hlo: ∀x:AV,lenOf (.vsl [x] (some 1))=some 1:=fun _=>rfl
 simp only [bsE] at hs hg hp
 simp only [F175_9,F175_15,F175,EXA,seval,VX,readAt_some,ex_loop,a3,m0,hw,hs,closed_u8,er_u8,hg,me]
 refine ex_whileI (S:=Nat) (fun i=> [(3, .int .i64 (n:Int)),(8, .ptr 0 0),(9, .ptr 1 0),(12, .vsl (u8cells g) none),(14, .ptr 2 0),(15, .int .i64 (i:Int))]) (fun i=>n - i)
  (fun i σ=>look σ.m 2=some (.own [.int .i64 (moreM i).kind, .int .i64 (moreM i).n, .str (moreM i).s, .vsl ((moreM i).l.map V.enc) none, .vsl ((moreM i).m.map memE) none])∧look σ.m 1=some (.own [.int .i64 I.kind, .int .i64 I.n, .str I.s, .vsl (I.l.map V.enc) none, .vsl (I.m.map memE) none])∧
   look σ.m 0=some (.own [.int .i64 0, .int .i64 0, .str [], .nils, .nils])∧i≤n) ?_ 0 _ ⟨rfl,rfl,rfl,Nat.zero_le _⟩
 rintro B i σ ⟨g2,g1,g0,hi⟩ ih
 by_cases hin:i=n
 ·subst hin
  have gt:decide ((i:Int) < (i:Int))=false:=decide_eq_false (by omega)
  generalize moreM i=M at*
  simp only [K1Fa,EXA,seval,VX,readAt_some,gt,g2,g1,g0,a3,closed_u8,er_u8,hp,z1,z2,z3,z4,z5]
 ·have hlt:decide ((i:Int) < (n:Int))=true:=decide_eq_true (by omega)
  have wb:IntKind.wrap .u8 (i:Int)=(i:Int):=by rw [wrap8,Nat.mod_eq_of_lt (by omega)]
  have wc:IntKind.wrap .u8 (97+(i:Int))=((97+i:Nat):Int):=by
   have:=wrap8 (97+i)
   rw [Nat.mod_eq_of_lt (by omega)] at this
   rw [←this]; congr 1
  have hby:bytesOf [.int .u8 ((97+i:Nat):Int)]=some [UInt8.ofNat (97+i)]:=by
   have:(0:Int)≤((97+i:Nat):Int)∧((97+i:Nat):Int) < 256:=by omega
   show (match bytesOf [] with | some l=>if (0:Int)≤((97+i:Nat):Int)∧((97+i:Nat):Int) < 256 then some (UInt8.ofNat ((97+i:Nat):Int).toNat ::l) else none | none=>none)=_
   simp only [bytesOf,if_pos this]; rfl
  have w1:IntKind.wrap .i64 ((i:Int)+1)=((i+1:Nat):Int):=by rw [wrap_i (by omega) (by omega)]; omega
  have hS:cR 142 [(moreM i).enc, .str [101,100,50,53,53,49,57,58,UInt8.ofNat (97+i)],(tV3 sX).enc]=some (moreM (i+1)).enc:=r_Set (moreM i) (edKey i) (tV3 sX) (by have:=moreM_len i; unfold lim; omega)
  generalize hM1:moreM (i+1)=M1 at*
  generalize moreM i=M at*
  simp only [K1Fa,EXA,seval,VX,readAt_some,hlt,g2,g1,g0,a3,wb,wc,row_one,hby,w1,hS]
  refine ih (i+1) _ _ (by omega) ⟨?_,?_,?_,by omega⟩ rfl
  ·rw [hM1]; simp [look]
  ·simpa [look] using g1
  ·simpa [look] using g0
end Go.Ab
namespace Go.Ab
set_option maxHeartbeats 1000000
set_option maxRecDepth 100000
abbrev sTok:Bs:= [116,111,107]
abbrev sA:Bs:= [64,97,58,120]
abbrev sB:Bs:= [64,98,58,120]
abbrev sC:Bs:= [64,99,58,120]
def toB (j:Nat):Bs:=match j with
 | 0=>kJoin
 | 1=>kInvite
 | 2=> [108,101,97,118,101]
 | 3=> [98,97,110]
 | 4=>kKnock
 | _=> [120]
def contK (third by_:Bool) (to g:Bs):V:=
 setV (if by_ then setV (if third then inviteV sTok sB 0 g else dropV (inviteV sTok sB 0 g) [kThird]) kAuthd (tV3 sC) else (if third then inviteV sTok sB 0 g else dropV (inviteV sTok sB 0 g) [kThird])) kMembership (tV3 to)
def partK (g:Bs):V:=V.mk 5 0 [] [] [(kSigned,V.mk 5 0 [] [] [(kMxid,tV3 sB),(kSigs,V.mk 5 0 [] [] [(kIdOrg,V.mk 5 0 [] [] [(kEdZ,tV3 g)])]),(kToken,tV3 sTok)])]
def memK (third by_:Bool) (to g:Bs):List Mem:=(if by_ then [(kAuthd,tV3 sC)] else []) ++ [(kMembership,tV3 to)] ++(if third then [(kThird,partK g)] else [])
theorem cont_eq (third by_:Bool) (to g:Bs):contK third by_ to g=V.mk 5 0 [] [] (memK third by_ to g):=by
 cases third <;> cases by_ <;> kernel_rfl
theorem vu_asc: ∀ {s:Bs},(∀c∈s,c < 128)→vu s=true
 | [],_=>rfl
 | a ::r,h=>by
  rw [vu_low (h a (by simp))]
  exact vu_asc fun c hc=>h c (by simp [hc])
theorem sx_lt: ∀(s:List UInt8) (nb c:Nat),∀x∈sx nb c s,x < 64
 | [],nb,c,x,h=>by
  unfold sx at h
  split at h
  ·simp at h
  ·simp at h; omega
 | b ::s,nb,c,x,h=>by
  unfold sx at h
  split at h
  ·simp only [List.mem_cons] at h
   rcases h with h | h | h
   ·omega
   ·omega
   ·exact sx_lt s 0 0 x h
  ·split at h
   ·simp only [List.mem_cons] at h
    rcases h with h | h
    ·omega
    ·exact sx_lt s 4 _ x h
   ·simp only [List.mem_cons] at h
    rcases h with h | h
    ·omega
    ·exact sx_lt s 2 _ x h
theorem sgB_lt {j:Nat} (h:j < 64):sgB j < 128:=by
 rw [UInt8.lt_iff_toNat_lt,sgB,UInt8.toNat_ofNat']
 have hl:sgS j < 128:=by unfold sgS; split <;> (try split) <;> (try split) <;> (try split) <;> omega
 rw [Nat.mod_eq_of_lt (show sgS j < 2 ^ 8 by omega)]; exact hl
theorem vu_put (s:List UInt8):vu (putS s)=true:=vu_asc fun c hc=>by
 obtain ⟨x,hx,rfl⟩:=List.mem_map.1 hc
 exact sgB_lt (sx_lt s 0 0 x hx)
theorem sz_K (third by_:Bool) (to g:Bs):(contK third by_ to g).sz≤g.length+to.length+400:=by
 rw [cont_eq]
 cases third <;> cases by_ <;> simp [memK,partK,tV3,V.sz,szM,szL] <;> omega
theorem fine_K {third by_:Bool} {to g:Bs} (ht:vu to=true) (hg:vu g=true):(V.mk 5 0 [] [] (memK third by_ to g)).fine=true:=by
 have k1:vu kAuthd=true:=by kernel_rfl
 have k2:vu kMembership=true:=by kernel_rfl
 have k3:vu kThird=true:=by kernel_rfl
 have k4:vu kSigned=true:=by kernel_rfl
 have k5:vu kMxid=true:=by kernel_rfl
 have k6:vu kSigs=true:=by kernel_rfl
 have k7:vu kIdOrg=true:=by kernel_rfl
 have k8:vu kEdZ=true:=by kernel_rfl
 have k9:vu kToken=true:=by kernel_rfl
 have k10:vu sB=true:=by kernel_rfl
 have k11:vu sTok=true:=by kernel_rfl
 have k12:vu sC=true:=by kernel_rfl
 have l1:bytesLess kAuthd kMembership=true:=by kernel_rfl
 have l2:bytesLess kMembership kThird=true:=by kernel_rfl
 have l3:bytesLess kMxid kSigs=true:=by kernel_rfl
 have l4:bytesLess kSigs kToken=true:=by kernel_rfl
 have ft: ∀s,vu s=true→(tV3 s).fine=true:=fun s h=>by
  rw [tV3,V.fine,if_neg (by decide),if_neg (by decide),if_neg (by decide),if_pos rfl,h]; rfl
 have fm: ∀m,fineM none m=true→(V.mk 5 0 [] [] m).fine=true:=fun m h=>by
  rw [V.fine]
  rw [if_neg (by decide),if_neg (by decide),if_neg (by decide),if_neg (by decide),if_neg (by decide),if_pos rfl,h]; rfl
 have fp:(partK g).fine=true:=by
  unfold partK
  apply fm
  rw [fineM_cons,k4,fm _ ?_]
  ·rfl
  rw [fineM_cons,k5,ft _ k10,fineM_cons,k6,fm _ ?_,fineM_cons,k9,ft _ k11]
  ·simp only [okP,l3,l4,fineM,Bool.and_self]
  rw [fineM_cons,k7,fm _ ?_]
  ·rfl
  rw [fineM_cons,k8,ft _ hg]; rfl
 apply fm
 cases third <;> cases by_ <;> simp only [memK,if_true,if_false,Bool.false_eq_true,List.nil_append,List.cons_append,List.append_nil,fineM_cons,okP,k1,k2,k3,l1,l2,ft _ ht,ft _ k12,fp,fineM,Bool.and_self]
theorem good_K {third by_:Bool} {to g:Bs} (ht:vu to=true) (hg:vu g=true):(V.mk 5 0 [] [] (memK third by_ to g)).good=true:=by
 have hd:decide ((V.mk 5 0 [] [] (memK third by_ to g)).dep≤50)=true:=by cases third <;> cases by_ <;> kernel_rfl
 rw [V.good,fine_K ht hg,hd]; rfl
theorem vu_to (j:Nat):vu (toB j)=true:=by
 unfold toB; split <;> kernel_rfl
end Go.Ab
namespace Go.Ab
set_option maxHeartbeats 1000000
set_option maxRecDepth 100000
abbrev pkE (key:Bs) (C:V):Ev:=⟨V.zero, [], [],kMember,sA,key,true,0,0, [], [],C⟩
theorem pk_call (key:Bs) (C:V) (hb:C.sz < big):cR 5 [.agg [.int .i64 0, .int .i64 0, .str [], .vsl [] none, .vsl [] none, .str [], .str [], .str kMember, .str sA, .str key, .bool true, .int .i64 0, .int .i64 0, .vsl [] none, .vsl [] none, .int .i64 C.kind, .int .i64 C.n, .str C.s, .vsl (C.l.map V.enc) none, .vsl (C.m.map memE) none]]=some (.vsl ((needs (pkE key C)).map sltE) none):=r_needs (pkE key C) hb
def msgS:List UInt8:= [123,34,109,120,105,100,34,58,34,64,98,58,120,34,44,34,116,111,107,101,110,34,58,34,116,111,107,34,125]
theorem inv0_enc:(inv0 sTok sB).enc= .agg [.int .i64 5, .int .i64 0, .str [], .vsl [] none, .vsl [.agg [.str kMxid, .int .i64 3, .int .i64 0, .str sB, .vsl [] none, .vsl [] none], .agg [.str kToken, .int .i64 3, .int .i64 0, .str sTok, .vsl [] none, .vsl [] none]] none]:=by kernel_rfl
theorem r_canonS:cR 190 [(inv0 sTok sB).enc]=some (.tup [.str msgS, .int .i64 0]):=by
 rw [inv0_enc]
 exact cR_closed 20000 (by kernel_rfl)
def sigS:Bs:=putS (sigB sha512 (seedB 1) msgS)
theorem r_inviteS:cR 175 [.str sTok, .str sB, .int .u8 1, .int .i64 0]=some (inviteV sTok sB 0 sigS).enc:=r_Invite (seed:=1) (n:=0) r_canonS (by decide) (by decide)
end Go.Ab
namespace Go.Ab
set_option maxHeartbeats 1000000
set_option maxRecDepth 100000
abbrev kBan:Bs:= [98,97,110]
def joinK:V:=mapOf [(kMembership,tV3 kJoin),(kAuthd,tV3 sC)]
def banK:V:=mapOf [(kMembership,tV3 kBan)]
def evD (i t k:Bs) (st:Bool):Ev:=⟨V.zero,i, [],t, [],k,st,0,0, [], [],V.zero⟩
def st4:List Ev:= [evD [36,49] kCreate [] true,evD [36,48] kMember sA false,evD [36,50] kMember sA true,evD [36,51] kMember sA true]
def nJ:List Slt:= [⟨kCreate, []⟩,⟨kPower, []⟩,⟨kMember,sA⟩,⟨kJoins, []⟩,⟨kMember,sC⟩]
def nI:List Slt:= [⟨kCreate, []⟩,⟨kPower, []⟩,⟨kMember,sA⟩,⟨kMember,sB⟩,⟨kJoins, []⟩,⟨kThirdInv,sTok⟩]
def nB:List Slt:= [⟨kCreate, []⟩,⟨kPower, []⟩,⟨kMember,sA⟩,⟨kMember,sB⟩]
theorem needs_J:needs (pkE sA joinK)=nJ:=by kernel_rfl
theorem needs_B:needs (pkE sB banK)=nB:=by kernel_rfl
theorem inv_eq (g:Bs):inviteV sTok sB 0 g=contK true false (toB 1) g:=by rw [cont_eq]; kernel_rfl
theorem needs_I {g:Bs} (hg:vu g=true):needs (pkE sB (inviteV sTok sB 0 g))=nI:=by
 have hs:said (contK true false (toB 1) g)=V.mk 5 0 [] [] (memK true false (toB 1) g):=by
  rw [cont_eq,said,good_K (vu_to 1) hg]; rfl
 have hm:membershipV (contK true false (toB 1) g)=toB 1:=by
  rw [membershipV,hs]; kernel_rfl
 have h3:thirdV (contK true false (toB 1) g)=(sTok,sB,true):=by
  rw [thirdV,signedV,hs]; kernel_rfl
 have ha:authV (contK true false (toB 1) g)=([],false):=by
  rw [authV,hs]; kernel_rfl
 rw [inv_eq]
 unfold needs
 simp only [hm,h3,ha]
 first | rfl | decide+kernel
theorem zero_sz:V.zero.sz < big:=by decide
theorem nb_sz:banK.sz < big:=by
 have:banK.sz≤1000:=of_decide_eq_true (by kernel_rfl)
 unfold big; omega
theorem nj_sz:joinK.sz < big:=by
 have:joinK.sz≤1000:=of_decide_eq_true (by kernel_rfl)
 unfold big; omega
theorem pk3a:cR 3 [.vsl [.agg [.int .i64 0, .int .i64 0, .str [], .vsl [] none, .vsl [] none, .str [36,49], .str [], .str kCreate, .str [], .str [], .bool true, .int .i64 0, .int .i64 0, .vsl [] none, .vsl [] none, .int .i64 0, .int .i64 0, .str [], .vsl [] none, .vsl [] none], .agg [.int .i64 0, .int .i64 0, .str [], .vsl [] none, .vsl [] none, .str [36,48], .str [], .str kMember, .str [], .str sA, .bool false, .int .i64 0, .int .i64 0, .vsl [] none, .vsl [] none, .int .i64 0, .int .i64 0, .str [], .vsl [] none, .vsl [] none], .agg [.int .i64 0, .int .i64 0, .str [], .vsl [] none, .vsl [] none, .str [36,50], .str [], .str kMember, .str [], .str sA, .bool true, .int .i64 0, .int .i64 0, .vsl [] none, .vsl [] none, .int .i64 0, .int .i64 0, .str [], .vsl [] none, .vsl [] none], .agg [.int .i64 0, .int .i64 0, .str [], .vsl [] none, .vsl [] none, .str [36,51], .str [], .str kMember, .str [], .str sA, .bool true, .int .i64 0, .int .i64 0, .vsl [] none, .vsl [] none, .int .i64 0, .int .i64 0, .str [], .vsl [] none, .vsl [] none]] none,sltE ⟨kMember,sA⟩]=some (.tup [.agg [.int .i64 0, .int .i64 0, .str [], .vsl [] none, .vsl [] none, .str [36,50], .str [], .str kMember, .str [], .str sA, .bool true, .int .i64 0, .int .i64 0, .vsl [] none, .vsl [] none, .int .i64 0, .int .i64 0, .str [], .vsl [] none, .vsl [] none], .bool true]):=by
 have h:=r_Of st4 ⟨kMember,sA⟩ (by decide) (by decide)
 rw [show ofE st4 ⟨kMember,sA⟩=(evD [36,50] kMember sA true,true) by kernel_rfl] at h
 exact h
theorem pk3b:cR 3 [.vsl [.agg [.int .i64 0, .int .i64 0, .str [], .vsl [] none, .vsl [] none, .str [36,49], .str [], .str kCreate, .str [], .str [], .bool true, .int .i64 0, .int .i64 0, .vsl [] none, .vsl [] none, .int .i64 0, .int .i64 0, .str [], .vsl [] none, .vsl [] none], .agg [.int .i64 0, .int .i64 0, .str [], .vsl [] none, .vsl [] none, .str [36,48], .str [], .str kMember, .str [], .str sA, .bool false, .int .i64 0, .int .i64 0, .vsl [] none, .vsl [] none, .int .i64 0, .int .i64 0, .str [], .vsl [] none, .vsl [] none], .agg [.int .i64 0, .int .i64 0, .str [], .vsl [] none, .vsl [] none, .str [36,50], .str [], .str kMember, .str [], .str sA, .bool true, .int .i64 0, .int .i64 0, .vsl [] none, .vsl [] none, .int .i64 0, .int .i64 0, .str [], .vsl [] none, .vsl [] none], .agg [.int .i64 0, .int .i64 0, .str [], .vsl [] none, .vsl [] none, .str [36,51], .str [], .str kMember, .str [], .str sA, .bool true, .int .i64 0, .int .i64 0, .vsl [] none, .vsl [] none, .int .i64 0, .int .i64 0, .str [], .vsl [] none, .vsl [] none]] none,sltE ⟨kMember,sB⟩]=some (.tup [.agg [.int .i64 0, .int .i64 0, .str [], .vsl [] none, .vsl [] none, .str [], .str [], .str [], .str [], .str [], .bool false, .int .i64 0, .int .i64 0, .vsl [] none, .vsl [] none, .int .i64 0, .int .i64 0, .str [], .vsl [] none, .vsl [] none], .bool false]):=by
 have h:=r_Of st4 ⟨kMember,sB⟩ (by decide) (by decide)
 rw [show ofE st4 ⟨kMember,sB⟩=(Ev.zero,false) by kernel_rfl] at h
 exact h
theorem pk5c:cR 5 [.agg [.int .i64 0, .int .i64 0, .str [], .vsl [] none, .vsl [] none, .str [], .str [], .str kCreate, .str [], .str [], .bool false, .int .i64 0, .int .i64 0, .vsl [] none, .vsl [] none, .int .i64 0, .int .i64 0, .str [], .vsl [] none, .vsl [] none]]=some (.vsl [] none):=by
 have h:=r_needs (evD [] kCreate [] false) zero_sz
 rw [show needs (evD [] kCreate [] false)= [] by kernel_rfl] at h
 exact h
theorem pk7 {l:List Slt} (h:l.length < big):cR 7 [.vsl (l.map sltE) none, .vsl (l.map sltE) none]=some (.bool true):=by
 have h:=r_slots l l h
 rwa [show decide (l=l)=true from decide_eq_true rfl] at h
theorem pk8:cR 8 [.vsl [.agg [.int .i64 0, .int .i64 0, .str [], .vsl [] none, .vsl [] none, .str [36,49], .str [], .str kCreate, .str [], .str [], .bool true, .int .i64 0, .int .i64 0, .vsl [] none, .vsl [] none, .int .i64 0, .int .i64 0, .str [], .vsl [] none, .vsl [] none], .agg [.int .i64 0, .int .i64 0, .str [], .vsl [] none, .vsl [] none, .str [36,48], .str [], .str kMember, .str [], .str sA, .bool false, .int .i64 0, .int .i64 0, .vsl [] none, .vsl [] none, .int .i64 0, .int .i64 0, .str [], .vsl [] none, .vsl [] none], .agg [.int .i64 0, .int .i64 0, .str [], .vsl [] none, .vsl [] none, .str [36,50], .str [], .str kMember, .str [], .str sA, .bool true, .int .i64 0, .int .i64 0, .vsl [] none, .vsl [] none, .int .i64 0, .int .i64 0, .str [], .vsl [] none, .vsl [] none], .agg [.int .i64 0, .int .i64 0, .str [], .vsl [] none, .vsl [] none, .str [36,51], .str [], .str kMember, .str [], .str sA, .bool true, .int .i64 0, .int .i64 0, .vsl [] none, .vsl [] none, .int .i64 0, .int .i64 0, .str [], .vsl [] none, .vsl [] none]] none, .agg [.int .i64 0, .int .i64 0, .str [], .vsl [] none, .vsl [] none, .str [], .str [], .str kMember, .str sA, .str sA, .bool true, .int .i64 0, .int .i64 0, .vsl [] none, .vsl [] none, .int .i64 joinK.kind, .int .i64 joinK.n, .str joinK.s, .vsl (joinK.l.map V.enc) none, .vsl (joinK.m.map memE) none]]=some (.vsl [.str [36,49], .str [36,50]] none):=by
 have h:=r_pick st4 (pkE sA joinK) nj_sz (by decide) (by decide)
 rw [needs_J,show pickF st4 nJ= [[36,49], [36,50]] by kernel_rfl] at h
 exact h
theorem pk10:cR 10 [.vsl [.str [36,49], .str [36,50]] none, .vsl [.str [36,49], .str [36,50]] none]=some (.bool true):=by
 have h:=r_Texts [[36,49], [36,50]] [[36,49], [36,50]] (by decide)
 exact h
theorem pk12a:cR 12 [.agg [.int .i64 0, .int .i64 0, .str [], .vsl [] none, .vsl [] none, .str [], .str [], .str kMember, .str sA, .str sA, .bool true, .int .i64 0, .int .i64 0, .vsl [] none, .vsl [] none, .int .i64 joinK.kind, .int .i64 joinK.n, .str joinK.s, .vsl (joinK.l.map V.enc) none, .vsl (joinK.m.map memE) none], .vsl [.agg [.int .i64 0, .int .i64 0, .str [], .vsl [] none, .vsl [] none, .str [36,49], .str [], .str kCreate, .str [], .str [], .bool true, .int .i64 0, .int .i64 0, .vsl [] none, .vsl [] none, .int .i64 0, .int .i64 0, .str [], .vsl [] none, .vsl [] none], .agg [.int .i64 0, .int .i64 0, .str [], .vsl [] none, .vsl [] none, .str [36,50], .str [], .str kMember, .str [], .str sA, .bool true, .int .i64 0, .int .i64 0, .vsl [] none, .vsl [] none, .int .i64 0, .int .i64 0, .str [], .vsl [] none, .vsl [] none]] none]=some (.bool true):=by
 have h:=r_fits (pkE sA joinK) [evD [36,49] kCreate [] true,evD [36,50] kMember sA true] nj_sz (by decide)
 rw [fits,needs_J,show fitsF nJ [] [evD [36,49] kCreate [] true,evD [36,50] kMember sA true]=true by kernel_rfl] at h
 exact h
theorem pk12b:cR 12 [.agg [.int .i64 0, .int .i64 0, .str [], .vsl [] none, .vsl [] none, .str [], .str [], .str kMember, .str sA, .str sA, .bool true, .int .i64 0, .int .i64 0, .vsl [] none, .vsl [] none, .int .i64 joinK.kind, .int .i64 joinK.n, .str joinK.s, .vsl (joinK.l.map V.enc) none, .vsl (joinK.m.map memE) none], .vsl [.agg [.int .i64 0, .int .i64 0, .str [], .vsl [] none, .vsl [] none, .str [36,50], .str [], .str kMember, .str [], .str sA, .bool true, .int .i64 0, .int .i64 0, .vsl [] none, .vsl [] none, .int .i64 0, .int .i64 0, .str [], .vsl [] none, .vsl [] none], .agg [.int .i64 0, .int .i64 0, .str [], .vsl [] none, .vsl [] none, .str [36,51], .str [], .str kMember, .str [], .str sA, .bool true, .int .i64 0, .int .i64 0, .vsl [] none, .vsl [] none, .int .i64 0, .int .i64 0, .str [], .vsl [] none, .vsl [] none]] none]=some (.bool false):=by
 have h:=r_fits (pkE sA joinK) [evD [36,50] kMember sA true,evD [36,51] kMember sA true] nj_sz (by decide)
 rw [fits,needs_J,show fitsF nJ [] [evD [36,50] kMember sA true,evD [36,51] kMember sA true]=false by kernel_rfl] at h
 exact h
theorem pk12c:cR 12 [.agg [.int .i64 0, .int .i64 0, .str [], .vsl [] none, .vsl [] none, .str [], .str [], .str kMember, .str sA, .str sA, .bool true, .int .i64 0, .int .i64 0, .vsl [] none, .vsl [] none, .int .i64 joinK.kind, .int .i64 joinK.n, .str joinK.s, .vsl (joinK.l.map V.enc) none, .vsl (joinK.m.map memE) none], .vsl [.agg [.int .i64 0, .int .i64 0, .str [], .vsl [] none, .vsl [] none, .str [36,48], .str [], .str kMember, .str [], .str sA, .bool false, .int .i64 0, .int .i64 0, .vsl [] none, .vsl [] none, .int .i64 0, .int .i64 0, .str [], .vsl [] none, .vsl [] none]] none]=some (.bool false):=by
 have h:=r_fits (pkE sA joinK) [evD [36,48] kMember sA false] nj_sz (by decide)
 rw [fits,needs_J,show fitsF nJ [] [evD [36,48] kMember sA false]=false by kernel_rfl] at h
 exact h
theorem pk12d:cR 12 [.agg [.int .i64 0, .int .i64 0, .str [], .vsl [] none, .vsl [] none, .str [], .str [], .str kMember, .str sA, .str sB, .bool true, .int .i64 0, .int .i64 0, .vsl [] none, .vsl [] none, .int .i64 banK.kind, .int .i64 banK.n, .str banK.s, .vsl (banK.l.map V.enc) none, .vsl (banK.m.map memE) none], .vsl [.agg [.int .i64 0, .int .i64 0, .str [], .vsl [] none, .vsl [] none, .str [], .str [], .str kJoins, .str [], .str [], .bool true, .int .i64 0, .int .i64 0, .vsl [] none, .vsl [] none, .int .i64 0, .int .i64 0, .str [], .vsl [] none, .vsl [] none]] none]=some (.bool false):=by
 have h:=r_fits (pkE sB banK) [evD [] kJoins [] true] nb_sz (by decide)
 rw [fits,needs_B,show fitsF nB [] [evD [] kJoins [] true]=false by kernel_rfl] at h
 exact h
theorem pk12e:cR 12 [.agg [.int .i64 0, .int .i64 0, .str [], .vsl [] none, .vsl [] none, .str [], .str [], .str kMember, .str sA, .str sA, .bool true, .int .i64 0, .int .i64 0, .vsl [] none, .vsl [] none, .int .i64 joinK.kind, .int .i64 joinK.n, .str joinK.s, .vsl (joinK.l.map V.enc) none, .vsl (joinK.m.map memE) none], .vsl [] none]=some (.bool true):=by
 have h:=r_fits (pkE sA joinK) [] nj_sz (by decide)
 exact h
theorem ix4_0 (a b c d x0 x1 x2 x3 x4 x5 x6 x7 x8 x9 x10 x11 x12 x13 x14 x15 x16 x17 x18 x19:AV):idxOf 20 none (.vsl [.agg [x0,x1,x2,x3,x4,x5,x6,x7,x8,x9,x10,x11,x12,x13,x14,x15,x16,x17,x18,x19],b,c,d] (some 4)) (.int .i64 0)=some (.vptr [x0,x1,x2,x3,x4,x5,x6,x7,x8,x9,x10,x11,x12,x13,x14,x15,x16,x17,x18,x19] 0):=rfl
theorem ix4_1 (a b c d x0 x1 x2 x3 x4 x5 x6 x7 x8 x9 x10 x11 x12 x13 x14 x15 x16 x17 x18 x19:AV):idxOf 20 none (.vsl [a, .agg [x0,x1,x2,x3,x4,x5,x6,x7,x8,x9,x10,x11,x12,x13,x14,x15,x16,x17,x18,x19],c,d] (some 4)) (.int .i64 1)=some (.vptr [x0,x1,x2,x3,x4,x5,x6,x7,x8,x9,x10,x11,x12,x13,x14,x15,x16,x17,x18,x19] 0):=rfl
theorem ix4_2 (a b c d x0 x1 x2 x3 x4 x5 x6 x7 x8 x9 x10 x11 x12 x13 x14 x15 x16 x17 x18 x19:AV):idxOf 20 none (.vsl [a,b, .agg [x0,x1,x2,x3,x4,x5,x6,x7,x8,x9,x10,x11,x12,x13,x14,x15,x16,x17,x18,x19],d] (some 4)) (.int .i64 2)=some (.vptr [x0,x1,x2,x3,x4,x5,x6,x7,x8,x9,x10,x11,x12,x13,x14,x15,x16,x17,x18,x19] 0):=rfl
theorem ix4_3 (a b c d x0 x1 x2 x3 x4 x5 x6 x7 x8 x9 x10 x11 x12 x13 x14 x15 x16 x17 x18 x19:AV):idxOf 20 none (.vsl [a,b,c, .agg [x0,x1,x2,x3,x4,x5,x6,x7,x8,x9,x10,x11,x12,x13,x14,x15,x16,x17,x18,x19]] (some 4)) (.int .i64 3)=some (.vptr [x0,x1,x2,x3,x4,x5,x6,x7,x8,x9,x10,x11,x12,x13,x14,x15,x16,x17,x18,x19] 0):=rfl
theorem r_PickKnown:cR 178 []=some (.bool true):=by
 have hg:vu sigS=true:=vu_put _
 have hgl:sigS.length≤129:=by
  have h1:=putS_len (sigB sha512 (seedB 1) msgS)
  have h2:=sig_len (seedB 1) msgS
  unfold sigS; omega
 have a3: ∀s,cR 18 [.str s]=some (tV3 s).enc:=r_Text
 have m1:cR 20 [.vsl [memE (kMembership,tV3 kJoin),memE (kAuthd,tV3 sC)] none]=some joinK.enc:=r_Map [(kMembership,tV3 kJoin),(kAuthd,tV3 sC)] (by simp)
 have m2:cR 20 [.vsl [memE (kMembership,tV3 kBan)] none]=some banK.enc:=r_Map [(kMembership,tV3 kBan)] (by simp)
 have hI:=r_inviteS
 have hsz:=sz_K true false (toB 1) sigS
 rw [←inv_eq] at hsz
 have ht:(toB 1).length=6:=rfl
 have g1:=pk_call sA joinK nj_sz
 have g2:=pk_call sB (inviteV sTok sB 0 sigS) (by unfold big; omega)
 have g3:=pk_call sB banK nb_sz
 rw [needs_J] at g1
 rw [needs_I hg] at g2
 rw [needs_B] at g3
 have s1:cR 7 [.vsl (nJ.map sltE) none, .vsl [sltE ⟨kCreate, []⟩,sltE ⟨kPower, []⟩,sltE ⟨kMember,sA⟩,sltE ⟨kJoins, []⟩,sltE ⟨kMember,sC⟩] none]=some (.bool true):=pk7 (l:=nJ) (by decide)
 have s2:cR 7 [.vsl (nI.map sltE) none, .vsl [sltE ⟨kCreate, []⟩,sltE ⟨kPower, []⟩,sltE ⟨kMember,sA⟩,sltE ⟨kMember,sB⟩,sltE ⟨kJoins, []⟩,sltE ⟨kThirdInv,sTok⟩] none]=some (.bool true):=pk7 (l:=nI) (by decide)
 have s3:cR 7 [.vsl (nB.map sltE) none, .vsl [sltE ⟨kCreate, []⟩,sltE ⟨kPower, []⟩,sltE ⟨kMember,sA⟩,sltE ⟨kMember,sB⟩] none]=some (.bool true):=pk7 (l:=nB) (by decide)
 have p8:=pk8
 have fa:=pk12a
 have fb:=pk12b
 have fc:=pk12c
 have fd:=pk12d
 have fe:=pk12e
 clear hg hgl hsz ht
 generalize inviteV sTok sB 0 sigS=I at*
 generalize joinK=J at*
 generalize banK=B at*
 refine cR_of (F:=F178) rfl ?_
 simp only [F178,EXA,seval,VX,readAt_some,r_awake19,a3,m1,m2,hI,g1,g2,g3,s1,s2,s3,p8,fa,fb,fc,fd,fe,pk3a,pk3b,pk5c,pk10,beq_self_eq_true,ix4_0,ix4_1,ix4_2,ix4_3]
end Go.Ab
