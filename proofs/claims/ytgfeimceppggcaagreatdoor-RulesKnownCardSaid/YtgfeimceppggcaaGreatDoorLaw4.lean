/- What functions of the program, and of the library, answer. Conditions: none. -/
import Derived.Test.YtgfeimceppggcaaGreatDoorLaw3
import Derived.SizedLaws
import Derived.Test.YtgfeimceppggcaaGreatDoorDraw
import Derived.Carry
import Derived.ChangeSame
import Derived.ChangeSlices
import Derived.WideKeyArgs
import Derived.Below
import Derived.OpenShut
import Derived.RowKit
import Derived.Lib.LaidU8
import Derived.Test.YtgfeimceppggcaaGreatDoorCards
import Derived.Test.YtgfeimceppggcaaGreatDoorTie
import Derived.WalkKit
import Derived.ProofKit
import Derived.Deep.DeepHandedRow
import Derived.Lib.LaidTab
import Derived.Shelf.Vars
import Derived.Test.YtgfeimceppggcaaGreatDoorIns
import Derived.Test.YtgfeimceppggcaaGreatDoorLaw1
import Derived.Test.YtgfeimceppggcaaGreatDoorEx
set_option linter.unusedVariables false
set_option linter.unusedSimpArgs false
set_option linter.defProp false
set_option linter.unnecessarySimpa false
namespace Go.Ab
set_option maxHeartbeats 1000000
theorem wadd {a b:Nat} (h:a+b < 9223372036854775808):IntKind.wrap .i64 ((a:Int)+(b:Int))=((a+b:Nat):Int):=by
 simp [IntKind.wrap,IntKind.bits,IntKind.signed]
 omega
end Go.Ab
namespace Go.Ab
set_option maxHeartbeats 1000000
def T6Fa:=J @F100_2.eq_1 (J @F100_19.eq_1 (J @F100_20.eq_1 (@F100.eq_1)))
def T6Fc:= @F48.eq_1
def T6Fd:= @F65.eq_1
def T6Fi:=J @F92_10.eq_1 (J @F92_27.eq_1 (J @F92_28.eq_1 (@F92.eq_1)))
def T6Fj:=J @F92_10.eq_1 (J @F92_27.eq_1 (@F92.eq_1))
set_option maxRecDepth 100000
def firstFrom {α:Type} (p:α→Bool) (els:List α) (j:Nat):Int:=match (els.drop j).findIdx? p with
 | some i=>((i+j:Nat):Int)
 | none=> -1
theorem firstFrom_hit {α:Type} {p:α→Bool} {els:List α} {j:Nat} {e:α} (h:els[j]? =some e) (hp:p e=true):firstFrom p els j=(j:Int):=by
 unfold firstFrom
 rw [drop_cons h]
 simp [List.findIdx?_cons,hp]
theorem firstFrom_miss {α:Type} {p:α→Bool} {els:List α} {j:Nat} {e:α} (h:els[j]? =some e) (hp:p e=false):firstFrom p els j=firstFrom p els (j+1):=by
 unfold firstFrom
 rw [drop_cons h]
 simp only [List.findIdx?_cons,hp]
 cases (els.drop (j+1)).findIdx? p <;> simp <;> omega
theorem firstFrom_end {α:Type} {p:α→Bool} {els:List α} {j:Nat} (h:els.length≤j):firstFrom p els j= -1:=by
 unfold firstFrom
 rw [List.drop_eq_nil_of_le h]
 rfl
theorem firstFrom_ge {α:Type} (p:α→Bool) (l:List α):decide (firstFrom p l 0≥0)=l.any p:=by
 unfold firstFrom
 rw [List.drop_zero]
 cases h:l.findIdx? p with
 | none=>
  have:=List.findIdx?_eq_none_iff.1 h
  have h2:l.any p=false:=by
   rw [List.any_eq_false]
   intro x hx
   simp [this x hx]
  rw [h2]
  simp
 | some i=>
  obtain ⟨h1,h2,_⟩:=List.findIdx?_eq_some_iff_getElem.1 h
  have h3:l.any p=true:=List.any_eq_true.2 ⟨_,List.getElem_mem h1,h2⟩
  rw [h3]
  simp
def big:Nat:=4611686018427387904
theorem r_indexV (l:List V) (f:AV) (p:V→Bool) (hf:f.closed=true) (hfe:f.er=f) (hlen:l.length < big) (hp: ∀v∈l,callR ipU gU f [v.enc]=some (.bool (p v))) :
  cR 100 [.vsl (l.map V.enc) none,f]=some (.int .i64 (firstFrom p l 0)):=by
 unfold big at hlen
 refine cR_of (F:=F100) rfl ?_
 simp only [F100_2,F100_19,F100,ex_loop,EXA,Nat.reduceEqDiff,reduceIte,reduceCtorEq,Nat.reduceAdd,Nat.reduceLeDiff,Nat.reduceSub,Nat.reduceMul,Int.reduceEq,Int.reduceBEq,Int.reduceBNe,Int.reduceLT,Int.reduceLE,Nat.reduceLT,VX]
 refine ex_while (S:=Nat) (fun j=> [(0, .vsl (l.map V.enc) none),(1,f),(7, .int .i64 l.length),(8, .int .i64 (j:Int))]) (fun _=> .empty) (fun j=>l.length - j) (fun j=>firstFrom p l j=firstFrom p l 0) ?_ 0 rfl
 intro b j hj ih
 by_cases hlt:j < l.length
 ·obtain ⟨v,hv⟩:=get_lt hlt
  have hidx:=idx_map (f:=V.enc) (sz:=5) (c:=none) hv (by simp [V.enc_cells])
  have hcall:=hp v (List.mem_of_getElem? hv)
  have hcond:=dlt hlt
  simp only [T6Fa,EXA,Nat.reduceEqDiff,reduceIte,reduceCtorEq,Nat.reduceAdd,Nat.reduceLeDiff,Nat.reduceSub,Nat.reduceMul,Int.reduceEq,Int.reduceBEq,Int.reduceBNe,Int.reduceLT,Int.reduceLE,Nat.reduceLT,VX,readAt_some,hcond,hidx,hf,hfe,hcall]
  split
  ·rename_i hpe
   rw [←hj,firstFrom_hit hv hpe]
  ·rename_i hpe
   refine ih (j+1) _ _ (by omega) ?_ ?_ rfl
   ·rw [←firstFrom_miss hv (by simpa using hpe)]; exact hj
   ·rw [wsucc hlt (by omega)]
    simp only [EXA,Nat.reduceEqDiff,reduceIte,reduceCtorEq,Nat.reduceAdd,Nat.reduceLeDiff,Nat.reduceSub,Nat.reduceMul,Int.reduceEq,Int.reduceBEq,Int.reduceBNe,Int.reduceLT,Int.reduceLE,Nat.reduceLT]
 ·have hcond:=dge (Nat.not_lt.1 hlt)
  simp only [T6Fa,EXA,Nat.reduceEqDiff,reduceIte,reduceCtorEq,Nat.reduceAdd,Nat.reduceLeDiff,Nat.reduceSub,Nat.reduceMul,Int.reduceEq,Int.reduceBEq,Int.reduceBNe,Int.reduceLT,Int.reduceLE,Nat.reduceLT,VX,hcond]
  rw [←hj,firstFrom_end (by omega)]
theorem r_containsV (l:List V) (f:AV) (p:V→Bool) (hf:f.closed=true) (hfe:f.er=f) (hlen:l.length < big) (hp: ∀v∈l,callR ipU gU f [v.enc]=some (.bool (p v))) :
  cR 90 [.vsl (l.map V.enc) none,f]=some (.bool (l.any p)):=by
 refine cR_of (F:=F90) rfl ?_
 simp only [F90,EXA,Nat.reduceEqDiff,reduceIte,reduceCtorEq,Nat.reduceAdd,Nat.reduceLeDiff,Nat.reduceSub,Nat.reduceMul,Int.reduceEq,Int.reduceBEq,Int.reduceBNe,Int.reduceLT,Int.reduceLE,Nat.reduceLT,VX,hf,hfe,r_indexV l f p hf hfe hlen hp,firstFrom_ge]
mutual
def V.fine:V→Bool
 | .mk k n s l m=>
  if k=0 then (V.mk k n s l m).bare
  else if k=1 then (V.mk k 0 s l m).bare && (n == 0 || n == 1)
  else if k=2 then (V.mk k 0 s l m).bare && numOk n
  else if k=3 then (V.mk k n [] l m).bare && vu s
  else if k=4 then (V.mk k n s [] m).bare && fineL l
  else if k=5 then (V.mk k n s l []).bare && fineM none m
  else false
def fineL:List V→Bool
 | []=>true
 | v ::r=>v.fine && fineL r
def fineM:Option Bs→List (Bs×V)→Bool
 | _, []=>true
 | p,(k,v) ::r=>vu k && ((match p with | none=>true | some q=>bytesLess q k) && (v.fine && fineM (some k) r))
end
def okP (p:Option Bs) (k:Bs):Bool:=match p with | none=>true | some q=>bytesLess q k
theorem fineM_cons (p:Option Bs) (k:Bs) (v:V) (r:List Mem):fineM p ((k,v) ::r)=(vu k && (okP p k && (v.fine && fineM (some k) r))):=by
 cases p <;> rw [fineM.eq_def] <;> rfl
theorem fineL_all: ∀l:List V,fineL l= !(l.any fun v=> !v.fine)
 | []=>by simp [fineL]
 | v ::r=>by simp [fineL,fineL_all r]
theorem V.fine_eq (v:V):v.fine=if v.kind=0 then v.bare
  else if v.kind=1 then (V.mk v.kind 0 v.s v.l v.m).bare && (v.n == 0 || v.n == 1)
  else if v.kind=2 then (V.mk v.kind 0 v.s v.l v.m).bare && numOk v.n
  else if v.kind=3 then (V.mk v.kind v.n [] v.l v.m).bare && vu v.s
  else if v.kind=4 then (V.mk v.kind v.n v.s [] v.m).bare && fineL v.l
  else if v.kind=5 then (V.mk v.kind v.n v.s v.l []).bare && fineM none v.m
  else false:=by
 cases v; rw [V.fine]; rfl
def prevK (m:List Mem) (j:Nat):Option Bs:=if j=0 then none else (m[j - 1]?).map (·.1)
theorem prevK_succ {m:List Mem} {j:Nat} {x:Mem} (h:m[j]? =some x):prevK m (j+1)=some x.1:=by
 simp [prevK,h]
theorem r_ask (k:Nat) (h:k < 6):cR 65 [.int .i64 (k:Int)]=some (.tup [.fn (match k with | 0=>84 | 1=>85 | 2=>86 | 3=>87 | 4=>89 | _=>92) [] [], .bool true]):=by
 match k,h with
 | 0,_ | 1,_ | 2,_ | 3,_ | 4,_ | 5,_=>exact cR_closed 1000 (by kernel_rfl)
theorem r_askNo (k:Int) (h:k < 0∨6≤k):cR 65 [.int .i64 k]=some (.tup [.lit .nilFunc, .bool false]):=by
 refine cR_of (F:=F65) rfl ?_
 rcases h with h | h
 ·have h1:decide (k < 0)=true:=by simp; omega
  simp only [T6Fd,EXA,Nat.reduceEqDiff,reduceIte,reduceCtorEq,Nat.reduceAdd,Nat.reduceLeDiff,Nat.reduceSub,Nat.reduceMul,Int.reduceEq,Int.reduceBEq,Int.reduceBNe,Int.reduceLT,Int.reduceLE,Nat.reduceLT,h1]
 ·have h1:decide (k < 0)=false:=by simp; omega
  have h2:decide (k≥6)=true:=by simp; omega
  simp only [T6Fd,EXA,Nat.reduceEqDiff,reduceIte,reduceCtorEq,Nat.reduceAdd,Nat.reduceLeDiff,Nat.reduceSub,Nat.reduceMul,Int.reduceEq,Int.reduceBEq,Int.reduceBNe,Int.reduceLT,Int.reduceLE,Nat.reduceLT,h1,h2]
theorem r_oneText (v:V):cR 87 [v.enc]=some (.bool ((V.mk v.kind v.n [] v.l v.m).bare && vu v.s)):=by
 refine cR_of (F:=F87) rfl ?_
 simp only [F87,EXA,Nat.reduceEqDiff,reduceIte,reduceCtorEq,Nat.reduceAdd,Nat.reduceLeDiff,Nat.reduceSub,Nat.reduceMul,Int.reduceEq,Int.reduceBEq,Int.reduceBNe,Int.reduceLT,Int.reduceLE,Nat.reduceLT,readAt_some,VX,r_bare,r_Good]
 repeat' split
 all_goals simp_all
theorem r_notFine (v:V) (h:cR 48 [v.enc]=some (.bool v.fine)):cR 91 [v.enc]=some (.bool (!v.fine)):=by
 refine cR_of (F:=F91) rfl ?_
 simp only [F91,EXA,Nat.reduceEqDiff,reduceIte,reduceCtorEq,Nat.reduceAdd,Nat.reduceLeDiff,Nat.reduceSub,Nat.reduceMul,Int.reduceEq,Int.reduceBEq,Int.reduceBNe,Int.reduceLT,Int.reduceLE,Nat.reduceLT,readAt_some,VX,h]
theorem r_oneList (v:V) (hb:v.l.length < big) (h: ∀x∈v.l,cR 48 [x.enc]=some (.bool x.fine)):cR 89 [v.enc]=some (.bool ((V.mk v.kind v.n v.s [] v.m).bare && fineL v.l)):=by
 have hc:=r_containsV v.l (.fn 91 [] []) (fun x=> !x.fine) rfl (by simp only [AV.er,erL]) hb (fun x hx=>r_notFine x (h x hx))
 refine cR_of (F:=F89) rfl ?_
 simp only [F89,EXA,Nat.reduceEqDiff,reduceIte,reduceCtorEq,Nat.reduceAdd,Nat.reduceLeDiff,Nat.reduceSub,Nat.reduceMul,Int.reduceEq,Int.reduceBEq,Int.reduceBNe,Int.reduceLT,Int.reduceLE,Nat.reduceLT,readAt_some,VX,r_bare,hc,fineL_all]
 repeat' split
 all_goals simp_all
theorem wpred {j:Nat} (h:0 < j) (hn:j < 9223372036854775808):IntKind.wrap .i64 ((j:Int) - 1)=((j - 1:Nat):Int):=by
 simp [IntKind.wrap,IntKind.bits,IntKind.signed]
 omega
theorem r_table (v:V) (hb:v.m.length < big) (h: ∀x∈v.m,cR 48 [x.2.enc]=some (.bool x.2.fine)):cR 92 [v.enc]=some (.bool ((V.mk v.kind v.n v.s v.l []).bare && fineM none v.m)):=by
 unfold big at hb
 refine cR_of (F:=F92) rfl ?_
 cases hbare:(V.mk v.kind v.n v.s v.l []).bare with
 | false=>simp only [T6Fj,EXA,Nat.reduceEqDiff,reduceIte,reduceCtorEq,Nat.reduceAdd,Nat.reduceLeDiff,Nat.reduceSub,Nat.reduceMul,Int.reduceEq,Int.reduceBEq,Int.reduceBNe,Int.reduceLT,Int.reduceLE,Nat.reduceLT,readAt_some,VX,r_bare,hbare,Bool.false_and]
 | true=>
 simp only [T6Fj,ex_loop,EXA,Nat.reduceEqDiff,reduceIte,reduceCtorEq,Nat.reduceAdd,Nat.reduceLeDiff,Nat.reduceSub,Nat.reduceMul,Int.reduceEq,Int.reduceBEq,Int.reduceBNe,Int.reduceLT,Int.reduceLE,Nat.reduceLT,readAt_some,VX,r_bare,hbare]
 refine ex_whileI (S:=Nat) (fun j=> [(3, .vsl (v.m.map memE) none),(12, .vsl (v.m.map memE) none),(13, .int .i64 v.m.length),(14, .int .i64 (j:Int))]) (fun j=>v.m.length - j) (fun j _=>fineM (prevK v.m j) (v.m.drop j)=fineM none v.m) ?_ 0 _ rfl
 intro b j σ hj ih
 by_cases hlt:j < v.m.length
 ·obtain ⟨⟨key,x⟩,hx⟩:=get_lt hlt
  have hidx:=idx_map (f:=memE) (sz:=6) (c:=none) hx (by simp [memE_cells])
  have hcond:=dlt hlt
  have hfx:=h _ (List.mem_of_getElem? hx)
  simp only at hfx
  rw [drop_cons hx,fineM_cons] at hj
  have hstep: ∀(fr':Fr) (σ':Store),vu key=true→okP (prevK v.m j) key=true→x.fine=true→keep [3,12,13,14] fr'=_→_:=fun fr' σ' a1 a2 a3 hk=>ih (j+1) fr' σ' (by omega) (by
   rw [prevK_succ hx,←hj,a1,a2,a3]; rfl) hk
  by_cases h0:j=0
  ·subst h0
   have d0':decide (0 < ((0:Nat):Int))=false:=rfl
   simp only [T6Fi,EXA,Nat.reduceEqDiff,reduceIte,reduceCtorEq,Nat.reduceAdd,Nat.reduceLeDiff,Nat.reduceSub,Nat.reduceMul,Int.reduceEq,Int.reduceBEq,Int.reduceBNe,Int.reduceLT,Int.reduceLE,Nat.reduceLT,readAt_some,VX,hcond,hidx,r_Good,r_Less,hfx,d0']
   split
   ·rename_i q1
    rw [←hj]; simp_all
   split
   ·rename_i q1 q2
    rw [←hj]; simp_all
   rename_i q1 q2
   exact hstep _ _ (by simpa using q1) rfl (by simpa using q2) (by rw [wsucc hlt (by omega)]; simp only [EXA,Nat.reduceEqDiff,reduceIte,reduceCtorEq,Nat.reduceAdd,Nat.reduceLeDiff,Nat.reduceSub,Nat.reduceMul,Int.reduceEq,Int.reduceBEq,Int.reduceBNe,Int.reduceLT,Int.reduceLE,Nat.reduceLT])
  ·obtain ⟨⟨pk,px⟩,hpx⟩:=get_lt (l:=v.m) (j:=j - 1) (by omega)
   have hidx2:=idx_map (f:=memE) (sz:=6) (c:=none) hpx (by simp [memE_cells])
   have d0':decide (0 < (j:Int))=true:=by simp; omega
   have hw:=wpred (j:=j) (by omega) (by omega)
   have hp:okP (prevK v.m j) key=bytesLess pk key:=by simp [prevK,h0,hpx,okP]
   rw [hp] at hj hstep
   simp only [T6Fi,EXA,Nat.reduceEqDiff,reduceIte,reduceCtorEq,Nat.reduceAdd,Nat.reduceLeDiff,Nat.reduceSub,Nat.reduceMul,Int.reduceEq,Int.reduceBEq,Int.reduceBNe,Int.reduceLT,Int.reduceLE,Nat.reduceLT,readAt_some,VX,hcond,hidx,r_Good,r_Less,hfx,d0',hw,hidx2]
   split
   ·rename_i q1
    rw [←hj]; simp_all
   split
   ·rename_i q1 q2
    rw [←hj]; simp_all
   split
   ·rename_i q1 q2 q3
    rw [←hj]; simp_all
   rename_i q1 q2 q3
   exact hstep _ _ (by simpa using q1) (by simpa using q2) (by simpa using q3) (by rw [wsucc hlt (by omega)]; simp only [EXA,Nat.reduceEqDiff,reduceIte,reduceCtorEq,Nat.reduceAdd,Nat.reduceLeDiff,Nat.reduceSub,Nat.reduceMul,Int.reduceEq,Int.reduceBEq,Int.reduceBNe,Int.reduceLT,Int.reduceLE,Nat.reduceLT])
 ·have hcond:=dge (Nat.not_lt.1 hlt)
  simp only [T6Fi,EXA,Nat.reduceEqDiff,reduceIte,reduceCtorEq,Nat.reduceAdd,Nat.reduceLeDiff,Nat.reduceSub,Nat.reduceMul,Int.reduceEq,Int.reduceBEq,Int.reduceBNe,Int.reduceLT,Int.reduceLE,Nat.reduceLT,VX,hcond]
  rw [←hj,List.drop_eq_nil_of_le (by omega),fineM]
theorem r_fineN: ∀(n:Nat) (v:V),v.sz < n→v.sz < big→cR 48 [v.enc]=some (.bool v.fine):=by
 intro n
 induction n with
 | zero=>intro v h; omega
 | succ n ih=>
  intro v h hb
  have hsz:=v.sz_eq
  have hl:=szL_len v.l
  have hm:=szM_len v.m
  have ihL: ∀x∈v.l,cR 48 [x.enc]=some (.bool x.fine):=fun x hx=>by
   have:=szL_mem hx
   exact ih x (by omega) (by omega)
  have ihM: ∀x∈v.m,cR 48 [x.2.enc]=some (.bool x.2.fine):=fun x hx=>by
   have:=szM_mem hx
   exact ih x.2 (by omega) (by omega)
  have t1:=r_oneList v (by omega) ihL
  have t2:=r_table v (by omega) ihM
  refine cR_of (F:=F48) rfl ?_
  rw [V.fine_eq]
  by_cases hk:v.kind < 0∨6≤v.kind
  ·have e0:v.kind≠0:=by omega
   have e1:v.kind≠1:=by omega
   have e2:v.kind≠2:=by omega
   have e3:v.kind≠3:=by omega
   have e4:v.kind≠4:=by omega
   have e5:v.kind≠5:=by omega
   simp only [T6Fc,EXA,Nat.reduceEqDiff,reduceIte,reduceCtorEq,Nat.reduceAdd,Nat.reduceLeDiff,Nat.reduceSub,Nat.reduceMul,Int.reduceEq,Int.reduceBEq,Int.reduceBNe,Int.reduceLT,Int.reduceLE,Nat.reduceLT,readAt_some,VX,r_askNo v.kind hk,e0,e1,e2,e3,e4,e5]
  ·obtain ⟨k,nn,s,l,m⟩:=v
   simp only [V.kind_mk,V.n_mk,V.s_mk,V.l_mk,V.m_mk] at hk t1 t2 ⊢
   have hcases:k=0∨k=1∨k=2∨k=3∨k=4∨k=5:=by omega
   have a0:cR 65 [.int .i64 0]=some (.tup [.fn 84 [] [], .bool true]):=r_ask 0 (by omega)
   have a1:cR 65 [.int .i64 1]=some (.tup [.fn 85 [] [], .bool true]):=r_ask 1 (by omega)
   have a2:cR 65 [.int .i64 2]=some (.tup [.fn 86 [] [], .bool true]):=r_ask 2 (by omega)
   have a3:cR 65 [.int .i64 3]=some (.tup [.fn 87 [] [], .bool true]):=r_ask 3 (by omega)
   have a4:cR 65 [.int .i64 4]=some (.tup [.fn 89 [] [], .bool true]):=r_ask 4 (by omega)
   have a5:cR 65 [.int .i64 5]=some (.tup [.fn 92 [] [], .bool true]):=r_ask 5 (by omega)
   rcases hcases with rfl | rfl | rfl | rfl | rfl | rfl
   all_goals simp only [T6Fc,EXA,Nat.reduceEqDiff,reduceIte,reduceCtorEq,Nat.reduceAdd,Nat.reduceLeDiff,Nat.reduceSub,Nat.reduceMul,Int.reduceEq,Int.reduceBEq,Int.reduceBNe,Int.reduceLT,Int.reduceLE,Nat.reduceLT,readAt_some,VX,a0,a1,a2,a3,a4,a5,r_bare,r_bit,r_number,r_oneText,t1,t2,Int.reduceEq]
theorem r_fine (v:V) (hb:v.sz < big):cR 48 [v.enc]=some (.bool v.fine):=r_fineN (v.sz+1) v (Nat.lt_succ_self _) hb
end Go.Ab
namespace Go.Ab
open Go.RowKit Go.ChangeShapes Go.WideShapes
theorem rb_bool {σ:Store} {n:Nat} {x:AV} {b:Bool} (h:rb σ (n+1) x=some (.bool b)):x= .bool b:=by
 cases x <;> simp only [rb] at h <;> (repeat' (split at h)) <;> simp_all
theorem er_boolE {x:AV} {b:Bool} (h:x.er= .bool b):x= .bool b:=by
 cases x <;> simp only [AV.er] at h <;> simp_all
theorem acall_of_cR {id:Nat} {args:List AV} {b:Bool} (h:cR id args=some (.bool b)): ∃n σ1,acall ipU gU n id args=some (.bool b,σ1):=by
 unfold cR callR at h
 rw [Option.bind_eq_some_iff] at h
 obtain ⟨⟨r,σ1⟩,h1,h2⟩:=h
 obtain ⟨n,hn⟩:=callS_some.1 h1
 refine ⟨n,σ1,?_⟩
 unfold rbE at h2
 rw [Option.map_eq_some_iff] at h2
 obtain ⟨y,h3,h4⟩:=h2
 obtain rfl:=er_boolE h4
 obtain rfl:=rb_bool (n:=23) h3
 exact hn
section
variable {P:Program} {fm gm:Nat→Option Nat}
theorem cR_glob (g:Nat):closedL (gU g)=true:=by
 unfold gU
 split
 ·kernel_rfl
 ·split
  ·kernel_rfl
  ·split
   ·rfl
   ·split <;> rfl
def RVs (fm:Nat→Option Nat) (w:World) (l:List AV) (vs:List Value):Prop:=l.length=vs.length∧∀j,RV fm w (fun _=>False) Mu.none (l.getD j .undef) (vs.getD j Go.undef)
theorem RVs.nil {w:World}:RVs fm w [] []:=⟨rfl,fun j=>by simpa using RV.undef _⟩
theorem RVs.cons {w:World} {x:AV} {v:Value} {l:List AV} {vs:List Value} (h:RV fm w (fun _=>False) Mu.none x v) (hs:RVs fm w l vs):RVs fm w (x ::l) (v ::vs):=by
 refine ⟨by simp [hs.1],fun j=> ?_⟩
 cases j with
 | zero=>simpa using h
 | succ j=>simpa using hs.2 j
variable {H:Type} {enc:TypeId×Value→H}
theorem rv_glob {w:World} {g':Nat} {cells:List AV} {vs:List Value} (hlt:g' < w.heap.size) (hl:cells.length=vs.length) (hv: ∀j,j < vs.length→w.cell? ⟨g',j,none⟩=some (vs.getD j Go.undef))
  (hr: ∀j,RV fm w (fun _=>False) Mu.none (cells.getD j .undef) (vs.getD j Go.undef)):RV fm w (fun _=>False) Mu.none (.vptr cells 0) (.pointer (some ⟨g',0,none⟩)):=
 .vptr cells 0 g' 0 (fun j=>vs.getD j Go.undef) (by rintro (h | ⟨_,_,h⟩) <;> simp [Mu.none] at h) hlt (fun j hj=>by simpa using hv j (by omega)) hr
theorem rv_globInts {w:World} {g':Nat} {k:IntKind} {zs:List Int} (hlt:g' < w.heap.size) (hv: ∀j,j < zs.length→w.cell? ⟨g',j,none⟩=some (.int k (zs.getD j 0))) :
  RV fm w (fun _=>False) Mu.none (.vptr (zs.map (AV.int k)) 0) (.pointer (some ⟨g',0,none⟩)):=by
 refine rv_glob (vs:=zs.map (Value.int k)) hlt (by simp) (fun j hj=> ?_) (fun j=> ?_)
 ·have hj':j < zs.length:=by simpa using hj
  rw [hv j hj']; simp [List.getD,hj']
 ·by_cases hj:j < zs.length
  ·have e1:(zs.map (AV.int k)).getD j .undef= .int k zs[j]:=by simp [List.getD,hj]
   have e2:(zs.map (Value.int k)).getD j Go.undef= .int k zs[j]:=by simp [List.getD,hj]
   rw [e1,e2]; exact .int _ _
  ·have e1:(zs.map (AV.int k)).getD j .undef= .undef:=by simp [List.getD,hj]
   rw [e1]; exact .undef _
theorem trodAll_stays (hl:laidOutB P=true) {W W':World} {sp':Nat→Bool}: ∀ {ts:List TypeId} {vs:List Value} {ds:List (DataW H)} {ps:List MemPlace},
  (∀t∈ts,P.readableRec t=true∧t < P.types.size)→DataW.TrodAll enc P W 0 (fun _=>true) true ts vs ds ps→(∀p∈ps,W.sameAt W' p)→(∀p∈ps,sp' p.block=true)→DataW.TrodAll enc P W' 0 sp' true ts vs ds ps
 | [], [], [],_,_,h,_,_=>h
 | t ::ts,v ::vs,d ::ds,ps,hr,⟨p,q,h,hs,e⟩,hsame,hsp=>by
  subst e
  refine ⟨p,q,WideElems.Trod_stays hl (hr t (by simp)).1 (hr t (by simp)).2 h (fun x hx=>hsame x (by simp [hx])) (fun x hx=>hsp x (by simp [hx])),?_,rfl⟩
  exact trodAll_stays hl (fun t ht=>hr t (by simp [ht])) hs (fun x hx=>hsame x (by simp [hx])) (fun x hx=>hsp x (by simp [hx]))
 | [],_ ::_,_,_,_,h,_,_=>h.elim
 | [], [],_ ::_,_,_,h,_,_=>h.elim
 | _ ::_, [],_,_,_,h,_,_=>h.elim
 | _ ::_,_ ::_, [],_,_,h,_,_=>h.elim
theorem law_post {f:Func} {s:ChangeSpec} {W W':World} {args:Array Value} {ds gs:List (DataW H)} {before:List MemPlace} {tb:TypeId}
  (hv:s.vars= []) (hs:s.fn H ds= { results:= [.lit (.bool true)],args:=ds }) (hres:f.resultTypes= #[tb]) (ht:P.underlying tb=some .bool)
  (hl:laidOutB P=true) (hr: ∀t∈f.params.toList,P.readableRec t=true∧t < P.types.size)
  (hW:DataW.Whole enc P f.params.toList s.vars false W args.toList ds gs before) (hb:Below W.heap.size W W') :
  s.post enc P f false true false false W args (.bool true) W':=by
 have hlt: ∀p∈before,p.block < W.heap.size:=fun p hp=>hW.lt p hp
 have hW':=hW
 obtain ⟨p,q,hA,hV,rfl,_,_⟩:=hW'
 rw [hv] at hV
 obtain ⟨rfl,rfl⟩:=trodVars_none hV
 refine ⟨ds, [],p ++ [], [],p, [],hW,?_,?_,?_,World.keptBut_mono (fun x hx=>⟨hx, .inr (.inl (by simpa using hx))⟩) (hb.frame (· ∈p ++ [])),fun h=>Bool.noConfusion h⟩
 ·rw [List.append_nil,hs,hres]
  exact trodAll_cons_mk (shut_bool ht true) trodAll_mk0
 ·rw [List.append_nil,hs]
  exact trodAll_stays hl hr hA (fun x hx=>hb.same (hlt x (by simpa using hx))) (fun x hx=>by simpa using hlt x (by simpa using hx))
 ·rw [hv,List.append_nil,hs]
  exact rfl
theorem law_contract {f:Func} {s:ChangeSpec} {W:World} {args:Array Value} {ds gs:List (DataW H)} {before:List MemPlace} {tb:TypeId} {id:Nat} {f':FuncId} {avs:List AV}
  (hm:P.follows .mixedOrders=true) (hP:ProgOk P fm gm ipU drawOk) (hf:fm id=some f') (hgl:GlobOK fm gm gU W (fun _=>False) Mu.none)
  (hcall:cR id avs=some (.bool true)) (hrv:RVs fm W avs args.toList)
  (hv:s.vars= []) (hs:s.fn H ds= { results:= [.lit (.bool true)],args:=ds }) (hres:f.resultTypes= #[tb]) (ht:P.underlying tb=some .bool)
  (hl:laidOutB P=true) (hr: ∀t∈f.params.toList,P.readableRec t=true∧t < P.types.size)
  (hW:DataW.Whole enc P f.params.toList s.vars false W args.toList ds gs before) :
  Calls P f' args W fun e W'=>∃v,e= .returned v∧s.post enc P f false true false false W args v W':=by
 obtain ⟨n,σ1,hn⟩:=acall_of_cR hcall
 refine (acall_sound cR_glob (drawn_ok hm cR_glob) hP hn hf hgl (by simpa using hrv.1) (fun j=> ?_)).mono ?_
 ·have:=hrv.2 j
  simpa using this
 ·rintro e W' ⟨cv,μ',rfl,h2,h3⟩
  cases h2
  exact ⟨_,rfl,law_post hv hs hres ht hl hr hW h3⟩
end
end Go.Ab
namespace Go.Ab
open Go.Lib Go.Proofs Go.Proofs.YtgfeimceppggcaaGreatDoor Go.RowKit Go.ChangeShapes Go.WideShapes
theorem look_mem {α:Type}: ∀ {l:List (Nat×α)} {i:Nat} {x:α},look l i=some x→(i,x)∈l
 | [],_,_,h=>by simp [look] at h
 | (j,y) ::l,i,x,h=>by
  simp only [look] at h
  split at h
  ·rename_i e
   subst e
   simp only [Option.some.injEq] at h
   subst h
   simp
  ·exact List.mem_cons_of_mem _ (look_mem h)
def gmD:Nat→Option Nat:=fun i=>look [(4,0),(2,1),(0,2),(1,3),(5,5),(6,6),(7,7)] i
def chkAll (P:Program) (l:List (Nat×Nat)):Bool:=l.all fun p=>(p.1 == 153 && p.2 == 71) || match ipU p.1 with | some F=>funcChk P (fun i=>look l i) gmD drawOk F p.2 | none=>true
set_option maxRecDepth 100000
noncomputable def zeroM:Value:=((Tryz.prog.info? 52).bind (·.zero)).getD Go.undef
theorem insAt:InsAt Tryz.prog 71 23 52 3 4 0 115 116 zeroM where
 hf:=by kernel_rfl
 fo:=by kernel_rfl
 uS:=by kernel_rfl
 uI:=by kernel_rfl
 uB:=by kernel_rfl
 info:=by kernel_rfl
 zs:=by kernel_rfl
 mixed:=by kernel_rfl
theorem nat153 {fm:Nat→Option Nat}:NatOk Tryz.prog fm F153 71:=
 ⟨_,_,rfl,⟨_,insAt.hf,rfl,by decide⟩,fun X μ w σ σ' args args' r hS hX hl hr h=>ins_ok insAt hS hX hl hr h⟩
theorem progOk_of_all {l:List (Nat×Nat)} (h:chkAll Tryz.prog l=true):ProgOk Tryz.prog (fun i=>look l i) gmD ipU drawOk:=by
 intro id F f' hF hf
 have:=List.all_eq_true.1 h _ (look_mem hf)
 simp only [Bool.or_eq_true,Bool.and_eq_true,beq_iff_eq] at this
 rcases this with ⟨h1,h2⟩ | this
 ·subst h1 h2
  obtain rfl:F153=F:=Option.some.inj ((show ipU 153=some F153 by kernel_rfl).symm.trans hF)
  exact .inr nat153
 ·simp only [hF] at this
  exact .inl this
set_option maxRecDepth 100000
theorem dOwn:ownKnob Tryz.prog.godebug=none:=by kernel_rfl
theorem dMixed:Tryz.prog.follows .mixedOrders=true:=by kernel_rfl
theorem dLaidOut:laidOutB Tryz.prog=true:=by kernel_rfl
theorem dG0:Tryz.prog.globalNamed "unicode/utf8.first" =some 2:=by kernel_rfl
theorem dG1:Tryz.prog.globalNamed "unicode/utf8.acceptRanges" =some 3:=by kernel_rfl
theorem dY0:(Tryz.prog.globals[2]?).map (·.type)=some 277:=by kernel_rfl
theorem dY1:(Tryz.prog.globals[3]?).map (·.type)=some 280:=by kernel_rfl
theorem dG4:Tryz.prog.globalNamed "internal/strconv.uint64pow10" =some 5:=by kernel_rfl
theorem dG6:Tryz.prog.globalNamed "math/bits.deBruijn32tab" =some 6:=by kernel_rfl
theorem dG7:Tryz.prog.globalNamed "math/bits.deBruijn64tab" =some 7:=by kernel_rfl
theorem dG3:Tryz.prog.globalNamed "introit/b64.standard" =some 0:=by kernel_rfl
theorem dY3:(Tryz.prog.globals[0]?).map (·.type)=some 102:=by kernel_rfl
theorem dFirst:Pinned.utf8First=tabData .u8 xL:=by kernel_rfl
def accD:List Int:= [0x80,0xBF,0xA0,0xBF,0x80,0x9F,0x90,0xBF,0x80,0x8F] ++List.replicate 22 0
theorem dAcc:(Rows.laid_unicode_utf8_acceptRanges:DataW Unit)= .agg ((List.range 16).map fun i=> .agg ([accD.getD (2*i) 0,accD.getD (2*i+1) 0].map fun z=> .lit (.int .u8 z))):=by kernel_rfl
theorem gAcc_eqD:gAcc=accD.map (AV.int .u8):=by kernel_rfl
def putRow (cs:Array Value):Obj→Obj
 | .cells _ t frozen=> .cells cs t frozen
 | o=>o
def d32L:List Int:= [0,1,28,2,29,14,24,3,30,22,20,15,25,17,4,8,31,27,13,23,21,19,16,7,26,12,18,6,11,5,10,9]
def d64L:List Int:= [0,1,56,2,57,49,28,3,61,58,42,50,38,29,17,4,62,47,59,36,45,43,51,22,53,39,33,30,24,18,12,5,63,55,48,27,60,41,37,16,46,35,44,21,52,32,23,11,54,26,40,15,34,20,31,10,25,14,19,9,13,8,7,6]
def p10L:List Int:= [1,10,100,1000,10000,100000,1000000,10000000,100000000,1000000000,10000000000,100000000000,1000000000000,10000000000000,100000000000000,1000000000000000,10000000000000000,100000000000000000,1000000000000000000,10000000000000000000]
noncomputable def laidWorld (os:Os):World:=
 { World.holding Tryz.prog os ⟨#[],#[], []⟩ with
  heap:=((((((World.holding Tryz.prog os ⟨#[],#[], []⟩).heap.modify 0 (putRow ([43,47].map (Value.int .u8)).toArray)).modify 2 (putRow (xL.map (Value.int .u8)).toArray)).modify 3 (putRow (accD.map (Value.int .u8)).toArray)).modify 5 (putRow (p10L.map (Value.int .u64)).toArray)).modify 6 (putRow (d32L.map (Value.int .u8)).toArray)).modify 7 (putRow (d64L.map (Value.int .u8)).toArray) }
theorem g_lt {W:World} {n:String} {d:DataW Unit} {g:Nat} (h:VarReads Tryz.prog W n d) (hg:Tryz.prog.globalNamed n=some g):g < W.heap.size:=by
 obtain ⟨g',t,cs,fuel,p,hg',_,hvar,_⟩:=h
 obtain rfl:=Option.some.inj (hg.symm.trans hg')
 simp only [World.var?,hg,Option.bind_some] at hvar
 rcases Nat.lt_or_ge g W.heap.size with h' | h'
 ·exact h'
 ·have:W.heap[g]? =none:=by simpa using h'
  simp [this] at hvar
theorem dFirst_cells {W:World} (h:VarReads Tryz.prog W "unicode/utf8.first" Pinned.utf8First): ∀j,j < xL.length→W.cell? ⟨2,j,none⟩=some (.int .u8 (xL.getD j 0)):=by
 intro j hj
 obtain ⟨g,t,cs,fuel,p,hg,hty,hvar,hd⟩:=h
 obtain rfl:=Option.some.inj (dG0.symm.trans hg)
 obtain rfl:=Option.some.inj (dY0.symm.trans hty)
 rw [dFirst] at hd
 have hcs:=cells_of_tab (n:=256) (e:=5) Tryz.underlying277 Tryz.underlying5 (by kernel_rfl) (by kernel_rfl) hd
 have:=World.var?_cell hg hvar j
 rw [this,←Array.getElem?_toList,hcs]
 simp [List.getD,hj]
theorem dAcc_cells {W:World} (h:VarReads Tryz.prog W "unicode/utf8.acceptRanges" Rows.laid_unicode_utf8_acceptRanges): ∀j,j < accD.length→W.cell? ⟨3,j,none⟩=some (.int .u8 (accD.getD j 0)):=by
 intro j hj
 obtain ⟨g,t,cs,fuel,p,hg,hty,hvar,hd⟩:=h
 obtain rfl:=Option.some.inj (dG1.symm.trans hg)
 obtain rfl:=Option.some.inj (dY1.symm.trans hty)
 rw [dAcc] at hd
 have hi:j / 2 < 16:=by have:j < 32:=hj; omega
 obtain ⟨fuel',d,q,hdi,he⟩:=array_elem (n:=16) (e:=279) Tryz.underlying280 hd (j / 2) hi
 simp only [List.getElem?_map,List.getElem?_range hi,Option.map_some,Option.some.injEq] at hdi
 subst hdi
 rw [show Tryz.prog.cellsOf 279=2 by kernel_rfl] at he
 have hcs:=ints_of_struct Tryz.underlying279 (fun i f hf=>by
  match i,hf with
  | 0,hf=>simp at hf; subst hf; exact ⟨Tryz.underlying5,rfl,by kernel_rfl⟩
  | 1,hf=>simp at hf; subst hf; exact ⟨Tryz.underlying5,rfl,by kernel_rfl⟩
  | i+2,hf=>simp at hf) (by kernel_rfl) he
 have e0:=congrArg (·[j % 2]?) hcs
 simp only [List.getElem?_take,List.getElem?_drop] at e0
 rw [World.var?_cell hg hvar j,←Array.getElem?_toList]
 have hj2:j / 2*2+j % 2=j:=by omega
 rw [hj2] at e0
 rw [if_pos (by omega)] at e0
 rw [e0]
 rcases (by omega:j % 2=0∨j % 2=1) with h | h
 ·rw [h]; simp; congr 2; omega
 ·rw [h]; simp; congr 2; omega
theorem dStd_cells {W:World} (h:VarReads Tryz.prog W "introit/b64.standard" Rows.laid_introit_b64_standard): ∀j,j < 2→W.cell? ⟨0,j,none⟩=some (.int .u8 ([43,47].getD j 0)):=by
 intro j hj
 obtain ⟨g,t,cs,fuel,p,hg,hty,hvar,hd⟩:=h
 obtain rfl:=Option.some.inj (dG3.symm.trans hg)
 obtain rfl:=Option.some.inj (dY3.symm.trans hty)
 rw [show (Rows.laid_introit_b64_standard:DataW Unit)= .agg ([43,47].map fun z=> .lit (.int .u8 z)) from rfl] at hd
 have hcs:=ints_of_struct Tryz.underlying102 (fun i f hf=>by
  match i,hf with
  | 0,hf=>simp at hf; subst hf; exact ⟨Tryz.underlying5,rfl,by kernel_rfl⟩
  | 1,hf=>simp at hf; subst hf; exact ⟨Tryz.underlying5,rfl,by kernel_rfl⟩
  | i+2,hf=>simp at hf) (by kernel_rfl) hd
 rw [World.var?_cell hg hvar j,←Array.getElem?_toList,hcs]
 rcases (by omega:j=0∨j=1) with rfl | rfl <;> rfl
theorem globOK {W:World} {fm:Nat→Option Nat} (h:laidMetH Tryz.prog Rows.rulesKnownRow.laid W) (hs:W.ShapedOpen Tryz.prog):GlobOK fm gmD gU W (fun _=>False) Mu.none:=by
 have hl:laidMet Tryz.prog Rows.rulesKnownRow.laid W:=h
 have m: ∀ {n d},(n,d)∈Rows.rulesKnownRow.laid→VarReads Tryz.prog W n d:=fun hm=>Lib.laidMet.reads hl hm
 have h0:=dFirst_cells (m (n:= "unicode/utf8.first") (d:=Pinned.utf8First) (List.mem_cons_of_mem _ (List.mem_cons_of_mem _ (List.mem_cons_of_mem _ (List.mem_cons_of_mem _ (List.mem_cons_of_mem _ List.mem_cons_self))))))
 have h1:=dAcc_cells (m (n:= "unicode/utf8.acceptRanges") (d:=Rows.laid_unicode_utf8_acceptRanges) (List.mem_cons_of_mem _ (List.mem_cons_of_mem _ (List.mem_cons_of_mem _ List.mem_cons_self))))
 have h3:=dStd_cells (m (n:= "introit/b64.standard") (d:=Rows.laid_introit_b64_standard) (List.mem_cons_of_mem _ (List.mem_cons_of_mem _ (List.mem_cons_of_mem _ (List.mem_cons_of_mem _ List.mem_cons_self)))))
 have h4:=g_lt (m (n:= "internal/strconv.uint64pow10") (d:=Rows.laid_internal_strconv_uint64pow10) (List.mem_cons_of_mem _ (List.mem_cons_of_mem _ List.mem_cons_self))) dG4
 have h6:=g_lt (m (n:= "math/bits.deBruijn32tab") (d:=Rows.laid_math_bits_deBruijn32tab) List.mem_cons_self) dG6
 have h7:=g_lt (m (n:= "math/bits.deBruijn64tab") (d:=Rows.laid_math_bits_deBruijn64tab) (List.mem_cons_of_mem _ List.mem_cons_self)) dG7
 obtain ⟨m,h2⟩:=cell_of_shapedOpen_int (g:=1) (t:=3) (zero:=#[.int .i64 0]) (k:= .i64) hs (of_decide_eq_true (by kernel_rfl)) (by kernel_rfl) rfl (by kernel_rfl) (by kernel_rfl) Tryz.underlying3
 have hlt: ∀g off v,W.cell? ⟨g,off,none⟩=some v→g < W.heap.size:=fun g off v h=>by
  unfold World.cell? at h
  rcases Nat.lt_or_ge g W.heap.size with h' | h'
  ·exact h'
  ·have:W.heap[g]? =none:=by simpa using h'
   simp [this] at h
 intro g g' hg
 have hcase:(g=4∧g'=0)∨(g=2∧g'=1)∨(g=0∧g'=2)∨(g=1∧g'=3)∨(g=5∧g'=5)∨(g=6∧g'=6)∨(g=7∧g'=7):=by
  have:=look_mem hg
  simpa using this
 have nil: ∀ {g g':Nat},gU g= []→g' < W.heap.size→RV fm W (fun _=>False) Mu.none (.vptr (gU g) 0) (.pointer (some ⟨g',0,none⟩)):=fun e hlt=>
  rv_glob (vs:= []) hlt (by rw [e]; rfl) (fun j hj=>absurd hj (Nat.not_lt_zero _)) (fun j=>by rw [e]; simpa using RV.undef _)
 rcases hcase with ⟨rfl,rfl⟩ | ⟨rfl,rfl⟩ | ⟨rfl,rfl⟩ | ⟨rfl,rfl⟩ | ⟨rfl,rfl⟩ | ⟨rfl,rfl⟩ | ⟨rfl,rfl⟩
 ·exact rv_globInts (zs:= [43,47]) (hlt _ _ _ (h3 0 (by decide))) h3
 ·exact nil rfl (hlt _ _ _ h2)
 ·exact rv_globInts (zs:=xL) (hlt _ _ _ (h0 0 (of_decide_eq_true (by kernel_rfl)))) h0
 ·show RV fm W _ _ (.vptr gAcc 0) _
  rw [gAcc_eqD]
  exact rv_globInts (hlt _ _ _ (h1 0 (of_decide_eq_true (by kernel_rfl)))) h1
 ·exact nil rfl h4
 ·exact nil rfl h6
 ·exact nil rfl h7
end Go.Ab
namespace Go.Ab
open Go.RowKit Go.ChangeShapes Go.WideShapes
mutual
def encD {H:Type}:DataW H→AV
 | .lit (.int k n)=> .int k n
 | .lit (.bool b)=> .bool b
 | .lit (.string s)=> .str s
 | .slice els _=> .vsl (encDs els) none
 | .nil=> .vsl [] none
 | .agg ps=> .agg (encC ps)
 | _=> .undef
def encDs {H:Type}:List (DataW H)→List AV
 | []=> []
 | d ::r=>encD d ::encDs r
def encC {H:Type}:List (DataW H)→List AV
 | []=> []
 | d ::r=>(encD d).cells ++encC r
end
section
variable {P:Program} {fm:Nat→Option Nat} {H:Type} {enc:TypeId×Value→H} {w:World} {base:Nat} {sp:Nat→Bool} {held:Bool} {S:List TypeId}
def RC (fm:Nat→Option Nat) (w:World) (l:List AV) (vs:List Value):Prop:=l.length=vs.length∧∀j,RV fm w (fun _=>False) Mu.none (l.getD j .undef) (vs.getD j Go.undef)
theorem RC.one {x:AV} {v:Value} (h:RV fm w (fun _=>False) Mu.none x v):RC fm w [x] [v]:=by
 refine ⟨rfl,fun j=> ?_⟩
 cases j with
 | zero=>exact h
 | succ j=>simpa using RV.undef _
theorem RC.append {l l':List AV} {vs vs':List Value} (h:RC fm w l vs) (h':RC fm w l' vs'):RC fm w (l ++l') (vs ++vs'):=by
 refine ⟨by simp [h.1,h'.1],fun j=> ?_⟩
 by_cases hj:j < l.length
 ·have e1:(l ++l').getD j .undef=l.getD j .undef:=by simp [List.getD,List.getElem?_append_left hj]
  have e2:(vs ++vs').getD j Go.undef=vs.getD j Go.undef:=by simp [List.getD,List.getElem?_append_left (h.1▸hj:j < vs.length)]
  rw [e1,e2]; exact h.2 j
 ·have e1:(l ++l').getD j .undef=l'.getD (j - l.length) .undef:=by simp [List.getD,List.getElem?_append_right (Nat.not_lt.1 hj)]
  have e2:(vs ++vs').getD j Go.undef=vs'.getD (j - l.length) Go.undef:=by
   have:=Nat.not_lt.1 hj
   rw [h.1] at this ⊢
   simp [List.getD,List.getElem?_append_right this]
  rw [e1,e2]; exact h'.2 _
end
end Go.Ab
namespace Go.Ab
open Go.RowKit Go.ChangeShapes Go.WideShapes
def strsSz:List Bs→Nat
 | []=>0
 | s ::r=>s.length+strsSz r
def Ev.sz (e:Ev):Nat:=e.v.sz+e.id.length+e.room.length+e.type.length+e.sender.length+e.key.length+(e.prev.length+strsSz e.prev)+(e.auth.length+strsSz e.auth)+e.content.sz
structure Tys (P:Program) where
 int:TypeId
 i64:TypeId
 str:TypeId
 bool:TypeId
 val:TypeId
 vals:TypeId
 mem:TypeId
 mems:TypeId
 strs:TypeId
 ev:TypeId
 evs:TypeId
 slot:TypeId
 fval:Array Field
 fmem:Array Field
 fev:Array Field
 fslot:Array Field
 uint:P.underlying int=some (.int .i64)
 ui64:P.underlying i64=some (.int .i64)
 ustr:P.underlying str=some .string
 ubool:P.underlying bool=some .bool
 uval:P.underlying val=some (.struct fval)
 uvals:P.underlying vals=some (.slice val)
 umem:P.underlying mem=some (.struct fmem)
 umems:P.underlying mems=some (.slice mem)
 ustrs:P.underlying strs=some (.slice str)
 uev:P.underlying ev=some (.struct fev)
 uevs:P.underlying evs=some (.slice ev)
 uslot:P.underlying slot=some (.struct fslot)
 tval:fval.toList.map (·.type)= [int,i64,str,vals,mems]
 tmem:fmem.toList.map (·.type)= [str,val]
 tev:fev.toList.map (·.type)= [val,str,str,str,str,str,bool,i64,i64,strs,strs,val]
 tslot:fslot.toList.map (·.type)= [str,str]
structure Bulk (H:Type) where
 B:DataW H→Nat
 L:List (DataW H)→Nat
 str: ∀b,B (.lit (.string b))=b.length+1
 int: ∀k n,B (.lit (.int k n))=1
 bool: ∀b,B (.lit (.bool b))=1
 slice: ∀a b,B (.slice a b)=L a+L b+1
 agg: ∀ps,B (.agg ps)=L ps+1
 nil:L []=0
 cons: ∀d r,L (d ::r)=B d+L r
section
variable {P:Program} {H:Type} {enc:TypeId×Value→H} {w:World} {base:Nat} {sp:Nat→Bool} {held:Bool} (T:Tys P) (K:Bulk H)
end
end Go.Ab
namespace Go.Ab
theorem u_lt (x:UInt64):x.toNat < 18446744073709551616:=x.toNat_lt
theorem b63 (x:Nat) (h:x < 18446744073709551616):x >>> 63=0∧x < 9223372036854775808∨x >>> 63=1∧9223372036854775808≤x:=by
 rw [Nat.shiftRight_eq_div_pow]; omega
theorem not_nat (x:UInt64):(~~~x).toNat=18446744073709551615 - x.toNat:=by
 rw [UInt64.toNat_not]; rfl
def addC (x y c:UInt64):UInt64:=((x &&& y) ||| ((x ||| y) &&& ~~~(x+y+c))) >>> 63
def subB (x y b:UInt64):UInt64:=((~~~x &&& y) ||| (~~~(x ^^^ y) &&& (x - y - b))) >>> 63
theorem addC_nat (x y c:UInt64):(addC x y c).toNat=(((x.toNat >>> 63) &&& (y.toNat >>> 63)) ||| (((x.toNat >>> 63) ||| (y.toNat >>> 63)) &&& ((~~~(x+y+c)).toNat >>> 63))):=by
 rw [addC,UInt64.toNat_shiftRight]
 simp only [UInt64.toNat_or,UInt64.toNat_and]
 rw [show (63:UInt64).toNat % 64=63 from rfl]
 simp only [Nat.shiftRight_or_distrib,Nat.shiftRight_and_distrib]
theorem addC_eq (x y c:UInt64) (hc:c.toNat≤1):(x+y+c).toNat+18446744073709551616*(addC x y c).toNat=x.toNat+y.toNat+c.toNat:=by
 have hx:=u_lt x; have hy:=u_lt y; have hs:=u_lt (x+y+c)
 have e:(x+y+c).toNat=(x.toNat+y.toNat+c.toNat) % 18446744073709551616:=by
  rw [UInt64.toNat_add,UInt64.toNat_add,Nat.mod_add_mod]
 rw [addC_nat,not_nat]
 have h3:=b63 (18446744073709551615 - (x+y+c).toNat) (by omega)
 generalize (x+y+c).toNat=s at*
 generalize x.toNat=a at*
 generalize y.toNat=b at*
 rcases b63 a hx with ⟨h1,h1'⟩ | ⟨h1,h1'⟩ <;> rcases b63 b hy with ⟨h2,h2'⟩ | ⟨h2,h2'⟩ <;> rcases h3 with ⟨h3,h3'⟩ | ⟨h3,h3'⟩ <;> rw [h1,h2,h3] <;> simp <;> omega
theorem addC_le (x y c:UInt64) (hc:c.toNat≤1):(addC x y c).toNat≤1:=by
 have:=addC_eq x y c hc
 have:=u_lt x; have:=u_lt y
 omega
theorem subB_nat (x y b:UInt64):(subB x y b).toNat=((((~~~x).toNat >>> 63) &&& (y.toNat >>> 63)) ||| (((~~~(x ^^^ y)).toNat >>> 63) &&& ((x - y - b).toNat >>> 63))):=by
 rw [subB,UInt64.toNat_shiftRight]
 simp only [UInt64.toNat_or,UInt64.toNat_and]
 rw [show (63:UInt64).toNat % 64=63 from rfl]
 simp only [Nat.shiftRight_or_distrib,Nat.shiftRight_and_distrib]
theorem subB_eq (x y b:UInt64) (hb:b.toNat≤1):(x - y - b).toNat+y.toNat+b.toNat=x.toNat+18446744073709551616*(subB x y b).toNat:=by
 have hx:=u_lt x; have hy:=u_lt y; have hs:=u_lt (x - y - b)
 have e:((x - y - b).toNat+y.toNat+b.toNat) % 18446744073709551616=x.toNat % 18446744073709551616:=by
  have:x - y - b+y+b=x:=by
   rw [UInt64.add_assoc,UInt64.add_comm y b,←UInt64.add_assoc,UInt64.sub_add_cancel,UInt64.sub_add_cancel]
  have:=congrArg UInt64.toNat this
  rw [UInt64.toNat_add,UInt64.toNat_add,Nat.mod_add_mod] at this
  rw [Nat.mod_eq_of_lt hx]; exact this
 have hxy:(~~~(x ^^^ y)).toNat >>> 63=1 - ((x.toNat >>> 63) ^^^ (y.toNat >>> 63)):=by
  rw [not_nat,UInt64.toNat_xor]
  have h:=u_lt (x ^^^ y)
  rw [UInt64.toNat_xor] at h
  have h2:(x.toNat ^^^ y.toNat) >>> 63=(x.toNat >>> 63) ^^^ (y.toNat >>> 63):=Nat.shiftRight_xor_distrib
  rw [←h2]
  rcases b63 _ h with ⟨h1,h1'⟩ | ⟨h1,h1'⟩ <;> rw [h1] <;> rcases b63 (18446744073709551615 - (x.toNat ^^^ y.toNat)) (by omega) with ⟨k,k'⟩ | ⟨k,k'⟩ <;> rw [k] <;> omega
 rw [subB_nat,not_nat,hxy]
 have h3:=b63 (x - y - b).toNat hs
 have h4:=b63 (18446744073709551615 - x.toNat) (by omega)
 generalize (x - y - b).toNat=s at*
 generalize x.toNat=a at*
 generalize y.toNat=b' at*
 rcases b63 a hx with ⟨h1,h1'⟩ | ⟨h1,h1'⟩ <;> rcases b63 b' hy with ⟨h2,h2'⟩ | ⟨h2,h2'⟩ <;> rcases h3 with ⟨h3,h3'⟩ | ⟨h3,h3'⟩ <;> rcases h4 with ⟨h4,h4'⟩ | ⟨h4,h4'⟩ <;> rw [h1,h2,h3,h4] <;> simp <;> omega
theorem subB_le (x y b:UInt64) (hb:b.toNat≤1):(subB x y b).toNat≤1:=by
 have:=subB_eq x y b hb
 have:=u_lt x; have:=u_lt y; have:=u_lt (x - y - b)
 omega
def mulHi (x y:UInt64):UInt64:=
 let x0:=x &&& 4294967295; let x1:=x >>> 32; let y0:=y &&& 4294967295; let y1:=y >>> 32
 let t:=x1*y0+(x0*y0) >>> 32
 x1*y1+t >>> 32+((t &&& 4294967295)+x0*y1) >>> 32
theorem lo32 (x:UInt64):(x &&& 4294967295).toNat=x.toNat % 4294967296:=by
 rw [UInt64.toNat_and]; exact Nat.and_two_pow_sub_one_eq_mod _ 32
theorem hi32 (x:UInt64):(x >>> 32).toNat=x.toNat / 4294967296:=by
 rw [UInt64.toNat_shiftRight,show (32:UInt64).toNat % 64=32 from rfl,Nat.shiftRight_eq_div_pow]
theorem mulHi_nat (x y:UInt64):(mulHi x y).toNat=x.toNat*y.toNat / 18446744073709551616:=by
 have hx:=u_lt x; have hy:=u_lt y
 simp only [mulHi,UInt64.toNat_add,UInt64.toNat_mul,lo32,hi32]
 generalize x.toNat=a at*
 generalize y.toNat=b at*
 have ea:a=a / 4294967296*4294967296+a % 4294967296:=by omega
 have eb:b=b / 4294967296*4294967296+b % 4294967296:=by omega
 have k1:a / 4294967296 < 4294967296:=by omega
 have k0:a % 4294967296 < 4294967296:=by omega
 have l1:b / 4294967296 < 4294967296:=by omega
 have l0:b % 4294967296 < 4294967296:=by omega
 generalize a / 4294967296=a1 at*
 generalize a % 4294967296=a0 at*
 generalize b / 4294967296=b1 at*
 generalize b % 4294967296=b0 at*
 subst ea eb
 have e:(a1*4294967296+a0)*(b1*4294967296+b0)=a1*b1*18446744073709551616+(a1*b0+a0*b1)*4294967296+a0*b0:=by grind
 rw [e]
 have m:=fun p q (hp:p < 4294967296) (hq:q < 4294967296)=>(Nat.mul_le_mul (Nat.le_sub_one_of_lt hp) (Nat.le_sub_one_of_lt hq):p*q≤_)
 have m11:=m _ _ k1 l1; have m10:=m _ _ k1 l0; have m01:=m _ _ k0 l1; have m00:=m _ _ k0 l0
 generalize a1*b1=p at*
 generalize a1*b0=q at*
 generalize a0*b1=r at*
 generalize a0*b0=s at*
 omega
theorem mul_eq (x y:UInt64):(x*y).toNat+18446744073709551616*(mulHi x y).toNat=x.toNat*y.toNat:=by
 rw [mulHi_nat,UInt64.toNat_mul]
 have:(2:Nat) ^ 64=18446744073709551616:=rfl
 rw [this]
 exact Nat.mod_add_div _ _
end Go.Ab
namespace Go.Ab
def Prm (p:Nat):Prop:=1 < p∧∀m,m∣p→m=1∨m=p
theorem Prm.cop {p a:Nat} (h:Prm p) (ha: ¬p∣a):Nat.Coprime p a:=by
 rcases h.2 _ (Nat.gcd_dvd_left p a) with e | e
 ·exact e
 ·exact absurd (e▸Nat.gcd_dvd_right p a) ha
theorem Prm.mul {p a b:Nat} (h:Prm p) (hab:p∣a*b):p∣a∨p∣b:=by
 by_cases ha:p∣a
 ·exact .inl ha
 ·exact .inr ((h.cop ha).dvd_of_dvd_mul_left hab)
theorem prm_of (n:Nat) (h:1 < n): ∃p,Prm p∧p∣n:=by
 induction n using Nat.strongRecOn with
 | ind n ih=>
  by_cases hn:Prm n
  ·exact ⟨n,hn,Nat.dvd_refl n⟩
  ·have: ∃m,m∣n∧m≠1∧m≠n:=by
    refine Classical.byContradiction fun hc=>hn ⟨h,fun m hm=> ?_⟩
    by_cases h1:m=1
    ·exact .inl h1
    ·by_cases h2:m=n
     ·exact .inr h2
     ·exact absurd ⟨m,hm,h1,h2⟩ hc
   obtain ⟨m,hm,h1,h2⟩:=this
   have h3:m≤n:=Nat.le_of_dvd (by omega) hm
   have h4:m≠0:=by rintro rfl; simp at hm; omega
   obtain ⟨p,hp,hd⟩:=ih m (by omega) (by omega)
   exact ⟨p,hp,Nat.dvd_trans hd hm⟩
def ch:Nat→Nat→Nat
 | _,0=>1
 | 0,_+1=>0
 | n+1,k+1=>ch n k+ch n (k+1)
theorem ch_mul: ∀n k,(k+1)*ch (n+1) (k+1)=(n+1)*ch n k
 | 0,0=>rfl
 | 0,k+1=>by simp [ch]
 | n+1,0=>by
  have:=ch_mul n 0
  simp only [ch,Nat.zero_add,Nat.one_mul,Nat.mul_one] at this ⊢
  omega
 | n+1,k+1=>by
  have a:=ch_mul n k
  have b:=ch_mul n (k+1)
  have e:ch (n+2) (k+2)=ch (n+1) (k+1)+ch (n+1) (k+2):=rfl
  have e2:ch (n+1) (k+1)=ch n k+ch n (k+1):=rfl
  rw [e,Nat.mul_add,show k+1+1=k+2 from rfl,b,Nat.add_mul (k+1) 1,a,e2]
  simp only [Nat.add_mul,Nat.mul_add]
  omega
theorem ch_zero: ∀n k,n < k→ch n k=0
 | 0,k+1,_=>rfl
 | n+1,k+1,h=>by rw [ch,ch_zero n k (by omega),ch_zero n (k+1) (by omega)]
 | n,0,h=>by omega
theorem ch_self: ∀n,ch n n=1
 | 0=>rfl
 | n+1=>by rw [ch,ch_self n,ch_zero n (n+1) (by omega)]
def bino (n x:Nat):Nat→Nat
 | 0=>0
 | j+1=>bino n x j+ch n j*x ^ j
theorem bino_succ (n x:Nat): ∀j,bino (n+1) x (j+1)=bino n x (j+1)+x*bino n x j
 | 0=>by cases n <;> simp [bino,ch]
 | j+1=>by
  have:=bino_succ n x j
  have e:bino n x (j+1+1)=bino n x (j+1)+ch n (j+1)*(x ^ j*x):=rfl
  have e1:bino n x (j+1)=bino n x j+ch n j*x ^ j:=rfl
  have e2:bino (n+1) x (j+1+1)=bino (n+1) x (j+1)+(ch n j+ch n (j+1))*(x ^ j*x):=rfl
  have k:x*(ch n j*x ^ j)=ch n j*(x ^ j*x):=by rw [Nat.mul_left_comm,Nat.mul_comm x]
  rw [e2,this,e,e1,Nat.add_mul,Nat.mul_add,k]
  omega
theorem bino_pow (x:Nat): ∀n,bino n x (n+1)=(x+1) ^ n
 | 0=>by simp [bino,ch]
 | n+1=>by
  rw [bino_succ,bino,ch_zero n (n+1) (by omega),bino_pow x n,Nat.pow_succ]
  rw [Nat.zero_mul,Nat.add_zero,Nat.mul_comm x,Nat.pow_succ,Nat.mul_add,Nat.mul_one]; omega
theorem bino_mod {p:Nat} (hp:Prm p) (x:Nat): ∀j,j < p→bino p x (j+1) % p=1 % p
 | 0,_=>by cases p <;> simp [bino,ch]
 | j+1,h=>by
  have h1:=hp.1
  have d:p∣ch p (j+1):=by
   have e:=ch_mul (p - 1) j
   rw [show p - 1+1=p by omega] at e
   rcases hp.mul (e▸Nat.dvd_mul_right p _:p∣(j+1)*ch p (j+1)) with k | k
   ·have:=Nat.le_of_dvd (by omega) k; omega
   ·exact k
  rw [bino,Nat.add_mod,bino_mod hp x j (by omega),Nat.mod_eq_zero_of_dvd (Nat.dvd_trans d (Nat.dvd_mul_right _ _))]
  simp
theorem fermat {p:Nat} (hp:Prm p): ∀x,x ^ p % p=x % p
 | 0=>by rw [Nat.zero_pow (by have:=hp.1; omega)]
 | x+1=>by
  have h1:=hp.1
  rw [←bino_pow x p,bino,ch_self,Nat.one_mul,Nat.add_mod,fermat hp x,show bino p x p=bino p x (p - 1+1) by rw [show p - 1+1=p by omega],bino_mod hp x (p - 1) (by omega),←Nat.add_mod,Nat.add_comm]
theorem fermat1 {p:Nat} (hp:Prm p) {x:Nat} (hx: ¬p∣x):x ^ (p - 1) % p=1:=by
 have h1:=hp.1
 have f:=fermat hp x
 have hx0:0 < x:=by
  rcases Nat.eq_zero_or_pos x with rfl | h; · simp at hx
  ·exact h
 have hpos:0 < x ^ (p - 1):=Nat.pow_pos hx0
 have e:x ^ p=x ^ (p - 1)*x:=by rw [←Nat.pow_succ,Nat.succ_eq_add_one,show p - 1+1=p by omega]
 have d:p∣(x ^ (p - 1) - 1)*x:=by
  rw [Nat.sub_mul,←e,Nat.one_mul]
  exact Nat.dvd_of_mod_eq_zero (Nat.sub_mod_eq_zero_of_mod_eq f)
 rcases hp.mul d with k | k
 ·obtain ⟨c,hc⟩:=k
  rw [show x ^ (p - 1)=1+p*c by omega,Nat.add_mul_mod_self_left,Nat.mod_eq_of_lt h1]
 ·exact absurd k hx
theorem pow_gcd (p b:Nat) (m n:Nat):b ^ m % p=1 % p→b ^ n % p=1 % p→b ^ (Nat.gcd m n) % p=1 % p:=by
 induction m,n using Nat.gcd.induction with
 | H0 n=>intro _ h; simpa using h
 | H1 m n hm ih=>
  intro h k
  rw [Nat.gcd_rec]
  refine ih ?_ h
  have e:b ^ n=(b ^ m) ^ (n / m)*b ^ (n % m):=by rw [←Nat.pow_mul,←Nat.pow_add,Nat.div_add_mod]
  rw [e,Nat.mul_mod,Nat.pow_mod,h,←Nat.pow_mod,Nat.one_pow,←Nat.mul_mod,Nat.one_mul] at k
  exact k
theorem pock {N q p a:Nat} (hN:1 < N) (hq:Prm q) (hp:Prm p) (hpN:p∣N) (hd:q∣N - 1) (h1:a ^ (N - 1) % N=1) (h2:Nat.gcd (a ^ ((N - 1) / q) % N+(N - 1)) N=1):q∣p - 1:=by
 refine Classical.byContradiction fun hc=> ?_
 have hc':=hq.cop hc
 have hp1:=hp.1
 have md: ∀x y,x % N=y % N→x % p=y % p:=fun x y h=>by rw [←Nat.mod_mod_of_dvd x hpN,h,Nat.mod_mod_of_dvd y hpN]
 have e1:(a ^ ((N - 1) / q)) ^ q % p=1 % p:=by
  rw [←Nat.pow_mul,Nat.div_mul_cancel hd]; exact md _ _ (by rw [h1,Nat.mod_eq_of_lt hN])
 have na: ¬p∣a ^ ((N - 1) / q):=fun h=>by
  have:p∣(a ^ ((N - 1) / q)) ^ q:=by
   have hq1:=hq.1
   generalize a ^ ((N - 1) / q)=b at*
   rw [show q=q - 1+1 by omega,Nat.pow_succ]; exact Nat.dvd_trans h (Nat.dvd_mul_left _ _)
  rw [Nat.mod_eq_zero_of_dvd this,Nat.mod_eq_of_lt hp1] at e1; omega
 have e2:=fermat1 hp na
 have e3:=pow_gcd p _ _ _ e1 (by rw [e2,Nat.mod_eq_of_lt hp1])
 rw [hc',Nat.pow_one] at e3
 have:p∣a ^ ((N - 1) / q) % N+(N - 1):=by
  apply Nat.dvd_of_mod_eq_zero
  rw [Nat.add_mod,Nat.mod_mod_of_dvd _ hpN,e3,←Nat.add_mod,show 1+(N - 1)=N by omega]
  exact Nat.mod_eq_zero_of_dvd hpN
 have g:p∣1:=h2▸Nat.dvd_gcd this hpN
 have:=Nat.le_of_dvd (by omega) g
 omega
theorem prm_big {N F:Nat} (hN:1 < N) (hF:N < (F+1)*(F+1)) (h: ∀p,Prm p→p∣N→F∣p - 1):Prm N:=by
 refine ⟨hN,fun m hm=> ?_⟩
 obtain ⟨k,hk⟩:=hm
 have big: ∀m k,N=m*k→m≠1→F+1≤m:=by
  intro m k hk h1
  have h0:m≠0:=by rintro rfl; omega
  obtain ⟨p,hp,hd⟩:=prm_of m (by omega)
  have a:=Nat.le_of_dvd (by have:=hp.1; omega) (h p hp (Nat.dvd_trans hd ⟨k,hk⟩))
  have b:=Nat.le_of_dvd (by omega) hd
  have:=hp.1
  omega
 by_cases h1:m=1
 ·exact .inl h1
 ·by_cases h2:k=1
  ·exact .inr (by rw [hk,h2,Nat.mul_one])
  ·have a:=big m k hk h1
   have b:=big k m (by rw [hk,Nat.mul_comm]) h2
   have:=Nat.mul_le_mul a b
   omega
def noDiv (n:Nat):Nat→Bool
 | 0=>true
 | k+1=>(n % (k+2) != 0) && noDiv n k
theorem noDiv_spec (n:Nat): ∀k,noDiv n k=true→∀m,2≤m→m < k+2→¬m∣n
 | 0,_,m,h2,h3,_=>by omega
 | k+1,h,m,h2,h3,hd=>by
  rw [noDiv,Bool.and_eq_true,bne_iff_ne] at h
  by_cases e:m=k+2
  ·subst e; exact h.1 (Nat.mod_eq_zero_of_dvd hd)
  ·exact noDiv_spec n k h.2 m h2 (by omega) hd
theorem prm_small (n k:Nat) (h1:1 < n) (hk:n < (k+2)*(k+2)) (h:noDiv n k=true):Prm n:=by
 refine ⟨h1,fun m hm=> ?_⟩
 obtain ⟨c,hc⟩:=hm
 have hm0:m≠0:=by rintro rfl; omega
 have hc0:c≠0:=by rintro rfl; omega
 by_cases e1:m=1
 ·exact .inl e1
 by_cases e2:c=1
 ·exact .inr (by rw [hc,e2,Nat.mul_one])
 exfalso
 have a: ¬m < k+2:=fun hl=>noDiv_spec n k h m (by omega) hl ⟨c,hc⟩
 have b: ¬c < k+2:=fun hl=>noDiv_spec n k h c (by omega) hl ⟨m,by rw [hc,Nat.mul_comm]⟩
 have:=Nat.mul_le_mul (Nat.not_lt.1 a) (Nat.not_lt.1 b)
 omega
def stN (h:Nat) (f:Nat→Nat):Nat:=match h with
 | 0=>f 0
 | k+1=>f (k+1)
theorem stN_eq (h:Nat) (f:Nat→Nat):stN h f=f h:=by cases h <;> rfl
def pw (n a:Nat):Nat→Nat→Nat
 | 0,_=>1 % n
 | f+1,e=>stN (pw n a f (e / 2)) fun h=>if e % 2=1 then h*h % n*a % n else h*h % n
theorem pw_eq (n a:Nat): ∀f e,e < 2 ^ f→pw n a f e=a ^ e % n
 | 0,e,h=>by rw [show e=0 by simpa using h]; rfl
 | f+1,e,h=>by
  rw [pw,stN_eq,pw_eq n a f (e / 2) (by rw [Nat.pow_succ] at h; omega)]
  have e1:a ^ (e / 2) % n*(a ^ (e / 2) % n) % n=a ^ (2*(e / 2)) % n:=by
   rw [←Nat.mul_mod,←Nat.pow_add,Nat.two_mul]
  split
  ·rw [e1,Nat.mod_mul_mod,←Nat.pow_succ,show (2*(e / 2)).succ=e by omega]
  ·rw [e1,show 2*(e / 2)=e by omega]
end Go.Ab
namespace Go.Ab
set_option maxRecDepth 100000
theorem pock' {N q p:Nat} (a:Nat) (f:Nat) (hq:Prm q) (hf:N < 2 ^ f) (hN:1 < N) (hd:(N - 1) % q=0) (h1:pw N a f (N - 1)=1) (h2:Nat.gcd (pw N a f ((N - 1) / q)+(N - 1)) N=1) (hp:Prm p) (hpN:p∣N):q∣p - 1:=by
 rw [pw_eq _ _ _ _ (by omega)] at h1
 rw [pw_eq _ _ _ _ (Nat.lt_of_le_of_lt (Nat.div_le_self _ _) (by omega))] at h2
 exact pock hN hq hp hpN (Nat.dvd_of_mod_eq_zero hd) h1 h2
theorem prm_two {q r p:Nat} (hq:Prm q) (hr:Prm r) (hqr:q < r) (h1:q∣p - 1) (h2:r∣p - 1):q*r∣p - 1:=
 Nat.Coprime.mul_dvd_of_dvd_of_dvd (hq.cop fun h=>by
  rcases hr.2 _ h with e | e
  ·have:=hq.1; omega
  ·omega) h1 h2
theorem prm_57467:Prm 57467:=prm_small 57467 239 (by decide) (by decide+kernel) (by decide+kernel)
theorem prm_75707:Prm 75707:=prm_small 75707 275 (by decide) (by decide+kernel) (by decide+kernel)
theorem prm_127:Prm 127:=prm_small 127 11 (by decide) (by decide+kernel) (by decide+kernel)
theorem prm_8574133:Prm 8574133:=prm_small 8574133 2928 (by decide) (by decide+kernel) (by decide+kernel)
theorem prm_q3:Prm 1919519569386763:=prm_big (F:=1088914891) (by decide) (by decide+kernel) fun p hp hd=>prm_two prm_127 prm_8574133 (by decide) (pock' 2 51 prm_127 (by decide+kernel) (by decide+kernel) (by decide+kernel) (by decide+kernel) (by decide+kernel) hp hd) (pock' 2 51 prm_8574133 (by decide+kernel) (by decide+kernel) (by decide+kernel) (by decide+kernel) (by decide+kernel) hp hd)
theorem prm_q2:Prm 75445702479781427272750846543864801:=prm_big (F:=145321068039563666441) (by decide) (by decide+kernel) fun p hp hd=>prm_two prm_75707 prm_q3 (by decide) (pock' 2 116 prm_75707 (by decide+kernel) (by decide+kernel) (by decide+kernel) (by decide+kernel) (by decide+kernel) hp hd) (pock' 2 116 prm_q3 (by decide+kernel) (by decide+kernel) (by decide+kernel) (by decide+kernel) (by decide+kernel) hp hd)
theorem prm_q1:Prm 74058212732561358302231226437062788676166966415465897661863160754340907:=prm_big (F:=4335638184405599281083172898336278519067) (by decide) (by decide+kernel) fun p hp hd=>prm_two prm_57467 prm_q2 (by decide) (pock' 2 236 prm_57467 (by decide+kernel) (by decide+kernel) (by decide+kernel) (by decide+kernel) (by decide+kernel) hp hd) (pock' 2 236 prm_q2 (by decide+kernel) (by decide+kernel) (by decide+kernel) (by decide+kernel) (by decide+kernel) hp hd)
abbrev PP:Nat:=57896044618658097711785492504343953926634992332820282019728792003956564819949
theorem prm_PP:Prm 57896044618658097711785492504343953926634992332820282019728792003956564819949:=prm_big (F:=74058212732561358302231226437062788676166966415465897661863160754340907) (by decide) (by decide+kernel) fun p hp hd=>(pock' 2 255 prm_q1 (by decide+kernel) (by decide+kernel) (by decide+kernel) (by decide+kernel) (by decide+kernel) hp hd)
end Go.Ab
namespace Go.Ab
set_option maxRecDepth 100000
instance :NeZero PP:=⟨by decide⟩
abbrev K:Type:=Fin PP
def dK:K:=⟨37095705934669439343138083508754565189542113879843219016388785533085940283555,by decide⟩
def iK:K:=⟨19681161376707505956807079304988542015446066515923890162744021073123829784752,by decide⟩
theorem iK_sq:iK*iK= -1:=by decide+kernel
theorem K_dvd {a:K} (h:a≠0): ¬PP∣a.val:=fun k=>h (Fin.ext (by
 have:=a.isLt
 rw [Fin.val_zero]
 exact Nat.eq_zero_of_dvd_of_lt k this))
theorem K_mul0 {a b:K} (h:a*b=0):a=0∨b=0:=by
 have h1:PP∣a.val*b.val:=Nat.dvd_of_mod_eq_zero (by rw [←Fin.val_mul,h]; rfl)
 rcases prm_PP.mul h1 with k | k
 ·exact .inl (Classical.byContradiction fun c=>K_dvd c k)
 ·exact .inr (Classical.byContradiction fun c=>K_dvd c k)
theorem K_mul_ne {a b:K} (h:a≠0) (k:b≠0):a*b≠0:=fun c=>(K_mul0 c).elim h k
def invK (a:K):K:=⟨a.val ^ (PP - 2) % PP,Nat.mod_lt _ (by decide)⟩
theorem invK_mul {a:K} (h:a≠0):a*invK a=1:=by
 have f: ∀M,M+1=PP - 1→a.val*(a.val ^ M % PP) % PP=1:=fun M hM=>by
  have:=fermat1 prm_PP (K_dvd h)
  rewrite [←hM] at this
  rewrite [Nat.mul_mod_mod,Nat.mul_comm,←Nat.pow_succ]
  exact this
 apply Fin.ext
 rewrite [Fin.val_mul,invK]
 exact f _ (by decide+kernel)
theorem K_cancel {a b c:K} (h:c≠0) (k:c*a=c*b):a=b:=by
 have:=invK_mul h
 grobner
def powK (a:K) (n:Nat):K:=⟨a.val ^ n % PP,Nat.mod_lt _ (by decide)⟩
theorem d_pow:pw PP dK.val 256 ((PP - 1) / 2)=PP - 1:=by decide+kernel
theorem d_nsq {s:K} (h:s*s=dK):False:=by
 have h0:s≠0:=by rintro rfl; revert h; decide+kernel
 have f: ∀M,M=PP - 1→s.val ^ M % PP=1:=fun M hM=>by
  have:=fermat1 prm_PP (K_dvd h0)
  rewrite [←hM] at this
  exact this
 have e:dK.val=s.val*s.val % PP:=by rw [←h,Fin.val_mul]
 have key: ∀N:Nat,N < 2 ^ 256→2*N=PP - 1→pw PP dK.val 256 N=PP - 1→False:=fun N hN h2 p=>by
  rewrite [pw_eq _ _ _ _ hN,e,←Nat.pow_mod,←Nat.pow_two,←Nat.pow_mul,f _ h2] at p
  revert p; decide+kernel
 exact key _ (by decide+kernel) (by decide+kernel) d_pow
theorem d_nsq' {a b:K} (h:a*a=dK*b*b):b=0:=by
 refine Classical.byContradiction fun hb=> ?_
 have:=invK_mul hb
 exact d_nsq (s:=a*invK b) (by grobner)
def OnC (x y:K):Prop:=y*y=1+dK*x*x*y*y+x*x
theorem OnC.neg {x y:K} (h:OnC x y):OnC (-x) y:=by unfold OnC at*; grobner
theorem complete {x1 y1 x2 y2:K} (h1:OnC x1 y1) (h2:OnC x2 y2) {e:K} (he:e=dK*x1*x2*y1*y2):e*e≠1:=fun hs=>by
 unfold OnC at h1 h2
 have hi:=iK_sq
 generalize hd:dK=d at*
 generalize iK=i at*
 have ns: ∀a b:K,a*a=d*b*b→b=0:=fun a b h=>d_nsq' (hd▸h)
 have n1:(1:K)≠0:=by decide+kernel
 have hx:x1*y1≠0:=fun c=>n1 (by grobner)
 have k1:=ns (i*x1+e*y1) (x1*y1*(i*x2+y2)) (by grobner)
 have k2:=ns (i*x1 - e*y1) (x1*y1*(i*x2 - y2)) (by grobner)
 have g1:=(K_mul0 k1).resolve_left hx
 have g2:=(K_mul0 k2).resolve_left hx
 have h22:(2:K)*y2=0:=by grobner
 have y0:y2=0:=(K_mul0 h22).resolve_left (by decide+kernel)
 exact n1 (by grobner)
theorem den1 {x1 y1 x2 y2:K} (h1:OnC x1 y1) (h2:OnC x2 y2):1+dK*x1*x2*y1*y2≠0:=fun c=>complete h1 h2 rfl (by grobner)
theorem den2 {x1 y1 x2 y2:K} (h1:OnC x1 y1) (h2:OnC x2 y2):1 - dK*x1*x2*y1*y2≠0:=fun c=>complete h1 h2 rfl (by grobner)
def addP (p q:K×K):K×K:=
 ((p.1*q.2+q.1*p.2)*invK (1+dK*p.1*q.1*p.2*q.2),(p.2*q.2+p.1*q.1)*invK (1 - dK*p.1*q.1*p.2*q.2))
def On (p:K×K):Prop:=OnC p.1 p.2
theorem on_add {p q:K×K} (hp:On p) (hq:On q):On (addP p q):=by
 obtain ⟨x1,y1⟩:=p; obtain ⟨x2,y2⟩:=q
 have hu:=invK_mul (den1 hp hq)
 have hv:=invK_mul (den2 hp hq)
 simp only [On,addP,OnC] at*
 generalize invK _=u at*
 generalize invK _=v at*
 generalize dK=d at*
 grobner
theorem add_comm' (p q:K×K):addP p q=addP q p:=by
 obtain ⟨x1,y1⟩:=p; obtain ⟨x2,y2⟩:=q
 have e:dK*x1*x2*y1*y2=dK*x2*x1*y2*y1:=by grobner
 simp only [addP,e,Prod.mk.injEq]
 exact ⟨by grobner,by grobner⟩
def negP (p:K×K):K×K:=(-p.1,p.2)
def zeroP:K×K:=(0,1)
theorem on_zero:On zeroP:=by simp only [On,OnC,zeroP]; grobner
theorem on_neg {p:K×K} (h:On p):On (negP p):=OnC.neg h
theorem inv_one:invK 1=1:=by
 have:=invK_mul (a:=1) (by decide+kernel)
 grobner
theorem add_zero' (p:K×K):addP p zeroP=p:=by
 obtain ⟨x,y⟩:=p
 have e1:1+dK*x*0*y*1=1:=by grobner
 have e2:1 - dK*x*0*y*1=1:=by grobner
 simp only [addP,zeroP,e1,e2,inv_one,Prod.mk.injEq]
 exact ⟨by grobner,by grobner⟩
theorem neg_add' {p:K×K} (h:On p):addP (negP p) p=zeroP:=by
 have d1:=invK_mul (den1 (on_neg h) h)
 have d2:=invK_mul (den2 (on_neg h) h)
 obtain ⟨x,y⟩:=p
 simp only [addP,zeroP,negP,On,OnC,Prod.mk.injEq] at*
 generalize invK _=u at*
 generalize invK _=v at*
 generalize dK=d at*
 exact ⟨by grobner,by grobner⟩
end Go.Ab
namespace Go.Ab
set_option maxRecDepth 100000
theorem assoc_x (d x1 y1 x2 y2 x3 y3 A B k A' B' k':K) (h1:y1*y1=1+d*x1*x1*y1*y1+x1*x1) (h2:y2*y2=1+d*x2*x2*y2*y2+x2*x2) (h3:y3*y3=1+d*x3*x3*y3*y3+x3*x3)
  (hA:A=x1*y2+x2*y1) (hB:B=y1*y2+x1*x2) (hk:k=d*x1*x2*y1*y2) (hA':A'=x2*y3+x3*y2) (hB':B'=y2*y3+x2*x3) (hk':k'=d*x2*x3*y2*y3) :
  (A*(1 - k)*y3+x3*B*(1+k))*((1+k')*(1 - k')+d*x1*A'*y1*B')=(x1*B'*(1+k')+A'*(1 - k')*y1)*((1+k)*(1 - k)+d*A*x3*B*y3):=by
 subst hA hB hk hA' hB' hk'
 grobner
theorem assoc_y (d x1 y1 x2 y2 x3 y3 A B k A' B' k':K) (h1:y1*y1=1+d*x1*x1*y1*y1+x1*x1) (h2:y2*y2=1+d*x2*x2*y2*y2+x2*x2) (h3:y3*y3=1+d*x3*x3*y3*y3+x3*x3)
  (hA:A=x1*y2+x2*y1) (hB:B=y1*y2+x1*x2) (hk:k=d*x1*x2*y1*y2) (hA':A'=x2*y3+x3*y2) (hB':B'=y2*y3+x2*x3) (hk':k'=d*x2*x3*y2*y3) :
  (B*(1+k)*y3+A*(1 - k)*x3)*((1+k')*(1 - k') - d*x1*A'*y1*B')=(y1*B'*(1+k')+x1*A'*(1 - k'))*((1+k)*(1 - k) - d*A*x3*B*y3):=by
 subst hA hB hk hA' hB' hk'
 grobner
theorem fac1 {d u v k A B x y:K} (hu:(1+k)*u=1) (hv:(1 - k)*v=1):(1+k)*(1 - k)+d*A*x*B*y=(1+k)*(1 - k)*(1+d*(A*u)*x*(B*v)*y):=by grobner
theorem fac2 {d u v k A B x y:K} (hu:(1+k)*u=1) (hv:(1 - k)*v=1):(1+k)*(1 - k) - d*A*x*B*y=(1+k)*(1 - k)*(1 - d*(A*u)*x*(B*v)*y):=by grobner
theorem fac3 {d u v k A B x y:K} (hu:(1+k)*u=1) (hv:(1 - k)*v=1):(1+k)*(1 - k)+d*x*A*y*B=(1+k)*(1 - k)*(1+d*x*(A*u)*y*(B*v)):=by grobner
theorem fac4 {d u v k A B x y:K} (hu:(1+k)*u=1) (hv:(1 - k)*v=1):(1+k)*(1 - k) - d*x*A*y*B=(1+k)*(1 - k)*(1 - d*x*(A*u)*y*(B*v)):=by grobner
theorem num1 {u v k A B x y:K} (hu:(1+k)*u=1) (hv:(1 - k)*v=1):A*(1 - k)*y+x*B*(1+k)=(1+k)*(1 - k)*(A*u*y+x*(B*v)):=by grobner
theorem num2 {u v k A B x y:K} (hu:(1+k)*u=1) (hv:(1 - k)*v=1):B*(1+k)*y+A*(1 - k)*x=(1+k)*(1 - k)*(B*v*y+A*u*x):=by grobner
theorem num3 {u v k A B x y:K} (hu:(1+k)*u=1) (hv:(1 - k)*v=1):x*B*(1+k)+A*(1 - k)*y=(1+k)*(1 - k)*(x*(B*v)+A*u*y):=by grobner
theorem num4 {u v k A B x y:K} (hu:(1+k)*u=1) (hv:(1 - k)*v=1):y*B*(1+k)+x*A*(1 - k)=(1+k)*(1 - k)*(y*(B*v)+x*(A*u)):=by grobner
theorem fin_eq {g h w w' e e' s s':K} (hs:e*s=1) (hs':e'*s'=1) (X:w*g*(w'*e')=w'*h*(w*e)):w*e*(w'*e')*(g*s)=w*e*(w'*e')*(h*s'):=by grobner
theorem add_assoc' {p q r:K×K} (hp:On p) (hq:On q) (hr:On r):addP (addP p q) r=addP p (addP q r):=by
 have hpq:=on_add hp hq
 have hqr:=on_add hq hr
 have s1:=den1 hpq hr
 have s2:=den2 hpq hr
 have t1:=den1 hp hqr
 have t2:=den2 hp hqr
 have a1:=den1 hp hq
 have a2:=den2 hp hq
 have b1:=den1 hq hr
 have b2:=den2 hq hr
 obtain ⟨x1,y1⟩:=p; obtain ⟨x2,y2⟩:=q; obtain ⟨x3,y3⟩:=r
 have X:=assoc_x dK x1 y1 x2 y2 x3 y3 _ _ _ _ _ _ hp hq hr rfl rfl rfl rfl rfl rfl
 have Y:=assoc_y dK x1 y1 x2 y2 x3 y3 _ _ _ _ _ _ hp hq hr rfl rfl rfl rfl rfl rfl
 simp only [addP,Prod.mk.injEq] at*
 have hu:=invK_mul a1; have hv:=invK_mul a2; have hp:=invK_mul b1; have hq:=invK_mul b2
 have hs:=invK_mul s1; have ht:=invK_mul s2; have hs':=invK_mul t1; have ht':=invK_mul t2
 generalize invK (1+dK*x1*x2*y1*y2)=u at*
 generalize invK (1 - dK*x1*x2*y1*y2)=v at*
 generalize invK (1+dK*x2*x3*y2*y3)=p at*
 generalize invK (1 - dK*x2*x3*y2*y3)=q at*
 generalize hA:x1*y2+x2*y1=A at*
 generalize hB:y1*y2+x1*x2=B at*
 generalize hA':x2*y3+x3*y2=A' at*
 generalize hB':y2*y3+x2*x3=B' at*
 generalize hk:dK*x1*x2*y1*y2=k at*
 generalize hk':dK*x2*x3*y2*y3=k' at*
 generalize invK _=s at*
 generalize invK _=t at*
 generalize invK _=s' at*
 generalize invK _=t' at*
 have n1:(1+k)*(1 - k)≠0:=K_mul_ne a1 a2
 have n2:(1+k')*(1 - k')≠0:=K_mul_ne b1 b2
 have D1:= @fac1 dK u v k A B x3 y3 hu hv
 have D2:= @fac2 dK u v k A B x3 y3 hu hv
 have D3:= @fac3 dK p q k' A' B' x1 y1 hp hq
 have D4:= @fac4 dK p q k' A' B' x1 y1 hp hq
 have m1:=K_mul_ne n1 s1
 have m2:=K_mul_ne n1 s2
 have m3:=K_mul_ne n2 t1
 have m4:=K_mul_ne n2 t2
 rw [D3,D1] at X
 rw [D4,D2] at Y
 clear D1 D2 D3 D4
 have N1:= @num1 u v k A B x3 y3 hu hv
 have N2:= @num2 u v k A B x3 y3 hu hv
 have N3:= @num3 p q k' A' B' x1 y1 hp hq
 have N4:= @num4 p q k' A' B' x1 y1 hp hq
 rw [N1,N3] at X
 rw [N2,N4] at Y
 exact ⟨K_cancel (K_mul_ne m1 m3) (fin_eq hs hs' X),K_cancel (K_mul_ne m2 m4) (fin_eq ht ht' Y)⟩
end Go.Ab
namespace Go.Ab
set_option maxRecDepth 100000
structure Wd where
 x:K
 y:K
 z:K
 t:K
def Rep (w:Wd) (p:K×K):Prop:=w.z≠0∧w.x=p.1*w.z∧w.y=p.2*w.z∧w.t=p.1*p.2*w.z
def addW (p q:Wd):Wd:=
 let a:=(p.y - p.x)*(q.y - q.x); let b:=(p.y+p.x)*(q.y+q.x)
 let c:=p.t*q.t*dK; let d:=p.z*q.z
 let e:=b - a; let f:=d+d - (c+c); let g:=d+d+(c+c); let h:=b+a
 ⟨e*f,g*h,f*g,e*h⟩
def dblW (p:Wd):Wd:=
 let a:=p.x*p.x; let b:=p.y*p.y; let c:=p.z*p.z; let s:=p.x+p.y
 let e:=s*s - a - b; let g:=b - a; let f:=g - (c+c); let h:=0 - a - b
 ⟨e*f,g*h,f*g,e*h⟩
theorem two_ne:(2:K)≠0:=by decide+kernel
theorem rep_add {w w':Wd} {p p':K×K} (h:Rep w p) (h':Rep w' p') (o:On p) (o':On p'):Rep (addW w w') (addP p p'):=by
 have n1:=den1 o o'
 have n2:=den2 o o'
 have hu:=invK_mul n1
 have hv:=invK_mul n2
 obtain ⟨x,y⟩:=p; obtain ⟨x',y'⟩:=p'; obtain ⟨X,Y,Z,T⟩:=w; obtain ⟨X',Y',Z',T'⟩:=w'
 obtain ⟨hz,h1,h2,h3⟩:=h; obtain ⟨hz',h1',h2',h3'⟩:=h'
 simp only at*
 subst h1 h2 h3 h1' h2' h3'
 clear o o'
 have nz:2*(Z*Z')≠0:=K_mul_ne two_ne (K_mul_ne hz hz')
 have m1:=K_mul_ne nz n1
 have m2:=K_mul_ne nz n2
 have ef:Z*Z'+Z*Z' - (x*y*Z*(x'*y'*Z')*dK+x*y*Z*(x'*y'*Z')*dK)=2*(Z*Z')*(1 - dK*x*x'*y*y'):=by clear hu hv; grobner
 have eg:Z*Z'+Z*Z'+(x*y*Z*(x'*y'*Z')*dK+x*y*Z*(x'*y'*Z')*dK)=2*(Z*Z')*(1+dK*x*x'*y*y'):=by clear hu hv ef; grobner
 simp only [Rep,addW,addP,ef,eg]
 clear ef eg
 generalize invK _=u at*
 generalize invK _=v at*
 refine ⟨K_mul_ne m2 m1,?_,?_,?_⟩
 ·clear hv m1 m2 n1 n2 nz; generalize 1 - dK*x*x'*y*y'=g at*; grobner
 ·clear hu m1 m2 n1 n2 nz; generalize 1+dK*x*x'*y*y'=g at*; grobner
 ·clear m1 m2 n1 n2 nz
  generalize 1 - dK*x*x'*y*y'=g at*; generalize 1+dK*x*x'*y*y'=f at*
  grobner
theorem rep_dbl {w:Wd} {p:K×K} (h:Rep w p) (o:On p):Rep (dblW w) (addP p p):=by
 have n1:=den1 o o
 have n2:=den2 o o
 have hu:=invK_mul n1
 have hv:=invK_mul n2
 obtain ⟨x,y⟩:=p; obtain ⟨X,Y,Z,T⟩:=w
 obtain ⟨hz,h1,h2,h3⟩:=h
 simp only [On,OnC] at*
 subst h1 h2 h3
 have nz:Z*Z≠0:=K_mul_ne hz hz
 have m1:=K_mul_ne nz n1
 have m2:=K_mul_ne nz n2
 have eg:y*Z*(y*Z) - x*Z*(x*Z)=Z*Z*(1+dK*x*x*y*y):=by clear hu hv; grobner
 have ef:Z*Z*(1+dK*x*x*y*y) - (Z*Z+Z*Z)= - (Z*Z*(1 - dK*x*x*y*y)):=by clear hu hv eg; grobner
 have nf: - (Z*Z*(1 - dK*x*x*y*y))≠0:=fun c=>m2 (by clear hu hv ef eg o; grobner)
 simp only [Rep,dblW,addP,eg,ef]
 clear ef eg
 generalize invK _=u at*
 generalize invK _=v at*
 refine ⟨K_mul_ne nf m1,?_,?_,?_⟩
 ·clear hv m1 m2 n1 n2 nz nf o; generalize 1 - dK*x*x*y*y=g at*; generalize 1+dK*x*x*y*y=f at*; grobner
 ·clear hu m1 m2 n1 n2 nz nf o; generalize 1+dK*x*x*y*y=g at*; generalize 1 - dK*x*x*y*y=f at*; grobner
 ·clear m1 m2 n1 n2 nz nf o
  generalize 1 - dK*x*x*y*y=g at*; generalize 1+dK*x*x*y*y=f at*
  grobner
def mulP (p:K×K):Nat→K×K
 | 0=>zeroP
 | n+1=>addP (mulP p n) p
theorem on_mul {p:K×K} (h:On p): ∀n,On (mulP p n)
 | 0=>on_zero
 | n+1=>on_add (on_mul h n) h
theorem zero_add' (p:K×K):addP zeroP p=p:=by rw [add_comm',add_zero']
theorem mul_add' {p:K×K} (h:On p) (m:Nat): ∀n,mulP p (m+n)=addP (mulP p m) (mulP p n)
 | 0=>by rw [Nat.add_zero,mulP,add_zero']
 | n+1=>by rw [←Nat.add_assoc,mulP,mul_add' h m n,mulP,add_assoc' (on_mul h m) (on_mul h n) h]
theorem mul_zero': ∀n,mulP zeroP n=zeroP
 | 0=>rfl
 | n+1=>by rw [mulP,mul_zero' n,add_zero']
theorem mul_mul' {p:K×K} (h:On p) (m:Nat): ∀n,mulP p (m*n)=mulP (mulP p m) n
 | 0=>rfl
 | n+1=>by rw [Nat.mul_succ,mul_add' h,mul_mul' h m n,mulP]
theorem mul_two {p:K×K} (h:On p) (n:Nat):mulP p (2*n)=addP (mulP p n) (mulP p n):=by rw [Nat.two_mul,mul_add' h]
def zeroW:Wd:=⟨0,1,1,0⟩
theorem rep_zero:Rep zeroW zeroP:=⟨by decide+kernel,by simp only [zeroP,zeroW]; grobner,by simp only [zeroP,zeroW]; grobner,by simp only [zeroP,zeroW]; grobner⟩
def flatW (p:K×K):Wd:=⟨p.1,p.2,1,p.1*p.2⟩
theorem rep_flat (p:K×K):Rep (flatW p) p:=⟨by simp only [flatW]; decide+kernel,by simp only [flatW]; grobner,by simp only [flatW]; grobner,by simp only [flatW]; grobner⟩
def affW (w:Wd):K×K:=(w.x*invK w.z,w.y*invK w.z)
theorem rep_aff {w:Wd} {p:K×K} (h:Rep w p):affW w=p:=by
 obtain ⟨hz,h1,h2,_⟩:=h
 have:=invK_mul hz
 obtain ⟨x,y⟩:=p
 simp only [affW,h1,h2,Prod.mk.injEq]
 exact ⟨by clear h1 h2; grobner,by clear h1 h2; grobner⟩
def timesW (w:Wd) (k:Nat):Nat→Wd→Wd
 | 0,s=>s
 | n+1,s=>timesW w k n (if k / 2 ^ n % 2=1 then addW (dblW s) w else dblW s)
theorem rep_times {w:Wd} {p:K×K} (h:Rep w p) (o:On p) (k:Nat): ∀n s,Rep s (mulP p (k / 2 ^ n))→Rep (timesW w k n s) (mulP p k)
 | 0,s,hs=>by simpa [timesW] using hs
 | n+1,s,hs=>by
  rw [timesW]
  apply rep_times h o k n
  have e:k / 2 ^ n=2*(k / 2 ^ (n+1))+k / 2 ^ n % 2:=by
   rw [Nat.pow_succ,←Nat.div_div_eq_div_mul]; omega
  have d:=rep_dbl hs (on_mul o _)
  rw [←mul_two o] at d
  split
  ·rename_i hb
   rw [e,hb]
   exact rep_add d h (on_mul o _) o
  ·rename_i hb
   rw [e,show k / 2 ^ n % 2=0 by omega]
   exact d
theorem rep_all {w:Wd} {p:K×K} (h:Rep w p) (o:On p) (k:Nat) (hk:k < 2 ^ 256):Rep (timesW w k 256 zeroW) (mulP p k):=
 rep_times h o k 256 _ (by rw [Nat.div_eq_of_lt hk]; exact rep_zero)
end Go.Ab
namespace Go.Ab
set_option maxRecDepth 100000
theorem powK_val (a:K) (n:Nat):(powK a n).val=a.val ^ n % PP:=rfl
theorem powK_zero (a:K):powK a 0=1:=Fin.ext (by rw [powK_val,Nat.pow_zero]; rfl)
theorem powK_succ (a:K) (n:Nat):powK a (n+1)=powK a n*a:=Fin.ext (by rw [Fin.val_mul,powK_val,powK_val,Nat.pow_succ,Nat.mod_mul_mod])
theorem powK_add (a:K) (m:Nat): ∀n,powK a (m+n)=powK a m*powK a n
 | 0=>by rw [Nat.add_zero,powK_zero]; grobner
 | n+1=>by rw [←Nat.add_assoc,powK_succ,powK_add a m n,powK_succ]; grobner
theorem powK_sq (a:K) (n:Nat):powK (a*a) n=powK a n*powK a n:=by
 induction n with
 | zero=>rw [powK_zero,powK_zero]; grobner
 | succ n ih=>rw [powK_succ,ih,powK_succ]; grobner
def powE (a:K) (n:Nat):K:=Fin.ofNat PP (pw PP a.val 256 n)
theorem powE_eq (a:K) {n:Nat} (h:n < 2 ^ 256):powE a n=powK a n:=Fin.ext (by
 rw [powE,pw_eq _ _ _ _ h,powK_val]; exact Nat.mod_mod _ _)
def e38:Nat:=(PP+3) / 8
def rootK (a:K):Option K:=
 let r:=powK a e38
 let s:=if r*r=a then r else r*iK
 if s*s=a then some (if s.val % 2=1 then 0 - s else s) else none
theorem K_odd {s:K} (h:s.val % 2=1):(0 - s).val % 2=0:=by
 have:=s.isLt
 have e:(0 - s).val=PP - s.val:=by
  rw [Fin.sub_def]
  show (PP - s.val+0) % PP=_
  rw [Nat.add_zero,Nat.mod_eq_of_lt (by omega)]
 have:PP % 2=1:=rfl
 omega
theorem K_even {s:K} (h:s.val % 2=0) (h0:s≠0):(0 - s).val % 2=1:=by
 have:=s.isLt
 have n0:s.val≠0:=fun c=>h0 (Fin.ext (by rw [c]; rfl))
 have e:(0 - s).val=PP - s.val:=by
  rw [Fin.sub_def]
  show (PP - s.val+0) % PP=_
  rw [Nat.add_zero,Nat.mod_eq_of_lt (by omega)]
 have:PP % 2=1:=rfl
 omega
theorem rootK_some {a r:K} (h:rootK a=some r):r*r=a∧r.val % 2=0:=by
 unfold rootK at h
 revert h
 generalize powK a e38=r0
 intro h
 simp only at h
 generalize (if r0*r0=a then r0 else r0*iK)=s at h
 split at h
 ·rename_i hs
  split at h
  ·rename_i ho
   cases h
   exact ⟨by grobner,K_odd ho⟩
  ·cases h
   exact ⟨hs,by omega⟩
 ·cases h
theorem half_pow (s:K) (h:s≠0):powK s ((PP - 1) / 2)=1∨powK s ((PP - 1) / 2)= -1:=by
 have f: ∀M,M=PP - 1→powK s M=1:=fun M hM=>by
  have:=fermat1 prm_PP (K_dvd h)
  rewrite [←hM] at this
  exact Fin.ext this
 have e: ∀N,N+N=PP - 1→powK s N*powK s N=1:=fun N hN=>by
  rewrite [←powK_add]
  exact f _ hN
 replace e:=e ((PP - 1) / 2) (by decide+kernel)
 generalize powK s ((PP - 1) / 2)=w at*
 have:(w - 1)*(w+1)=0:=by grobner
 rcases K_mul0 this with k | k
 ·exact .inl (by grobner)
 ·exact .inr (by grobner)
theorem rootK_sq {s:K} (hs:s.val % 2=0):rootK (s*s)=some s:=by
 have pm: ∀r:K,r*r=s*s→(if r.val % 2=1 then 0 - r else r)=s:=by
  intro r hr
  have:(r - s)*(r+s)=0:=by grobner
  rcases K_mul0 this with k | k
  ·have:r=s:=by grobner
   subst this; rw [if_neg (by omega)]
  ·have e:r=0 - s:=by grobner
   subst e
   by_cases h0:s=0
   ·subst h0; decide+kernel
   ·rw [if_pos (K_even hs h0)]; grobner
 have key:powK (s*s) e38*powK (s*s) e38=s*s∨powK (s*s) e38*iK*(powK (s*s) e38*iK)=s*s:=by
  by_cases h0:s=0
  ·subst h0; left
   rw [show (0:K)*0=0 by grobner,←powE_eq _ (by decide+kernel)]; decide+kernel
  ·have e:powK (s*s) e38*powK (s*s) e38=powK s ((PP - 1) / 2)*(s*s):=by
    rw [powK_sq,←powK_add,←powK_add,show e38+e38+(e38+e38)=(PP - 1) / 2+2 by decide+kernel,powK_add,show (2:Nat)=0+1+1 from rfl,powK_succ,powK_succ,powK_zero]
    grobner
   have hi:=iK_sq
   rcases half_pow s h0 with k | k
   ·left; rw [e,k]; grobner
   ·right
    rw [k] at e
    generalize powK (s*s) e38=g at*
    grobner
 unfold rootK
 simp only
 generalize powK (s*s) e38=g at*
 by_cases h1:g*g=s*s
 ·rw [if_pos h1,if_pos h1,pm _ h1]
 ·rw [if_neg h1]
  have h2:=key.resolve_left h1
  rw [if_pos h2,pm _ h2]
def packP (p:K×K):Nat:=p.2.val+2 ^ 255*(p.1.val % 2)
def openP (n:Nat):Option (K×K):=
 if h:n % 2 ^ 255 < PP then
  let y:K:=⟨n % 2 ^ 255,h⟩
  match rootK ((y*y - 1)*invK (y*y*dK+1)) with
  | none=>none
  | some x=>if n / 2 ^ 255 % 2=1 then if x=0 then none else some (0 - x,y) else some (x,y)
 else none
theorem pack_lt (p:K×K):packP p < 2 ^ 256:=by
 have:=p.2.isLt
 unfold packP
 have:PP < 2 ^ 255:=by decide+kernel
 have:p.1.val % 2 < 2:=Nat.mod_lt _ (by decide)
 omega
theorem d_sq (y:K):y*y*dK+1≠0:=fun c=>by
 have hi:=iK_sq
 have y0:=d_nsq' (a:=iK) (b:=y) (by generalize dK=d at*; generalize iK=i at*; grobner)
 have:(1:K)=0:=by generalize dK=d at*; grobner
 revert this; decide+kernel
theorem open_on {n:Nat} {p:K×K} (h:openP n=some p):On p:=by
 unfold openP at h
 split at h
 case isFalse=>cases h
 rename_i hl
 simp only at h
 generalize (⟨n % 2 ^ 255,hl⟩ :K)=y at*
 have hv:=invK_mul (d_sq y)
 split at h
 ·cases h
 rename_i x hx
 have hr:=(rootK_some hx).1
 generalize invK _=v at*
 have:On (x,y):=by simp only [On,OnC]; generalize dK=d at*; grobner
 split at h
 ·split at h
  ·cases h
  ·cases h
   simp only [On,OnC] at*; generalize dK=d at*; clear hr hv; grobner
 ·cases h; exact this
theorem open_pack {p:K×K} (o:On p):openP (packP p)=some p:=by
 obtain ⟨x,y⟩:=p
 have hy:=y.isLt
 have hP:PP < 2 ^ 255:=by decide+kernel
 have e1:packP (x,y) % 2 ^ 255=y.val:=by simp only [packP]; omega
 have e2:packP (x,y) / 2 ^ 255 % 2=x.val % 2:=by simp only [packP]; omega
 have hl:packP (x,y) % 2 ^ 255 < PP:=by omega
 have ey:(⟨packP (x,y) % 2 ^ 255,hl⟩ :K)=y:=Fin.ext e1
 unfold openP
 rw [dif_pos hl]
 simp only [ey,e2]
 have hv:=invK_mul (d_sq y)
 have hx:(y*y - 1)*invK (y*y*dK+1)=x*x:=by
  generalize invK _=v at*
  simp only [On,OnC] at o; generalize dK=d at*; grobner
 rw [hx]
 by_cases hb:x.val % 2=1
 ·have h0:x≠0:=by rintro rfl; revert hb; decide+kernel
  have e:x*x=(0 - x)*(0 - x):=by grobner
  rw [e,rootK_sq (K_odd hb)]
  simp only [hb,if_true]
  rw [if_neg (fun c=>h0 (by grobner))]
  simp only [Option.some.injEq,Prod.mk.injEq]
  exact ⟨by grobner,trivial⟩
 ·rw [rootK_sq (by omega)]
  simp only [hb,if_false]
def baseP:K×K:=(⟨15112221349535400772501151409588531511454012693041857206046113283949847762202,by decide⟩,⟨46316835694926478169428394003475163141307993866256225615783033603165251855960,by decide⟩)
theorem on_base:On baseP:=by unfold On OnC; decide+kernel
def LL:Nat:=7237005577332262213973186563042994240857116359379907606001950938285454250989
end Go.Ab
namespace Go.Ab
set_option maxRecDepth 100000
def st {α:Type} (h:Nat) (f:Nat→α):α:=match h with
 | 0=>f 0
 | k+1=>f (k+1)
theorem st_eq {α:Type} (h:Nat) (f:Nat→α):st h f=f h:=by cases h <;> rfl
def cN (n:Nat):K:=Fin.ofNat PP n
theorem cN_val (v:K):cN v.val=v:=Fin.ext (Nat.mod_eq_of_lt v.isLt)
theorem val_cN {n:Nat} {v:K} (h:cN n=v):n % PP=v.val:=by rw [←h]; rfl
theorem cN_eq {m n:Nat} (h:m % PP=n % PP):cN m=cN n:=Fin.ext h
theorem cN_mod (n:Nat):cN (n % PP)=cN n:=cN_eq (Nat.mod_mod _ _)
theorem cN_add (m n:Nat):cN (m+n)=cN m+cN n:=Fin.ext (by rw [Fin.val_add]; exact Nat.add_mod _ _ _)
theorem cN_mul (m n:Nat):cN (m*n)=cN m*cN n:=Fin.ext (by rw [Fin.val_mul]; exact Nat.mul_mod _ _ _)
theorem cN_sub {m n:Nat} (h:n≤m):cN (m - n)=cN m - cN n:=by
 have:cN (m - n)+cN n=cN m:=by rw [←cN_add,Nat.sub_add_cancel h]
 grobner
theorem cN_PP:cN PP=0:=by decide+kernel
theorem cN_less {m n:Nat} (h:n < PP):cN (m+PP - n)=cN m - cN n:=by
 rw [cN_sub (by omega),cN_add,cN_PP]; grobner
theorem cN_two (m:Nat):cN (2*m)=cN m+cN m:=by rw [Nat.two_mul,cN_add]
def addN {α:Type} (x y z t x' y' z' t':Nat) (k:Nat→Nat→Nat→Nat→α):α:=
 st ((y+PP - x)*(y'+PP - x') % PP) fun a=>st ((y+x)*(y'+x') % PP) fun b=>
 st (t*t' % PP*dK.val % PP) fun c=>st (z*z' % PP) fun d=>
 st (b+PP - a) fun e=>st (2*d+2*PP - 2*c) fun f=>st (2*d+2*c) fun g=>st (b+a) fun h=>
 st (e*f % PP) fun X=>st (g*h % PP) fun Y=>st (f*g % PP) fun Z=>st (e*h % PP) fun T=>k X Y Z T
def dblN {α:Type} (x y z:Nat) (k:Nat→Nat→Nat→Nat→α):α:=
 st (x*x % PP) fun a=>st (y*y % PP) fun b=>st (z*z % PP) fun c=>st ((x+y)*(x+y) % PP) fun s=>
 st (s+2*PP - a - b) fun e=>st (b+PP - a) fun g=>st (g+2*PP - 2*c) fun f=>st (2*PP - a - b) fun h=>
 st (e*f % PP) fun X=>st (g*h % PP) fun Y=>st (f*g % PP) fun Z=>st (e*h % PP) fun T=>k X Y Z T
theorem cong4 {α:Type} (k:Nat→Nat→Nat→Nat→α) {a b c d a' b' c' d':Nat} (h1:a=a') (h2:b=b') (h3:c=c') (h4:d=d'):k a b c d=k a' b' c' d':=by subst h1 h2 h3 h4; rfl
theorem PP_pos (n:Nat):n % PP < PP:=Nat.mod_lt _ (by decide)
theorem addN_eq {α:Type} (w w':Wd) (k:Nat→Nat→Nat→Nat→α):addN w.x.val w.y.val w.z.val w.t.val w'.x.val w'.y.val w'.z.val w'.t.val k=k (addW w w').x.val (addW w w').y.val (addW w w').z.val (addW w w').t.val:=by
 simp only [addN,st_eq]
 have hc: ∀n m,cN (2*(n % PP)+2*PP - 2*(m % PP))=cN n+cN n - (cN m+cN m):=by
  intro n m
  have:=PP_pos m
  rw [cN_sub (by omega),cN_add,cN_two,cN_two,cN_two,cN_PP,cN_mod,cN_mod]; grobner
 have hg: ∀n m,cN (2*(n % PP)+2*(m % PP))=cN n+cN n+(cN m+cN m):=by
  intro n m
  rw [cN_add,cN_two,cN_two,cN_mod,cN_mod]
 apply cong4 <;> apply val_cN <;> rw [cN_mul] <;> (try rw [hc]) <;> (try rw [hg]) <;>
  simp only [cN_mul,cN_add,cN_mod,cN_less (PP_pos _),cN_less (Fin.isLt _),cN_val,addW]
theorem dblN_eq {α:Type} (w:Wd) (k:Nat→Nat→Nat→Nat→α):dblN w.x.val w.y.val w.z.val k=k (dblW w).x.val (dblW w).y.val (dblW w).z.val (dblW w).t.val:=by
 simp only [dblN,st_eq]
 have h1: ∀n a b,cN (n+2*PP - a % PP - b % PP)=cN n - cN a - cN b:=by
  intro n a b
  have:=PP_pos a; have:=PP_pos b
  rw [cN_sub (by omega),cN_sub (by omega),cN_add,cN_two,cN_PP,cN_mod,cN_mod]; grobner
 have h2: ∀n c,cN (n+2*PP - 2*(c % PP))=cN n - (cN c+cN c):=by
  intro n c
  have:=PP_pos c
  rw [cN_sub (by omega),cN_add,cN_two,cN_two,cN_PP,cN_mod]; grobner
 have h3: ∀a b,cN (2*PP - a % PP - b % PP)=0 - cN a - cN b:=by
  intro a b
  have:=h1 0 a b
  rw [Nat.zero_add] at this
  rw [this]; rfl
 apply cong4 <;> apply val_cN <;>
  simp only [h1,h2,h3,cN_mul,cN_add,cN_mod,cN_less (PP_pos _),cN_less (Fin.isLt _),cN_val,dblW]
def timesN {α:Type} (x y z t e:Nat) (k:Nat→Nat→Nat→Nat→α):Nat→Nat→Nat→Nat→Nat→α
 | 0,X,Y,Z,T=>k X Y Z T
 | n+1,X,Y,Z,T=>dblN X Y Z fun X Y Z T=>match e / 2 ^ n % 2 with
  | 0=>timesN x y z t e k n X Y Z T
  | _+1=>addN X Y Z T x y z t fun X Y Z T=>timesN x y z t e k n X Y Z T
theorem timesN_eq {α:Type} (w:Wd) (e:Nat) (k:Nat→Nat→Nat→Nat→α): ∀n (s:Wd),timesN w.x.val w.y.val w.z.val w.t.val e k n s.x.val s.y.val s.z.val s.t.val=k (timesW w e n s).x.val (timesW w e n s).y.val (timesW w e n s).z.val (timesW w e n s).t.val
 | 0,s=>rfl
 | n+1,s=>by
  rw [timesN,dblN_eq,timesW]
  split
  ·rename_i h0
   rw [if_neg (by omega),timesN_eq w e k n]
  ·rename_i m h1
   rw [if_pos (by omega),addN_eq,timesN_eq w e k n]
def mulE (p:K×K) (e:Nat):K×K:=
 timesN p.1.val p.2.val 1 (p.1.val*p.2.val % PP) e (fun X Y Z _=>st (pw PP Z 256 (PP - 2)) fun i=>(cN (X*i),cN (Y*i))) 256 0 1 1 0
theorem mulE_eq {p:K×K} (o:On p) {e:Nat} (h:e < 2 ^ 256):mulE p e=mulP p e:=by
 have r:=rep_aff (rep_all (rep_flat p) o e h)
 rw [mulE]
 have:=timesN_eq (flatW p) e (fun X Y Z _=>st (pw PP Z 256 (PP - 2)) fun i=>(cN (X*i),cN (Y*i))) 256 zeroW
 rw [show (flatW p).t.val=p.1.val*p.2.val % PP from Fin.val_mul _ _] at this
 refine Eq.trans this ?_
 rw [←r]
 generalize timesW (flatW p) e 256 zeroW=s
 have e1:cN (pw PP s.z.val 256 (PP - 2))=invK s.z:=by
  rw [pw_eq _ _ _ _ (by decide+kernel)]
  exact cN_mod _
 simp only [st_eq,cN_mul,cN_val,e1,affW]
theorem order:mulP baseP LL=zeroP:=by
 rw [←mulE_eq on_base (by decide+kernel)]
 decide+kernel
theorem mul_mod (n:Nat):mulP baseP (n % LL)=mulP baseP n:=by
 conv=>rhs; rw [←Nat.div_add_mod n LL,mul_add' on_base,mul_mul' on_base,order,mul_zero',zero_add']
end Go.Ab
namespace Go.Ab
set_option maxRecDepth 100000
def v4 (a b c d:UInt64):Nat:=a.toNat+18446744073709551616*(b.toNat+18446744073709551616*(c.toNat+18446744073709551616*d.toNat))
def T256:Nat:=115792089237316195423570985008687907853269984665640564039457584007913129639936
def wq (n i:Nat):UInt64:=UInt64.ofNat (n / 18446744073709551616 ^ i)
theorem wd_nat (n i:Nat):(wq n i).toNat=n / 18446744073709551616 ^ i % 18446744073709551616:=UInt64.toNat_ofNat'
theorem v4_lt (a b c d:UInt64):v4 a b c d < T256:=by
 have:=u_lt a; have:=u_lt b; have:=u_lt c; have:=u_lt d
 unfold v4 T256; omega
theorem wd_v4 (a b c d:UInt64):wq (v4 a b c d) 0=a∧wq (v4 a b c d) 1=b∧wq (v4 a b c d) 2=c∧wq (v4 a b c d) 3=d:=by
 have:=u_lt a; have:=u_lt b; have:=u_lt c; have:=u_lt d
 unfold v4
 refine ⟨?_,?_,?_,?_⟩ <;> apply UInt64.toNat_inj.1 <;> rw [wd_nat] <;> simp only [Nat.pow_zero,Nat.pow_succ,Nat.one_mul,Nat.reduceMul] <;> omega
theorem v4_wd {n:Nat} (h:n < T256):v4 (wq n 0) (wq n 1) (wq n 2) (wq n 3)=n:=by
 unfold v4
 simp only [wd_nat,Nat.pow_zero,Nat.pow_succ,Nat.one_mul,Nat.reduceMul]
 unfold T256 at h
 omega
theorem v4_ex {n:Nat} (h:n < T256): ∃a b c d,n=v4 a b c d:=⟨_,_,_,_,(v4_wd h).symm⟩
def upN (X n:Nat):Nat:=if X+n < T256 then X+n else X+n - T256+38
def timesN2 (X Y:Nat):Nat:=let s:=X*Y % T256+38*(X*Y / T256); upN (s % T256) (38*(s / T256))
def plusN (X Y:Nat):Nat:=upN ((X+Y) % T256) (38*((X+Y) / T256))
def lessN (X Y:Nat):Nat:=plusN X (PP - Y % PP)
theorem cN_T256:cN T256=38:=by decide+kernel
theorem cN_38:cN 38=38:=by decide+kernel
theorem cN_up {X n:Nat}:cN (upN X n)=cN X+cN n:=by
 unfold upN
 split
 ·exact cN_add _ _
 ·rename_i h
  rw [cN_add,cN_sub (by omega),cN_add,cN_T256,cN_38]; grobner
theorem up_lt {X n:Nat} (h:X < T256) (hn:n < 18446744073709551616):upN X n < T256:=by
 unfold upN
 split
 ·assumption
 ·unfold T256 at*; omega
theorem cN_split (n:Nat):cN n=cN (n % T256)+38*cN (n / T256):=by
 conv=>lhs; rw [←Nat.mod_add_div n T256,cN_add,cN_mul,cN_T256]
theorem cN_plus (X Y:Nat):cN (plusN X Y)=cN X+cN Y:=by
 rw [plusN,cN_up,cN_mul,cN_38,←cN_split,cN_add]
theorem cN_times2 (X Y:Nat):cN (timesN2 X Y)=cN X*cN Y:=by
 simp only [timesN2]
 rw [cN_up,cN_mul 38,cN_38,←cN_split,cN_add,cN_mul 38,cN_38,←cN_split,cN_mul]
theorem cN_lessN (X Y:Nat):cN (lessN X Y)=cN X - cN Y:=by
 have:=PP_pos Y
 rw [lessN,cN_plus,cN_sub (by omega),cN_PP,cN_mod]; grobner
theorem plus_lt {X Y:Nat} (hX:X < T256) (hY:Y < T256):plusN X Y < T256:=by
 apply up_lt (Nat.mod_lt _ (by decide+kernel))
 have:(X+Y) / T256 < 2:=Nat.div_lt_of_lt_mul (by omega)
 omega
theorem less_lt {X Y:Nat} (hX:X < T256):lessN X Y < T256:=plus_lt hX (Nat.lt_of_le_of_lt (Nat.sub_le _ _) (by decide+kernel))
theorem times_lt {X Y:Nat} (hX:X < T256) (hY:Y < T256):timesN2 X Y < T256:=by
 simp only [timesN2]
 apply up_lt (Nat.mod_lt _ (by decide+kernel))
 have h1:X*Y / T256 < T256:=Nat.div_lt_of_lt_mul (Nat.mul_lt_mul'' hX hY)
 have h2:=Nat.mod_lt (X*Y) (show T256 > 0 by decide+kernel)
 generalize X*Y / T256=u at*
 generalize X*Y % T256=v at*
 unfold T256 at*
 omega
def powN (X e:Nat):Nat→Nat→Nat
 | 0,r=>r
 | n+1,r=>powN X e n (if e / 2 ^ n % 2=1 then timesN2 (timesN2 r r) X else timesN2 r r)
theorem cN_powN (X e:Nat): ∀n r,cN r=powK (cN X) (e / 2 ^ n)→cN (powN X e n r)=powK (cN X) e
 | 0,r,h=>by simpa [powN] using h
 | n+1,r,h=>by
  rw [powN]
  apply cN_powN X e n
  have e1:e / 2 ^ n=e / 2 ^ (n+1)+e / 2 ^ (n+1)+e / 2 ^ n % 2:=by
   rw [Nat.pow_succ,←Nat.div_div_eq_div_mul]; omega
  have e2:powK (cN X) (e / 2 ^ (n+1)+e / 2 ^ (n+1))=cN r*cN r:=by rw [powK_add,h]
  split
  ·rename_i hb
   rw [e1,hb,powK_succ,e2,cN_times2,cN_times2]
  ·rename_i hb
   rw [e1,show e / 2 ^ n % 2=0 by omega,Nat.add_zero,e2,cN_times2]
theorem cN_pow {X e:Nat} (h:e < 2 ^ 256):cN (powN X e 256 1)=powK (cN X) e:=
 cN_powN X e 256 1 (by rw [Nat.div_eq_of_lt h,powK_zero]; rfl)
theorem powN_lt {X:Nat} (hX:X < T256) (e:Nat): ∀n r,r < T256→powN X e n r < T256
 | 0,r,h=>h
 | n+1,r,h=>by
  rw [powN]
  apply powN_lt hX e n
  split
  ·exact times_lt (times_lt h h) hX
  ·exact times_lt h h
def invN (X:Nat):Nat:=powN X (PP - 2) 256 1
theorem cN_inv (X:Nat):cN (invN X)=invK (cN X):=cN_pow (by decide+kernel)
def rootN (X:Nat):Option Nat:=
 let r:=powN (X % PP) e38 256 1
 let s:=if timesN2 r r % PP=X % PP then r else timesN2 r (powN 2 ((PP - 1) / 4) 256 1)
 if timesN2 s s % PP=X % PP then some (if s % PP % 2=1 then lessN 0 (s % PP) % PP else s % PP) else none
theorem iK_pow:cN (powN 2 ((PP - 1) / 4) 256 1)=iK:=by
 rw [cN_pow (by decide+kernel),←powE_eq _ (by decide+kernel)]; decide+kernel
theorem mod_iff (a b:Nat):a % PP=b % PP↔cN a=cN b:=⟨cN_eq,fun h=>congrArg Fin.val h⟩
theorem rootN_eq (X:Nat):rootN X=(rootK (cN X)).map Fin.val:=by
 have e0:cN (powN (X % PP) e38 256 1)=powK (cN X) e38:=by rw [cN_pow (by decide+kernel),cN_mod]
 simp only [rootN,rootK]
 generalize powN (X % PP) e38 256 1=r at*
 generalize powK (cN X) e38=r' at*
 subst e0
 have e1:(timesN2 r r % PP=X % PP)=(cN r*cN r=cN X):=by rw [eq_iff_iff,mod_iff,cN_times2]
 simp only [e1]
 have e2:cN (if cN r*cN r=cN X then r else timesN2 r (powN 2 ((PP - 1) / 4) 256 1))=if cN r*cN r=cN X then cN r else cN r*iK:=by
  split
  ·rfl
  ·rw [cN_times2,iK_pow]
 rw [←e2]
 generalize (if cN r*cN r=cN X then r else timesN2 r (powN 2 ((PP - 1) / 4) 256 1))=s
 have e3:(timesN2 s s % PP=X % PP)=(cN s*cN s=cN X):=by rw [eq_iff_iff,mod_iff,cN_times2]
 simp only [e3]
 split
 ·show some _=some _
  congr 1
  have:(cN s).val=s % PP:=rfl
  rw [this]
  split
  ·have:lessN 0 (s % PP) % PP=(0 - cN s).val:=val_cN (by rw [cN_lessN,cN_mod]; rfl)
   rw [this]
  ·rfl
 ·rfl
end Go.Ab
namespace Go.Ab
abbrev U (x:UInt64):AV:= .int .u64 (x.toNat:Int)
theorem wrapU (n:Nat):IntKind.wrap .u64 (n:Int)=((n % 18446744073709551616:Nat):Int):=by
 simp only [IntKind.wrap,IntKind.bits,IntKind.signed]
 simp
theorem w_add (x y:UInt64):IntKind.wrap .u64 ((x.toNat:Int)+(y.toNat:Int))=((x+y).toNat:Int):=by
 rw [←Int.natCast_add,wrapU,UInt64.toNat_add]
theorem w_mul (x y:UInt64):IntKind.wrap .u64 ((x.toNat:Int)*(y.toNat:Int))=((x*y).toNat:Int):=by
 rw [←Int.natCast_mul,wrapU,UInt64.toNat_mul]
theorem bvU (x:UInt64):BitVec.ofInt 64 (x.toNat:Int)=x.toBitVec:=by
 rw [BitVec.ofInt_natCast]; apply BitVec.eq_of_toNat_eq; simp
def uI (n:Int):UInt64:=UInt64.ofBitVec (BitVec.ofInt 64 n)
theorem wrap_bv (b:BitVec 64):IntKind.wrap .u64 (b.toNat:Int)=((UInt64.ofBitVec b).toNat:Int):=by
 rw [wrapU,Nat.mod_eq_of_lt b.isLt]; rfl
theorem w_and (x:UInt64) (n:Int):IntKind.wrap .u64 ((BitVec.ofInt (IntKind.bits .u64) (x.toNat:Int) &&& BitVec.ofInt (IntKind.bits .u64) n).toNat:Int)=((x &&& uI n).toNat:Int):=by
 show IntKind.wrap .u64 ((BitVec.ofInt 64 (x.toNat:Int) &&& BitVec.ofInt 64 n).toNat:Int)=_
 rw [wrap_bv,bvU]; rfl
theorem w_or (x:UInt64) (n:Int):IntKind.wrap .u64 ((BitVec.ofInt (IntKind.bits .u64) (x.toNat:Int) ||| BitVec.ofInt (IntKind.bits .u64) n).toNat:Int)=((x ||| uI n).toNat:Int):=by
 show IntKind.wrap .u64 ((BitVec.ofInt 64 (x.toNat:Int) ||| BitVec.ofInt 64 n).toNat:Int)=_
 rw [wrap_bv,bvU]; rfl
theorem w_xor (x:UInt64) (n:Int):IntKind.wrap .u64 ((BitVec.ofInt (IntKind.bits .u64) (x.toNat:Int) ^^^ BitVec.ofInt (IntKind.bits .u64) n).toNat:Int)=((x ^^^ uI n).toNat:Int):=by
 show IntKind.wrap .u64 ((BitVec.ofInt 64 (x.toNat:Int) ^^^ BitVec.ofInt 64 n).toNat:Int)=_
 rw [wrap_bv,bvU]; rfl
theorem uI_nat (x:UInt64):uI (x.toNat:Int)=x:=by
 unfold uI; rw [bvU]
theorem w_shr (x:UInt64) (n:Nat) (hn:n < 64):(x.toNat:Int).fdiv (2 ^ (min (n:Int).toNat (IntKind.bits .u64)))=((x >>> UInt64.ofNat n).toNat:Int):=by
 have e:min (n:Int).toNat (IntKind.bits .u64)=n:=by
  show min n 64=n; omega
 rw [e,show ((2:Int) ^ n)=((2 ^ n:Nat):Int) by simp,Int.fdiv_eq_ediv_of_nonneg _ (Int.natCast_nonneg _),←Int.natCast_ediv,UInt64.toNat_shiftRight,Nat.shiftRight_eq_div_pow]
 have:(UInt64.ofNat n).toNat % 64=n:=by
  rw [UInt64.toNat_ofNat',Nat.mod_eq_of_lt (show n < 2 ^ 64 by omega)]; omega
 rw [this]
theorem x_add64 (x y c:UInt64) (hc:c.toNat≤1):extOf .add64 [U x,U y,U c]=some (.tup [U (x+y+c),U (addC x y c)]):=by
 have h:=addC_eq x y c hc
 have h1:=u_lt (x+y+c)
 have e1:(x.toNat+y.toNat+c.toNat) % 18446744073709551616=(x+y+c).toNat:=by omega
 have e2:(x.toNat+y.toNat+c.toNat) / 18446744073709551616=(addC x y c).toNat:=by omega
 simp only [extOf,U,Int.toNat_natCast,if_neg (by omega: ¬c.toNat > 1),e1,e2]
theorem x_sub64 (x y c:UInt64) (hc:c.toNat≤1):extOf .sub64 [U x,U y,U c]=some (.tup [U (x - y - c),U (subB x y c)]):=by
 have h:=subB_eq x y c hc
 have hl:=subB_le x y c hc
 have h1:=u_lt (x - y - c); have h2:=u_lt x; have h3:=u_lt y
 have e1:(x.toNat+18446744073709551616 - y.toNat - c.toNat) % 18446744073709551616=(x - y - c).toNat:=by omega
 have e2:(if x.toNat < y.toNat+c.toNat then 1 else 0)=(subB x y c).toNat:=by split <;> omega
 simp only [extOf,U,Int.toNat_natCast,if_neg (by omega: ¬c.toNat > 1),e1,e2]
theorem sh_r (x:UInt64) (n:Nat) (hn:n < 64):shiftInt .shr .u64 (x.toNat:Int) (n:Int)=some (U (x >>> UInt64.ofNat n)):=by
 unfold shiftInt
 rw [if_neg (by omega)]
 show some (AV.int .u64 ((x.toNat:Int).fdiv (2 ^ (min (n:Int).toNat (IntKind.bits .u64)))))=_
 rw [w_shr x n hn]
theorem sh_l (x:UInt64) (n:Nat) (hn:n < 64):shiftInt .shl .u64 (x.toNat:Int) (n:Int)=some (U (x <<< UInt64.ofNat n)):=by
 unfold shiftInt
 rw [if_neg (by omega)]
 show some (AV.int .u64 (IntKind.wrap .u64 ((x.toNat:Int)*2 ^ (min (n:Int).toNat (IntKind.bits .u64)))))=_
 have e:min (n:Int).toNat (IntKind.bits .u64)=n:=by
  show min n 64=n; omega
 have:(UInt64.ofNat n).toNat % 64=n:=by
  rw [UInt64.toNat_ofNat',Nat.mod_eq_of_lt (show n < 2 ^ 64 by omega)]; omega
 unfold U
 rw [e,show ((2:Int) ^ n)=((2 ^ n:Nat):Int) by simp,←Int.natCast_mul,wrapU,UInt64.toNat_shiftLeft,this,Nat.shiftLeft_eq]
theorem sh_r32 (x:UInt64):shiftInt .shr .u64 (x.toNat:Int) 32=some (U (x >>> 32)):=sh_r x 32 (by decide)
theorem idx_ptr {k:IntKind} {n b off:Nat} {i:Int} (h1:0≤i) (h2:i < (n:Int)):idxOf 1 (some n) (.ptr b off) (.int k i)=some (.ptr b (off+i.toNat)):=by
 simp [idxOf,h1,h2]
theorem idx_n {k:IntKind} {n b j:Nat} (h2:j < n):idxOf 1 (some n) (.ptr b 0) (.int k (j:Int))=some (.ptr b j):=by
 rw [idx_ptr (Int.natCast_nonneg _) (by omega)]; simp
theorem idx_v {k:IntKind} {n:Nat} {cs:List AV} {i:Int} (h1:0≤i) (h2:i < (n:Int)):idxOf 1 (some n) (.vptr cs 0) (.int k i)=some (.vptr cs i.toNat):=by
 simp [idxOf,h1,h2]
theorem wrap_i {i:Int} (h1: -9223372036854775808≤i) (h2:i < 9223372036854775808):IntKind.wrap .i64 i=i:=by
 simp only [IntKind.wrap,IntKind.bits,IntKind.signed]
 simp; omega
theorem wrap_u {i:Int} (h1:0≤i) (h2:i < 18446744073709551616):IntKind.wrap .u64 i=i:=by
 simp only [IntKind.wrap,IntKind.bits,IntKind.signed]
 simp; omega
def EXU:=J @wrap_i <| J @wrap_u <| J @idx_ptr <| J @idx_v <| J w_add (J w_mul (J w_and (J w_or (J w_xor uI_nat))))
def fourE (n:Nat):AV:= .agg [U (wq n 0),U (wq n 1),U (wq n 2),U (wq n 3)]
theorem fourE_v4 (a b c d:UInt64):fourE (v4 a b c d)= .agg [U a,U b,U c,U d]:=by
 obtain ⟨h0,h1,h2,h3⟩:=wd_v4 a b c d
 rw [fourE,h0,h1,h2,h3]
end Go.Ab
namespace Go.Ab
set_option maxHeartbeats 1000000
def C1Fa:= @F350.eq_1
set_option maxRecDepth 100000
theorem r_mul64 (x y:UInt64):cR 354 [U x,U y]=some (.tup [U (mulHi x y),U (x*y)]):=by
 refine cR_of (F:=F354) rfl ?_
 have e1:uI 4294967295=4294967295:=rfl
 have e2:uI (-1)= ~~~0:=rfl
 simp only [F354,EXA,seval,U,EXU,e1,sh_r32]
 rfl
theorem w_minus (a0 a1 a2 a3 b0 b1 b2 b3:UInt64): ∃d0 d1 d2 d3 c1 c2 c3 c4,d0=a0 - b0 - 0∧c1=subB a0 b0 0∧d1=a1 - b1 - c1∧c2=subB a1 b1 c1∧d2=a2 - b2 - c2∧c3=subB a2 b2 c2∧d3=a3 - b3 - c3∧c4=subB a3 b3 c3∧
  cR 352 [.agg [U a0,U a1,U a2,U a3], .agg [U b0,U b1,U b2,U b3]]=some (.tup [.agg [U d0,U d1,U d2,U d3], .bool ((c4.toNat:Int) == 1)]):=by
 refine ⟨_,_,_,_,_,_,_,_,rfl,rfl,rfl,rfl,rfl,rfl,rfl,rfl,?_⟩
 refine cR_of (F:=F352) rfl ?_
 have l1:=subB_le a0 b0 0 (by decide)
 have l2:=subB_le a1 b1 _ l1
 have l3:=subB_le a2 b2 _ l2
 have l4:=subB_le a3 b3 _ l3
 have x1:=x_sub64 a0 b0 0 (by decide)
 have x2:=x_sub64 a1 b1 _ l1
 have x3:=x_sub64 a2 b2 _ l2
 have x4:=x_sub64 a3 b3 _ l3
 have z0:((0:UInt64).toNat:Int)=0:=rfl
 simp only [U,z0] at x1 x2 x3 x4
 simp only [F352,EXA,seval,readAt_some,ex_loop,ex_inLoop,U,EXU,x1,x2,x3,x4]
theorem r_minus {A B:Nat} (hA:A < T256) (hB:B < T256):cR 352 [fourE A,fourE B]=some (.tup [fourE (if B≤A then A - B else A+T256 - B), .bool (decide (A < B))]):=by
 obtain ⟨a0,a1,a2,a3,rfl⟩:=v4_ex hA
 obtain ⟨b0,b1,b2,b3,rfl⟩:=v4_ex hB
 obtain ⟨d0,d1,d2,d3,c1,c2,c3,c4,h1,k1,h2,k2,h3,k3,h4,k4,h⟩:=w_minus a0 a1 a2 a3 b0 b1 b2 b3
 have z0:(0:UInt64).toNat=0:=rfl
 have l1:c1.toNat≤1:=k1▸subB_le a0 b0 0 (by decide)
 have l2:c2.toNat≤1:=k2▸subB_le a1 b1 _ l1
 have l3:c3.toNat≤1:=k3▸subB_le a2 b2 _ l2
 have l4:c4.toNat≤1:=k4▸subB_le a3 b3 _ l3
 have e1:=subB_eq a0 b0 0 (by decide)
 have e2:=subB_eq a1 b1 _ l1
 have e3:=subB_eq a2 b2 _ l2
 have e4:=subB_eq a3 b3 _ l3
 rw [←h1,←k1] at e1
 rw [←h2,←k2] at e2
 rw [←h3,←k3] at e3
 rw [←h4,←k4] at e4
 have hd:=v4_lt d0 d1 d2 d3
 have key:v4 d0 d1 d2 d3+v4 b0 b1 b2 b3=v4 a0 a1 a2 a3+T256*c4.toNat:=by
  unfold v4 T256; omega
 rw [fourE_v4,fourE_v4,h]
 have hn:(if v4 b0 b1 b2 b3≤v4 a0 a1 a2 a3 then v4 a0 a1 a2 a3 - v4 b0 b1 b2 b3 else v4 a0 a1 a2 a3+T256 - v4 b0 b1 b2 b3)=v4 d0 d1 d2 d3:=by
  have:c4.toNat=0∨c4.toNat=1:=by omega
  rcases this with e | e <;> rw [e] at key <;> split <;> omega
 have hc:((c4.toNat:Int) == 1)=decide (v4 a0 a1 a2 a3 < v4 b0 b1 b2 b3):=by
  have:c4.toNat=0∨c4.toNat=1:=by omega
  rcases this with e | e <;> rw [e] at key ⊢
  ·rw [decide_eq_false (by omega)]; rfl
  ·rw [decide_eq_true (by omega)]; rfl
 rw [hn,hc,fourE_v4]
theorem r_prime:cR 351 []=some (fourE PP):=by
 refine cR_of (F:=F351) rfl ?_
 have e:fourE PP= .agg [.int .u64 18446744073709551597, .int .u64 18446744073709551615, .int .u64 18446744073709551615, .int .u64 9223372036854775807]:=by
  have h0:(wq PP 0).toNat=18446744073709551597:=by decide+kernel
  have h1:(wq PP 1).toNat=18446744073709551615:=by decide+kernel
  have h2:(wq PP 2).toNat=18446744073709551615:=by decide+kernel
  have h3:(wq PP 3).toNat=9223372036854775807:=by decide+kernel
  simp only [fourE,U,h0,h1,h2,h3]; rfl
 rw [e]
 simp only [F351,EXA,seval,readAt_some]
theorem PP_T:PP < T256:=by decide+kernel
theorem PP_T2:T256 < PP+PP+PP:=by decide+kernel
theorem r_rest {X:Nat} (hX:X < T256):cR 350 [fourE X]=some (fourE (X % PP)):=by
 have hT:=PP_T2
 have hp:=r_prime
 have hlt {A:Nat} (h1:A < T256) (h:A < PP):=r_minus h1 PP_T
 have hge {A:Nat} (h1:A < T256) (h:PP≤A):cR 352 [fourE A,fourE PP]=some (.tup [fourE (A - PP), .bool false]):=by
  rw [r_minus h1 PP_T,if_pos h,decide_eq_false (by omega)]
 have hlt {A:Nat} (h1:A < T256) (h:A < PP):cR 352 [fourE A,fourE PP]=some (.tup [fourE (A+T256 - PP), .bool true]):=by
  rw [r_minus h1 PP_T,if_neg (by omega),decide_eq_true h]
 simp only [fourE] at hp hge hlt
 refine cR_of (F:=F350) rfl ?_
 by_cases h1:X < PP
 ·have m1:=hlt hX h1
  rw [Nat.mod_eq_of_lt h1]
  simp only [C1Fa,EXA,seval,readAt_some,ex_loop,ex_inLoop,fourE,hp,m1]
 ·by_cases h2:X < PP+PP
  ·have m1:=hge hX (by omega)
   have m2:=hlt (A:=X - PP) (by omega) (by omega)
   rw [Nat.mod_eq_sub_mod (by omega),Nat.mod_eq_of_lt (by omega)]
   simp only [C1Fa,EXA,seval,readAt_some,ex_loop,ex_inLoop,fourE,hp,m1,m2]
  ·have m1:=hge hX (by omega)
   have m2:=hge (A:=X - PP) (by omega) (by omega)
   have m3:=hlt (A:=X - PP - PP) (by omega) (by omega)
   rw [Nat.mod_eq_sub_mod (by omega),Nat.mod_eq_sub_mod (by omega),Nat.mod_eq_of_lt (by omega)]
   simp only [C1Fa,EXA,seval,readAt_some,ex_loop,ex_inLoop,fourE,hp,m1,m2,m3]
end Go.Ab
