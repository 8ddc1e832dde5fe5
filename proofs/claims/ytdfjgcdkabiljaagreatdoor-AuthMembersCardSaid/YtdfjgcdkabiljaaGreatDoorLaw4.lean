/- What functions of the program, and of the library, answer. Conditions: none. -/
import Derived.Test.YtdfjgcdkabiljaaGreatDoorLaw3
import Derived.SizedLaws
import Derived.Test.YtdfjgcdkabiljaaGreatDoorDraw
import Derived.Carry
import Derived.ChangeSame
import Derived.ChangeSlices
import Derived.WideKeyArgs
import Derived.Below
import Derived.OpenShut
import Derived.RowKit
import Derived.Lib.LaidU8
import Derived.Test.YtdfjgcdkabiljaaGreatDoorCards
import Derived.Test.YtdfjgcdkabiljaaGreatDoorTie
import Derived.WalkKit
import Derived.ProofKit
import Derived.Deep.DeepHandedRow
import Derived.Lib.LaidTab
import Derived.Shelf.Vars
import Derived.Test.YtdfjgcdkabiljaaGreatDoorEx
set_option linter.unusedVariables false
set_option linter.unusedSimpArgs false
set_option linter.defProp false
set_option linter.unnecessarySimpa false
namespace Go.Ab
set_option maxHeartbeats 1000000
theorem wadd {a b:Nat} (h:a+b < 9223372036854775808):IntKind.wrap .i64 ((a:Int)+(b:Int))=((a+b:Nat):Int):=by
 simp [IntKind.wrap,IntKind.bits,IntKind.signed]
 omega
end Go.Ab
namespace Go.Ab
set_option maxHeartbeats 1000000
def T6Fa:=J @F100_20.eq_1 (@F100.eq_1)
def T6Fc:= @F48.eq_1
def T6Fd:= @F65.eq_1
def T6Fi:=J @F92_10.eq_1 (J @F92_27.eq_1 (J @F92_28.eq_1 (@F92.eq_1)))
def T6Fj:=J @F92_10.eq_1 (J @F92_27.eq_1 (@F92.eq_1))
set_option maxRecDepth 100000
def firstFrom {α:Type} (p:α→Bool) (els:List α) (j:Nat):Int:=match (els.drop j).findIdx? p with
 | some i=>((i+j:Nat):Int)
 | none=> -1
theorem firstFrom_hit {α:Type} {p:α→Bool} {els:List α} {j:Nat} {e:α} (h:els[j]? =some e) (hp:p e=true):firstFrom p els j=(j:Int):=by
 unfold firstFrom
 rw [drop_cons h]
 simp [List.findIdx?_cons,hp]
theorem firstFrom_miss {α:Type} {p:α→Bool} {els:List α} {j:Nat} {e:α} (h:els[j]? =some e) (hp:p e=false):firstFrom p els j=firstFrom p els (j+1):=by
 unfold firstFrom
 rw [drop_cons h]
 simp only [List.findIdx?_cons,hp]
 cases (els.drop (j+1)).findIdx? p <;> simp <;> omega
theorem firstFrom_end {α:Type} {p:α→Bool} {els:List α} {j:Nat} (h:els.length≤j):firstFrom p els j= -1:=by
 unfold firstFrom
 rw [List.drop_eq_nil_of_le h]
 rfl
theorem firstFrom_ge {α:Type} (p:α→Bool) (l:List α):decide (firstFrom p l 0≥0)=l.any p:=by
 unfold firstFrom
 rw [List.drop_zero]
 cases h:l.findIdx? p with
 | none=>
  have:=List.findIdx?_eq_none_iff.1 h
  have h2:l.any p=false:=by
   rw [List.any_eq_false]
   intro x hx
   simp [this x hx]
  rw [h2]
  simp
 | some i=>
  obtain ⟨h1,h2,_⟩:=List.findIdx?_eq_some_iff_getElem.1 h
  have h3:l.any p=true:=List.any_eq_true.2 ⟨_,List.getElem_mem h1,h2⟩
  rw [h3]
  simp
def big:Nat:=4611686018427387904
theorem r_indexV (l:List V) (f:AV) (p:V→Bool) (hf:f.closed=true) (hfe:f.er=f) (hlen:l.length < big) (hp: ∀v∈l,callR ipU gU f [v.enc]=some (.bool (p v))) :
  cR 100 [.vsl (l.map V.enc) none,f]=some (.int .i64 (firstFrom p l 0)):=by
 unfold big at hlen
 refine cR_of (F:=F100) rfl ?_
 simp only [F100,ex_loop,EXA,seval,VX]
 refine ex_while (S:=Nat) (fun j=> [(0, .vsl (l.map V.enc) none),(1,f),(7, .int .i64 l.length),(8, .int .i64 (j:Int))]) (fun _=> .empty) (fun j=>l.length - j) (fun j=>firstFrom p l j=firstFrom p l 0) ?_ 0 rfl
 intro b j hj ih
 by_cases hlt:j < l.length
 ·obtain ⟨v,hv⟩:=get_lt hlt
  have hidx:=idx_map (f:=V.enc) (sz:=5) (c:=none) hv (by simp [V.enc_cells])
  have hcall:=hp v (List.mem_of_getElem? hv)
  have hcond:=dlt hlt
  simp only [T6Fa,EXA,seval,VX,readAt_some,hcond,hidx,hf,hfe,hcall]
  split
  ·rename_i hpe
   rw [←hj,firstFrom_hit hv hpe]
  ·rename_i hpe
   refine ih (j+1) _ _ (by omega) ?_ ?_ rfl
   ·rw [←firstFrom_miss hv (by simpa using hpe)]; exact hj
   ·rw [wsucc hlt (by omega)]
    simp only [EXA,seval]
 ·have hcond:=dge (Nat.not_lt.1 hlt)
  simp only [T6Fa,EXA,seval,hcond]
  rw [←hj,firstFrom_end (by omega)]
theorem r_containsV (l:List V) (f:AV) (p:V→Bool) (hf:f.closed=true) (hfe:f.er=f) (hlen:l.length < big) (hp: ∀v∈l,callR ipU gU f [v.enc]=some (.bool (p v))) :
  cR 90 [.vsl (l.map V.enc) none,f]=some (.bool (l.any p)):=by
 refine cR_of (F:=F90) rfl ?_
 simp only [F90,EXA,seval,VX,hf,hfe,r_indexV l f p hf hfe hlen hp,firstFrom_ge]
mutual
def V.fine:V→Bool
 | .mk k n s l m=>
  if k=0 then (V.mk k n s l m).bare
  else if k=1 then (V.mk k 0 s l m).bare && (n == 0 || n == 1)
  else if k=2 then (V.mk k 0 s l m).bare && numOk n
  else if k=3 then (V.mk k n [] l m).bare && vu s
  else if k=4 then (V.mk k n s [] m).bare && fineL l
  else if k=5 then (V.mk k n s l []).bare && fineM none m
  else false
def fineL:List V→Bool
 | []=>true
 | v ::r=>v.fine && fineL r
def fineM:Option Bs→List (Bs×V)→Bool
 | _, []=>true
 | p,(k,v) ::r=>vu k && ((match p with | none=>true | some q=>bytesLess q k) && (v.fine && fineM (some k) r))
end
def okP (p:Option Bs) (k:Bs):Bool:=match p with | none=>true | some q=>bytesLess q k
theorem fineM_cons (p:Option Bs) (k:Bs) (v:V) (r:List Mem):fineM p ((k,v) ::r)=(vu k && (okP p k && (v.fine && fineM (some k) r))):=by
 cases p <;> rw [fineM.eq_def] <;> rfl
theorem fineL_all: ∀l:List V,fineL l= !(l.any fun v=> !v.fine)
 | []=>by simp [fineL]
 | v ::r=>by simp [fineL,fineL_all r]
theorem V.fine_eq (v:V):v.fine=if v.kind=0 then v.bare
  else if v.kind=1 then (V.mk v.kind 0 v.s v.l v.m).bare && (v.n == 0 || v.n == 1)
  else if v.kind=2 then (V.mk v.kind 0 v.s v.l v.m).bare && numOk v.n
  else if v.kind=3 then (V.mk v.kind v.n [] v.l v.m).bare && vu v.s
  else if v.kind=4 then (V.mk v.kind v.n v.s [] v.m).bare && fineL v.l
  else if v.kind=5 then (V.mk v.kind v.n v.s v.l []).bare && fineM none v.m
  else false:=by
 cases v; rw [V.fine]; rfl
def prevK (m:List Mem) (j:Nat):Option Bs:=if j=0 then none else (m[j - 1]?).map (·.1)
theorem prevK_succ {m:List Mem} {j:Nat} {x:Mem} (h:m[j]? =some x):prevK m (j+1)=some x.1:=by
 simp [prevK,h]
theorem r_ask (k:Nat) (h:k < 6):cR 65 [.int .i64 (k:Int)]=some (.tup [.fn (match k with | 0=>84 | 1=>85 | 2=>86 | 3=>87 | 4=>89 | _=>92) [] [], .bool true]):=by
 match k,h with
 | 0,_ | 1,_ | 2,_ | 3,_ | 4,_ | 5,_=>exact cR_closed 1000 (by kernel_rfl)
theorem r_askNo (k:Int) (h:k < 0∨6≤k):cR 65 [.int .i64 k]=some (.tup [.lit .nilFunc, .bool false]):=by
 refine cR_of (F:=F65) rfl ?_
 rcases h with h | h
 ·have h1:decide (k < 0)=true:=by simp; omega
  simp only [T6Fd,EXA,seval,h1]
 ·have h1:decide (k < 0)=false:=by simp; omega
  have h2:decide (k≥6)=true:=by simp; omega
  simp only [T6Fd,EXA,seval,h1,h2]
theorem r_oneText (v:V):cR 87 [v.enc]=some (.bool ((V.mk v.kind v.n [] v.l v.m).bare && vu v.s)):=by
 refine cR_of (F:=F87) rfl ?_
 simp only [F87,EXA,seval,readAt_some,VX,r_bare,r_Good]
 repeat' split
 all_goals simp_all
theorem r_notFine (v:V) (h:cR 48 [v.enc]=some (.bool v.fine)):cR 91 [v.enc]=some (.bool (!v.fine)):=by
 refine cR_of (F:=F91) rfl ?_
 simp only [F91,EXA,seval,readAt_some,VX,h]
theorem r_oneList (v:V) (hb:v.l.length < big) (h: ∀x∈v.l,cR 48 [x.enc]=some (.bool x.fine)):cR 89 [v.enc]=some (.bool ((V.mk v.kind v.n v.s [] v.m).bare && fineL v.l)):=by
 have hc:=r_containsV v.l (.fn 91 [] []) (fun x=> !x.fine) rfl (by simp only [AV.er,erL]) hb (fun x hx=>r_notFine x (h x hx))
 refine cR_of (F:=F89) rfl ?_
 simp only [F89,EXA,seval,readAt_some,VX,r_bare,hc,fineL_all]
 repeat' split
 all_goals simp_all
theorem wpred {j:Nat} (h:0 < j) (hn:j < 9223372036854775808):IntKind.wrap .i64 ((j:Int) - 1)=((j - 1:Nat):Int):=by
 simp [IntKind.wrap,IntKind.bits,IntKind.signed]
 omega
theorem r_table (v:V) (hb:v.m.length < big) (h: ∀x∈v.m,cR 48 [x.2.enc]=some (.bool x.2.fine)):cR 92 [v.enc]=some (.bool ((V.mk v.kind v.n v.s v.l []).bare && fineM none v.m)):=by
 unfold big at hb
 refine cR_of (F:=F92) rfl ?_
 cases hbare:(V.mk v.kind v.n v.s v.l []).bare with
 | false=>simp only [T6Fj,EXA,seval,readAt_some,VX,r_bare,hbare,Bool.false_and]
 | true=>
 simp only [T6Fj,ex_loop,EXA,seval,readAt_some,VX,r_bare,hbare]
 refine ex_whileI (S:=Nat) (fun j=> [(3, .vsl (v.m.map memE) none),(12, .vsl (v.m.map memE) none),(13, .int .i64 v.m.length),(14, .int .i64 (j:Int))]) (fun j=>v.m.length - j) (fun j _=>fineM (prevK v.m j) (v.m.drop j)=fineM none v.m) ?_ 0 _ rfl
 intro b j σ hj ih
 by_cases hlt:j < v.m.length
 ·obtain ⟨⟨key,x⟩,hx⟩:=get_lt hlt
  have hidx:=idx_map (f:=memE) (sz:=6) (c:=none) hx (by simp [memE_cells])
  have hcond:=dlt hlt
  have hfx:=h _ (List.mem_of_getElem? hx)
  simp only at hfx
  rw [drop_cons hx,fineM_cons] at hj
  have hstep: ∀(fr':Fr) (σ':Store),vu key=true→okP (prevK v.m j) key=true→x.fine=true→keep [3,12,13,14] fr'=_→_:=fun fr' σ' a1 a2 a3 hk=>ih (j+1) fr' σ' (by omega) (by
   rw [prevK_succ hx,←hj,a1,a2,a3]; rfl) hk
  by_cases h0:j=0
  ·subst h0
   have d0':decide (0 < ((0:Nat):Int))=false:=rfl
   simp only [T6Fi,EXA,Nat.reduceEqDiff,Nat.reduceAdd,readAt_some,VX,hcond,hidx,r_Good,hfx,d0']
   split
   ·rename_i q1
    rw [←hj]; simp_all
   split
   ·rename_i q1 q2
    rw [←hj]; simp_all
   rename_i q1 q2
   exact hstep _ _ (by simpa using q1) rfl (by simpa using q2) (by rw [wsucc hlt (by omega)]; simp only [EXA,seval])
  ·obtain ⟨⟨pk,px⟩,hpx⟩:=get_lt (l:=v.m) (j:=j - 1) (by omega)
   have hidx2:=idx_map (f:=memE) (sz:=6) (c:=none) hpx (by simp [memE_cells])
   have d0':decide (0 < (j:Int))=true:=by simp; omega
   have hw:=wpred (j:=j) (by omega) (by omega)
   have hp:okP (prevK v.m j) key=bytesLess pk key:=by simp [prevK,h0,hpx,okP]
   rw [hp] at hj hstep
   simp only [T6Fi,EXA,seval,readAt_some,VX,hcond,hidx,r_Good,r_Less,hfx,d0',hw,hidx2]
   split
   ·rename_i q1
    rw [←hj]; simp_all
   split
   ·rename_i q1 q2
    rw [←hj]; simp_all
   split
   ·rename_i q1 q2 q3
    rw [←hj]; simp_all
   rename_i q1 q2 q3
   exact hstep _ _ (by simpa using q1) (by simpa using q2) (by simpa using q3) (by rw [wsucc hlt (by omega)]; simp only [EXA,seval])
 ·have hcond:=dge (Nat.not_lt.1 hlt)
  simp only [T6Fi,EXA,seval,hcond]
  rw [←hj,List.drop_eq_nil_of_le (by omega),fineM]
theorem r_fineN: ∀(n:Nat) (v:V),v.sz < n→v.sz < big→cR 48 [v.enc]=some (.bool v.fine):=by
 intro n
 induction n with
 | zero=>intro v h; omega
 | succ n ih=>
  intro v h hb
  have hsz:=v.sz_eq
  have hl:=szL_len v.l
  have hm:=szM_len v.m
  have ihL: ∀x∈v.l,cR 48 [x.enc]=some (.bool x.fine):=fun x hx=>by
   have:=szL_mem hx
   exact ih x (by omega) (by omega)
  have ihM: ∀x∈v.m,cR 48 [x.2.enc]=some (.bool x.2.fine):=fun x hx=>by
   have:=szM_mem hx
   exact ih x.2 (by omega) (by omega)
  have t1:=r_oneList v (by omega) ihL
  have t2:=r_table v (by omega) ihM
  refine cR_of (F:=F48) rfl ?_
  rw [V.fine_eq]
  by_cases hk:v.kind < 0∨6≤v.kind
  ·have e0:v.kind≠0:=by omega
   have e1:v.kind≠1:=by omega
   have e2:v.kind≠2:=by omega
   have e3:v.kind≠3:=by omega
   have e4:v.kind≠4:=by omega
   have e5:v.kind≠5:=by omega
   simp only [T6Fc,EXA,seval,VX,r_askNo v.kind hk,e0,e1,e2,e3,e4,e5]
  ·obtain ⟨k,nn,s,l,m⟩:=v
   simp only [V.kind_mk,V.n_mk,V.s_mk,V.l_mk,V.m_mk] at hk t1 t2 ⊢
   have hcases:k=0∨k=1∨k=2∨k=3∨k=4∨k=5:=by omega
   have a0:cR 65 [.int .i64 0]=some (.tup [.fn 84 [] [], .bool true]):=r_ask 0 (by omega)
   have a1:cR 65 [.int .i64 1]=some (.tup [.fn 85 [] [], .bool true]):=r_ask 1 (by omega)
   have a2:cR 65 [.int .i64 2]=some (.tup [.fn 86 [] [], .bool true]):=r_ask 2 (by omega)
   have a3:cR 65 [.int .i64 3]=some (.tup [.fn 87 [] [], .bool true]):=r_ask 3 (by omega)
   have a4:cR 65 [.int .i64 4]=some (.tup [.fn 89 [] [], .bool true]):=r_ask 4 (by omega)
   have a5:cR 65 [.int .i64 5]=some (.tup [.fn 92 [] [], .bool true]):=r_ask 5 (by omega)
   rcases hcases with rfl | rfl | rfl | rfl | rfl | rfl
   all_goals simp only [T6Fc,EXA,seval,readAt_some,VX,a0,a1,a2,a3,a4,a5,r_bare,r_bit,r_number,r_oneText,t1,t2,Int.reduceEq]
theorem r_fine (v:V) (hb:v.sz < big):cR 48 [v.enc]=some (.bool v.fine):=r_fineN (v.sz+1) v (Nat.lt_succ_self _) hb
end Go.Ab
namespace Go.Ab
open Go.RowKit Go.ChangeShapes Go.WideShapes
theorem rb_bool {σ:Store} {n:Nat} {x:AV} {b:Bool} (h:rb σ (n+1) x=some (.bool b)):x= .bool b:=by
 cases x <;> simp only [rb] at h <;> (repeat' (split at h)) <;> simp_all
theorem er_boolE {x:AV} {b:Bool} (h:x.er= .bool b):x= .bool b:=by
 cases x <;> simp only [AV.er] at h <;> simp_all
theorem acall_of_cR {id:Nat} {args:List AV} {b:Bool} (h:cR id args=some (.bool b)): ∃n σ1,acall ipU gU n id args=some (.bool b,σ1):=by
 unfold cR callR at h
 rw [Option.bind_eq_some_iff] at h
 obtain ⟨⟨r,σ1⟩,h1,h2⟩:=h
 obtain ⟨n,hn⟩:=callS_some.1 h1
 refine ⟨n,σ1,?_⟩
 unfold rbE at h2
 rw [Option.map_eq_some_iff] at h2
 obtain ⟨y,h3,h4⟩:=h2
 obtain rfl:=er_boolE h4
 obtain rfl:=rb_bool (n:=23) h3
 exact hn
section
variable {P:Program} {fm gm:Nat→Option Nat}
theorem cR_glob (g:Nat):closedL (gU g)=true:=by
 unfold gU
 split
 ·kernel_rfl
 ·split
  ·kernel_rfl
  ·split
   ·rfl
   ·split
    ·rfl
    ·split <;> rfl
def RVs (fm:Nat→Option Nat) (w:World) (l:List AV) (vs:List Value):Prop:=l.length=vs.length∧∀j,RV fm w (fun _=>False) Mu.none (l.getD j .undef) (vs.getD j Go.undef)
theorem RVs.nil {w:World}:RVs fm w [] []:=⟨rfl,fun j=>by simpa using RV.undef _⟩
theorem RVs.cons {w:World} {x:AV} {v:Value} {l:List AV} {vs:List Value} (h:RV fm w (fun _=>False) Mu.none x v) (hs:RVs fm w l vs):RVs fm w (x ::l) (v ::vs):=by
 refine ⟨by simp [hs.1],fun j=> ?_⟩
 cases j with
 | zero=>simpa using h
 | succ j=>simpa using hs.2 j
variable {H:Type} {enc:TypeId×Value→H}
theorem rv_ints {w:World} {base:Nat} {sp:Nat→Bool} {held:Bool} {fuel:Nat} {t e:TypeId} {k:IntKind} {v:Value} {x:DataW H×List MemPlace}
  (ht:P.underlying t=some (.slice e)) (he:P.underlying e=some (.int k)) (hc:P.cellsOf e=1) (h:DataW.trod enc P w base sp held fuel t [v]=some x) :
  ∃zs:List Int,(zs= []∨∃el sp,x.1= .slice el sp∧zs.length≤el.length)∧RV fm w (fun _=>False) Mu.none (.vsl (zs.map (AV.int k)) none) v:=by
 rcases open_ints ht he hc h with ⟨h1,_⟩ | ⟨a,len,cap,zs,h1,_,hlc,hcm,hz,hx,hcell,_⟩
 ·simp only [List.cons.injEq,and_true] at h1
  subst h1
  exact ⟨[], .inl rfl, .vslNil _ (.inl rfl)⟩
 ·simp only [List.cons.injEq,and_true] at h1
  subst h1
  by_cases h0:len=0
  ·subst h0
   exact ⟨[], .inl rfl, .vslEmpty _ _ _ (.inl rfl)⟩
  have hlz:len≤zs.length:=by rw [hz]; split <;> omega
  obtain ⟨b,off,rfl,hc'⟩:=ints_at hcell (by omega)
  have hlen:(zs.take len).length=len:=by simp; omega
  refine ⟨zs.take len, .inr ⟨_,_,by rw [hx],by simp [lits]⟩,?_⟩
  have hb:b < w.heap.size:=by
   have:=hc' 0 (by omega)
   unfold World.cell? at this
   have h':w.heap[b]? ≠none:=fun e=>by simp [e] at this
   rcases Nat.lt_or_ge b w.heap.size with h | h
   ·exact h
   ·exact absurd (by simpa using h) h'
  have:=RV.vsl (fm:=fm) (w:=w) (X:=fun _=>False) (μ:=Mu.none) ((zs.take len).map (AV.int k)) none b off 1 cap (fun j=>if j < len then .int k (zs.getD j 0) else Go.undef)
   (by rintro (h | ⟨_,_,h⟩) <;> simp [Mu.none] at h) hb (by intro x hx; obtain ⟨n,_,rfl⟩:=List.mem_map.1 hx; rfl) (by simp; omega) (.inl rfl)
   (fun j hj=>by
    have hj':j < len:=by simpa [hlz] using hj
    simp only [hj',if_true]
    exact hc' j (by omega))
   (fun j=>by
    have e1:((zs.take len).map (AV.int k)).flatMap AV.cells=(zs.take len).map (AV.int k):=by
     rw [List.flatMap_map]
     show ((zs.take len).flatMap fun n=> [AV.int k n])=_
     rw [←List.map_eq_flatMap]
    rw [e1]
    by_cases hj:j < len
    ·have:((zs.take len).map (AV.int k)).getD j .undef= .int k (zs.getD j 0):=by
      have h1:j < zs.length:=by omega
      simp [List.getD,hj,h1]
     rw [this]; simp only [hj,if_true]; exact .int _ _
    ·have:((zs.take len).map (AV.int k)).getD j .undef= .undef:=by
      have h1:((zs.take len).map (AV.int k)).length≤j:=by rw [List.length_map,hlen]; omega
      rw [List.getD,List.getElem?_eq_none h1]; rfl
     rw [this]; exact .undef _)
  rw [List.length_map,hlen] at this
  exact this
theorem rv_glob {w:World} {g':Nat} {cells:List AV} {vs:List Value} (hlt:g' < w.heap.size) (hl:cells.length=vs.length) (hv: ∀j,j < vs.length→w.cell? ⟨g',j,none⟩=some (vs.getD j Go.undef))
  (hr: ∀j,RV fm w (fun _=>False) Mu.none (cells.getD j .undef) (vs.getD j Go.undef)):RV fm w (fun _=>False) Mu.none (.vptr cells 0) (.pointer (some ⟨g',0,none⟩)):=
 .vptr cells 0 g' 0 (fun j=>vs.getD j Go.undef) (by rintro (h | ⟨_,_,h⟩) <;> simp [Mu.none] at h) hlt (fun j hj=>by simpa using hv j (by omega)) hr
theorem rv_globInts {w:World} {g':Nat} {k:IntKind} {zs:List Int} (hlt:g' < w.heap.size) (hv: ∀j,j < zs.length→w.cell? ⟨g',j,none⟩=some (.int k (zs.getD j 0))) :
  RV fm w (fun _=>False) Mu.none (.vptr (zs.map (AV.int k)) 0) (.pointer (some ⟨g',0,none⟩)):=by
 refine rv_glob (vs:=zs.map (Value.int k)) hlt (by simp) (fun j hj=> ?_) (fun j=> ?_)
 ·have hj':j < zs.length:=by simpa using hj
  rw [hv j hj']; simp [List.getD,hj']
 ·by_cases hj:j < zs.length
  ·have e1:(zs.map (AV.int k)).getD j .undef= .int k zs[j]:=by simp [List.getD,hj]
   have e2:(zs.map (Value.int k)).getD j Go.undef= .int k zs[j]:=by simp [List.getD,hj]
   rw [e1,e2]; exact .int _ _
  ·have e1:(zs.map (AV.int k)).getD j .undef= .undef:=by simp [List.getD,hj]
   rw [e1]; exact .undef _
theorem trodAll_stays (hl:laidOutB P=true) {W W':World} {sp':Nat→Bool}: ∀ {ts:List TypeId} {vs:List Value} {ds:List (DataW H)} {ps:List MemPlace},
  (∀t∈ts,P.readableRec t=true∧t < P.types.size)→DataW.TrodAll enc P W 0 (fun _=>true) true ts vs ds ps→(∀p∈ps,W.sameAt W' p)→(∀p∈ps,sp' p.block=true)→DataW.TrodAll enc P W' 0 sp' true ts vs ds ps
 | [], [], [],_,_,h,_,_=>h
 | t ::ts,v ::vs,d ::ds,ps,hr,⟨p,q,h,hs,e⟩,hsame,hsp=>by
  subst e
  refine ⟨p,q,WideElems.Trod_stays hl (hr t (by simp)).1 (hr t (by simp)).2 h (fun x hx=>hsame x (by simp [hx])) (fun x hx=>hsp x (by simp [hx])),?_,rfl⟩
  exact trodAll_stays hl (fun t ht=>hr t (by simp [ht])) hs (fun x hx=>hsame x (by simp [hx])) (fun x hx=>hsp x (by simp [hx]))
 | [],_ ::_,_,_,_,h,_,_=>h.elim
 | [], [],_ ::_,_,_,h,_,_=>h.elim
 | _ ::_, [],_,_,_,h,_,_=>h.elim
 | _ ::_,_ ::_, [],_,_,h,_,_=>h.elim
theorem law_post {f:Func} {s:ChangeSpec} {W W':World} {args:Array Value} {ds gs:List (DataW H)} {before:List MemPlace} {tb:TypeId}
  (hv:s.vars= []) (hs:s.fn H ds= { results:= [.lit (.bool true)],args:=ds }) (hres:f.resultTypes= #[tb]) (ht:P.underlying tb=some .bool)
  (hl:laidOutB P=true) (hr: ∀t∈f.params.toList,P.readableRec t=true∧t < P.types.size)
  (hW:DataW.Whole enc P f.params.toList s.vars false W args.toList ds gs before) (hb:Below W.heap.size W W') :
  s.post enc P f false true false false W args (.bool true) W':=by
 have hlt: ∀p∈before,p.block < W.heap.size:=fun p hp=>hW.lt p hp
 have hW':=hW
 obtain ⟨p,q,hA,hV,rfl,_,_⟩:=hW'
 rw [hv] at hV
 obtain ⟨rfl,rfl⟩:=trodVars_none hV
 refine ⟨ds, [],p ++ [], [],p, [],hW,?_,?_,?_,World.keptBut_mono (fun x hx=>⟨hx, .inr (.inl (by simpa using hx))⟩) (hb.frame (· ∈p ++ [])),fun h=>Bool.noConfusion h⟩
 ·rw [List.append_nil,hs,hres]
  exact trodAll_cons_mk (shut_bool ht true) trodAll_mk0
 ·rw [List.append_nil,hs]
  exact trodAll_stays hl hr hA (fun x hx=>hb.same (hlt x (by simpa using hx))) (fun x hx=>by simpa using hlt x (by simpa using hx))
 ·rw [hv,List.append_nil,hs]
  exact rfl
theorem law_contract {f:Func} {s:ChangeSpec} {W:World} {args:Array Value} {ds gs:List (DataW H)} {before:List MemPlace} {tb:TypeId} {id:Nat} {f':FuncId} {avs:List AV}
  (hm:P.follows .mixedOrders=true) (hP:ProgOk P fm gm ipU drawOk) (hf:fm id=some f') (hgl:GlobOK fm gm gU W (fun _=>False) Mu.none)
  (hcall:cR id avs=some (.bool true)) (hrv:RVs fm W avs args.toList)
  (hv:s.vars= []) (hs:s.fn H ds= { results:= [.lit (.bool true)],args:=ds }) (hres:f.resultTypes= #[tb]) (ht:P.underlying tb=some .bool)
  (hl:laidOutB P=true) (hr: ∀t∈f.params.toList,P.readableRec t=true∧t < P.types.size)
  (hW:DataW.Whole enc P f.params.toList s.vars false W args.toList ds gs before) :
  Calls P f' args W fun e W'=>∃v,e= .returned v∧s.post enc P f false true false false W args v W':=by
 obtain ⟨n,σ1,hn⟩:=acall_of_cR hcall
 refine (acall_sound cR_glob (drawn_ok hm cR_glob) hP hn hf hgl (by simpa using hrv.1) (fun j=> ?_)).mono ?_
 ·have:=hrv.2 j
  simpa using this
 ·rintro e W' ⟨cv,μ',rfl,h2,h3⟩
  cases h2
  exact ⟨_,rfl,law_post hv hs hres ht hl hr hW h3⟩
end
end Go.Ab
namespace Go.Ab
open Go.Lib Go.Proofs Go.Proofs.YtdfjgcdkabiljaaGreatDoor Go.RowKit Go.ChangeShapes Go.WideShapes
theorem look_mem {α:Type}: ∀ {l:List (Nat×α)} {i:Nat} {x:α},look l i=some x→(i,x)∈l
 | [],_,_,h=>by simp [look] at h
 | (j,y) ::l,i,x,h=>by
  simp only [look] at h
  split at h
  ·rename_i e
   subst e
   simp only [Option.some.injEq] at h
   subst h
   simp
  ·exact List.mem_cons_of_mem _ (look_mem h)
def gmD:Nat→Option Nat:=fun i=>look [(4,0),(2,1),(0,2),(1,3),(5,5),(6,6),(7,7)] i
def chkAll (P:Program) (l:List (Nat×Nat)):Bool:=l.all fun p=>match ipU p.1 with | some F=>funcChk P (fun i=>look l i) gmD drawOk F p.2 | none=>true
theorem progOk_of_all {l:List (Nat×Nat)} (h:chkAll Tryz.prog l=true):ProgOk Tryz.prog (fun i=>look l i) gmD ipU drawOk:=by
 intro id F f' hF hf
 have:=List.all_eq_true.1 h _ (look_mem hf)
 simp only [hF] at this
 exact .inl this
set_option maxRecDepth 100000
theorem dOwn:ownKnob Tryz.prog.godebug=none:=by kernel_rfl
theorem dMixed:Tryz.prog.follows .mixedOrders=true:=by kernel_rfl
theorem dLaidOut:laidOutB Tryz.prog=true:=by kernel_rfl
theorem dG0:Tryz.prog.globalNamed "unicode/utf8.first" =some 2:=by kernel_rfl
theorem dG1:Tryz.prog.globalNamed "unicode/utf8.acceptRanges" =some 3:=by kernel_rfl
theorem dY0:(Tryz.prog.globals[2]?).map (·.type)=some 369:=by kernel_rfl
theorem dY1:(Tryz.prog.globals[3]?).map (·.type)=some 372:=by kernel_rfl
theorem dG4:Tryz.prog.globalNamed "internal/strconv.uint64pow10" =some 5:=by kernel_rfl
theorem dG6:Tryz.prog.globalNamed "math/bits.deBruijn32tab" =some 6:=by kernel_rfl
theorem dG7:Tryz.prog.globalNamed "math/bits.deBruijn64tab" =some 7:=by kernel_rfl
theorem dG3:Tryz.prog.globalNamed "introit/b64.standard" =some 0:=by kernel_rfl
theorem dY3:(Tryz.prog.globals[0]?).map (·.type)=some 174:=by kernel_rfl
theorem dFirst:Pinned.utf8First=tabData .u8 xL:=by kernel_rfl
def accD:List Int:= [0x80,0xBF,0xA0,0xBF,0x80,0x9F,0x90,0xBF,0x80,0x8F] ++List.replicate 22 0
theorem dAcc:(Rows.laid_unicode_utf8_acceptRanges:DataW Unit)= .agg ((List.range 16).map fun i=> .agg ([accD.getD (2*i) 0,accD.getD (2*i+1) 0].map fun z=> .lit (.int .u8 z))):=by kernel_rfl
theorem gAcc_eqD:gAcc=accD.map (AV.int .u8):=by kernel_rfl
def putRow (cs:Array Value):Obj→Obj
 | .cells _ t frozen=> .cells cs t frozen
 | o=>o
def d32L:List Int:= [0,1,28,2,29,14,24,3,30,22,20,15,25,17,4,8,31,27,13,23,21,19,16,7,26,12,18,6,11,5,10,9]
def d64L:List Int:= [0,1,56,2,57,49,28,3,61,58,42,50,38,29,17,4,62,47,59,36,45,43,51,22,53,39,33,30,24,18,12,5,63,55,48,27,60,41,37,16,46,35,44,21,52,32,23,11,54,26,40,15,34,20,31,10,25,14,19,9,13,8,7,6]
def p10L:List Int:= [1,10,100,1000,10000,100000,1000000,10000000,100000000,1000000000,10000000000,100000000000,1000000000000,10000000000000,100000000000000,1000000000000000,10000000000000000,100000000000000000,1000000000000000000,10000000000000000000]
noncomputable def laidWorld (os:Os):World:=
 { World.holding Tryz.prog os ⟨#[],#[], []⟩ with
  heap:=((((((World.holding Tryz.prog os ⟨#[],#[], []⟩).heap.modify 0 (putRow ([43,47].map (Value.int .u8)).toArray)).modify 2 (putRow (xL.map (Value.int .u8)).toArray)).modify 3 (putRow (accD.map (Value.int .u8)).toArray)).modify 5 (putRow (p10L.map (Value.int .u64)).toArray)).modify 6 (putRow (d32L.map (Value.int .u8)).toArray)).modify 7 (putRow (d64L.map (Value.int .u8)).toArray) }
theorem g_lt {W:World} {n:String} {d:DataW Unit} {g:Nat} (h:VarReads Tryz.prog W n d) (hg:Tryz.prog.globalNamed n=some g):g < W.heap.size:=by
 obtain ⟨g',t,cs,fuel,p,hg',_,hvar,_⟩:=h
 obtain rfl:=Option.some.inj (hg.symm.trans hg')
 simp only [World.var?,hg,Option.bind_some] at hvar
 rcases Nat.lt_or_ge g W.heap.size with h' | h'
 ·exact h'
 ·have:W.heap[g]? =none:=by simpa using h'
  simp [this] at hvar
theorem dFirst_cells {W:World} (h:VarReads Tryz.prog W "unicode/utf8.first" Pinned.utf8First): ∀j,j < xL.length→W.cell? ⟨2,j,none⟩=some (.int .u8 (xL.getD j 0)):=by
 intro j hj
 obtain ⟨g,t,cs,fuel,p,hg,hty,hvar,hd⟩:=h
 obtain rfl:=Option.some.inj (dG0.symm.trans hg)
 obtain rfl:=Option.some.inj (dY0.symm.trans hty)
 rw [dFirst] at hd
 have hcs:=cells_of_tab (n:=256) (e:=5) Tryz.underlying369 Tryz.underlying5 (by kernel_rfl) (by kernel_rfl) hd
 have:=World.var?_cell hg hvar j
 rw [this,←Array.getElem?_toList,hcs]
 simp [List.getD,hj]
theorem dAcc_cells {W:World} (h:VarReads Tryz.prog W "unicode/utf8.acceptRanges" Rows.laid_unicode_utf8_acceptRanges): ∀j,j < accD.length→W.cell? ⟨3,j,none⟩=some (.int .u8 (accD.getD j 0)):=by
 intro j hj
 obtain ⟨g,t,cs,fuel,p,hg,hty,hvar,hd⟩:=h
 obtain rfl:=Option.some.inj (dG1.symm.trans hg)
 obtain rfl:=Option.some.inj (dY1.symm.trans hty)
 rw [dAcc] at hd
 have hi:j / 2 < 16:=by have:j < 32:=hj; omega
 obtain ⟨fuel',d,q,hdi,he⟩:=array_elem (n:=16) (e:=371) Tryz.underlying372 hd (j / 2) hi
 simp only [List.getElem?_map,List.getElem?_range hi,Option.map_some,Option.some.injEq] at hdi
 subst hdi
 rw [show Tryz.prog.cellsOf 371=2 by kernel_rfl] at he
 have hcs:=ints_of_struct Tryz.underlying371 (fun i f hf=>by
  match i,hf with
  | 0,hf=>simp at hf; subst hf; exact ⟨Tryz.underlying5,rfl,by kernel_rfl⟩
  | 1,hf=>simp at hf; subst hf; exact ⟨Tryz.underlying5,rfl,by kernel_rfl⟩
  | i+2,hf=>simp at hf) (by kernel_rfl) he
 have e0:=congrArg (·[j % 2]?) hcs
 simp only [List.getElem?_take,List.getElem?_drop] at e0
 rw [World.var?_cell hg hvar j,←Array.getElem?_toList]
 have hj2:j / 2*2+j % 2=j:=by omega
 rw [hj2] at e0
 rw [if_pos (by omega)] at e0
 rw [e0]
 rcases (by omega:j % 2=0∨j % 2=1) with h | h
 ·rw [h]; simp; congr 2; omega
 ·rw [h]; simp; congr 2; omega
theorem dStd_cells {W:World} (h:VarReads Tryz.prog W "introit/b64.standard" Rows.laid_introit_b64_standard): ∀j,j < 2→W.cell? ⟨0,j,none⟩=some (.int .u8 ([43,47].getD j 0)):=by
 intro j hj
 obtain ⟨g,t,cs,fuel,p,hg,hty,hvar,hd⟩:=h
 obtain rfl:=Option.some.inj (dG3.symm.trans hg)
 obtain rfl:=Option.some.inj (dY3.symm.trans hty)
 rw [show (Rows.laid_introit_b64_standard:DataW Unit)= .agg ([43,47].map fun z=> .lit (.int .u8 z)) from rfl] at hd
 have hcs:=ints_of_struct Tryz.underlying174 (fun i f hf=>by
  match i,hf with
  | 0,hf=>simp at hf; subst hf; exact ⟨Tryz.underlying5,rfl,by kernel_rfl⟩
  | 1,hf=>simp at hf; subst hf; exact ⟨Tryz.underlying5,rfl,by kernel_rfl⟩
  | i+2,hf=>simp at hf) (by kernel_rfl) hd
 rw [World.var?_cell hg hvar j,←Array.getElem?_toList,hcs]
 rcases (by omega:j=0∨j=1) with rfl | rfl <;> rfl
theorem dY4:(Tryz.prog.globals[5]?).map (·.type)=some 406:=by kernel_rfl
theorem dPow:(Rows.laid_internal_strconv_uint64pow10:DataW Unit)=tabData .u64 p10L:=by kernel_rfl
theorem gPow_eqD:gPow=p10L.map (AV.int .u64):=by kernel_rfl
theorem dPow_cells {W:World} (h:VarReads Tryz.prog W "internal/strconv.uint64pow10" Rows.laid_internal_strconv_uint64pow10): ∀j,j < p10L.length→W.cell? ⟨5,j,none⟩=some (.int .u64 (p10L.getD j 0)):=by
 intro j hj
 obtain ⟨g,t,cs,fuel,p,hg,hty,hvar,hd⟩:=h
 obtain rfl:=Option.some.inj (dG4.symm.trans hg)
 obtain rfl:=Option.some.inj (dY4.symm.trans hty)
 rw [dPow] at hd
 have hcs:=cells_of_tab (n:=20) (e:=229) Tryz.underlying406 Tryz.underlying229 (by kernel_rfl) (by kernel_rfl) hd
 have:=World.var?_cell hg hvar j
 rw [this,←Array.getElem?_toList,hcs]
 simp [List.getD,hj]
theorem globOK {W:World} {fm:Nat→Option Nat} (h:laidMetH Tryz.prog Rows.authMembersRow.laid W) (hs:W.ShapedOpen Tryz.prog):GlobOK fm gmD gU W (fun _=>False) Mu.none:=by
 have hl:laidMet Tryz.prog Rows.authMembersRow.laid W:=h
 have m: ∀ {n d},(n,d)∈Rows.authMembersRow.laid→VarReads Tryz.prog W n d:=fun hm=>Lib.laidMet.reads hl hm
 have h0:=dFirst_cells (m (n:= "unicode/utf8.first") (d:=Pinned.utf8First) (List.mem_cons_of_mem _ (List.mem_cons_of_mem _ (List.mem_cons_of_mem _ (List.mem_cons_of_mem _ (List.mem_cons_of_mem _ List.mem_cons_self))))))
 have h1:=dAcc_cells (m (n:= "unicode/utf8.acceptRanges") (d:=Rows.laid_unicode_utf8_acceptRanges) (List.mem_cons_of_mem _ (List.mem_cons_of_mem _ (List.mem_cons_of_mem _ List.mem_cons_self))))
 have h3:=dStd_cells (m (n:= "introit/b64.standard") (d:=Rows.laid_introit_b64_standard) (List.mem_cons_of_mem _ (List.mem_cons_of_mem _ (List.mem_cons_of_mem _ (List.mem_cons_of_mem _ List.mem_cons_self)))))
 have h4:=dPow_cells (m (n:= "internal/strconv.uint64pow10") (d:=Rows.laid_internal_strconv_uint64pow10) (List.mem_cons_of_mem _ (List.mem_cons_of_mem _ List.mem_cons_self)))
 have h6:=g_lt (m (n:= "math/bits.deBruijn32tab") (d:=Rows.laid_math_bits_deBruijn32tab) List.mem_cons_self) dG6
 have h7:=g_lt (m (n:= "math/bits.deBruijn64tab") (d:=Rows.laid_math_bits_deBruijn64tab) (List.mem_cons_of_mem _ List.mem_cons_self)) dG7
 obtain ⟨m,h2⟩:=cell_of_shapedOpen_int (g:=1) (t:=3) (zero:=#[.int .i64 0]) (k:= .i64) hs (of_decide_eq_true (by kernel_rfl)) (by kernel_rfl) rfl (by kernel_rfl) (by kernel_rfl) Tryz.underlying3
 have hlt: ∀g off v,W.cell? ⟨g,off,none⟩=some v→g < W.heap.size:=fun g off v h=>by
  unfold World.cell? at h
  rcases Nat.lt_or_ge g W.heap.size with h' | h'
  ·exact h'
  ·have:W.heap[g]? =none:=by simpa using h'
   simp [this] at h
 intro g g' hg
 have hcase:(g=4∧g'=0)∨(g=2∧g'=1)∨(g=0∧g'=2)∨(g=1∧g'=3)∨(g=5∧g'=5)∨(g=6∧g'=6)∨(g=7∧g'=7):=by
  have:=look_mem hg
  simpa using this
 have nil: ∀ {g g':Nat},gU g= []→g' < W.heap.size→RV fm W (fun _=>False) Mu.none (.vptr (gU g) 0) (.pointer (some ⟨g',0,none⟩)):=fun e hlt=>
  rv_glob (vs:= []) hlt (by rw [e]; rfl) (fun j hj=>absurd hj (Nat.not_lt_zero _)) (fun j=>by rw [e]; simpa using RV.undef _)
 rcases hcase with ⟨rfl,rfl⟩ | ⟨rfl,rfl⟩ | ⟨rfl,rfl⟩ | ⟨rfl,rfl⟩ | ⟨rfl,rfl⟩ | ⟨rfl,rfl⟩ | ⟨rfl,rfl⟩
 ·exact rv_globInts (zs:= [43,47]) (hlt _ _ _ (h3 0 (by decide))) h3
 ·exact nil rfl (hlt _ _ _ h2)
 ·exact rv_globInts (zs:=xL) (hlt _ _ _ (h0 0 (of_decide_eq_true (by kernel_rfl)))) h0
 ·show RV fm W _ _ (.vptr gAcc 0) _
  rw [gAcc_eqD]
  exact rv_globInts (hlt _ _ _ (h1 0 (of_decide_eq_true (by kernel_rfl)))) h1
 ·show RV fm W _ _ (.vptr gPow 0) _
  rw [gPow_eqD]
  exact rv_globInts (hlt _ _ _ (h4 0 (of_decide_eq_true (by kernel_rfl)))) h4
 ·exact nil rfl h6
 ·exact nil rfl h7
end Go.Ab
namespace Go.Ab
open Go.RowKit Go.ChangeShapes Go.WideShapes
mutual
def encD {H:Type}:DataW H→AV
 | .lit (.int k n)=> .int k n
 | .lit (.bool b)=> .bool b
 | .lit (.string s)=> .str s
 | .slice els _=> .vsl (encDs els) none
 | .nil=> .vsl [] none
 | .agg ps=> .agg (encC ps)
 | _=> .undef
def encDs {H:Type}:List (DataW H)→List AV
 | []=> []
 | d ::r=>encD d ::encDs r
def encC {H:Type}:List (DataW H)→List AV
 | []=> []
 | d ::r=>(encD d).cells ++encC r
end
theorem encDs_map {H:Type}: ∀l:List (DataW H),encDs l=l.map encD
 | []=>by simp [encDs]
 | d ::r=>by simp [encDs,encDs_map r]
def fieldsOk (P:Program) (S:List TypeId):List Field→Nat→Nat→Bool
 | [],o,n=>o == n
 | f ::r,o,n=>f.offset == o && S.contains f.type && fieldsOk P S r (o+P.cellsOf f.type) n
def plainTy (P:Program) (S:List TypeId) (t:TypeId):Bool:=
 match P.underlying t with
 | some .bool | some (.int _) | some .string=>P.cellsOf t == 1
 | some (.slice e)=>P.cellsOf t == 1 && S.contains e && decide (1≤P.cellsOf e)
 | some (.struct fs)=>fieldsOk P S fs.toList 0 (P.cellsOf t)
 | _=>false
section
variable {P:Program} {fm:Nat→Option Nat} {H:Type} {enc:TypeId×Value→H} {w:World} {base:Nat} {sp:Nat→Bool} {held:Bool} {S:List TypeId}
def RC (fm:Nat→Option Nat) (w:World) (l:List AV) (vs:List Value):Prop:=l.length=vs.length∧∀j,RV fm w (fun _=>False) Mu.none (l.getD j .undef) (vs.getD j Go.undef)
theorem RC.one {x:AV} {v:Value} (h:RV fm w (fun _=>False) Mu.none x v):RC fm w [x] [v]:=by
 refine ⟨rfl,fun j=> ?_⟩
 cases j with
 | zero=>exact h
 | succ j=>simpa using RV.undef _
theorem RC.append {l l':List AV} {vs vs':List Value} (h:RC fm w l vs) (h':RC fm w l' vs'):RC fm w (l ++l') (vs ++vs'):=by
 refine ⟨by simp [h.1,h'.1],fun j=> ?_⟩
 by_cases hj:j < l.length
 ·have e1:(l ++l').getD j .undef=l.getD j .undef:=by simp [List.getD,List.getElem?_append_left hj]
  have e2:(vs ++vs').getD j Go.undef=vs.getD j Go.undef:=by simp [List.getD,List.getElem?_append_left (h.1▸hj:j < vs.length)]
  rw [e1,e2]; exact h.2 j
 ·have e1:(l ++l').getD j .undef=l'.getD (j - l.length) .undef:=by simp [List.getD,List.getElem?_append_right (Nat.not_lt.1 hj)]
  have e2:(vs ++vs').getD j Go.undef=vs'.getD (j - l.length) Go.undef:=by
   have:=Nat.not_lt.1 hj
   rw [h.1] at this ⊢
   simp [List.getD,List.getElem?_append_right this]
  rw [e1,e2]; exact h'.2 _
theorem cells?_get {a:Addr} {n:Nat} {cs:List Value} (h:w.cells? base a n=some cs):cs.length=n∧∀i,i < n→w.cell? (a.add i)=some (cs.getD i Go.undef):=by
 unfold World.cells? at h
 split at h
 ·have h1:=Lib.mapM_length h
  simp at h1
  refine ⟨h1,fun i hi=> ?_⟩
  obtain ⟨b,hb,hf⟩:=Lib.mapM_at h i i (by simp [hi])
  rw [hf]; simp [List.getD,hb]
 ·simp at h
theorem fields_rv (n0:Nat) (ih: ∀(t:TypeId) (cs:List Value) (d:DataW H) (p:List MemPlace),t∈S→DataW.trod enc P w base sp held n0 t cs=some (d,p)→cs.length=P.cellsOf t∧RC fm w (encD d).cells cs) {cs:List Value} :
  ∀(fl:List Field) (xs:List (DataW H×List MemPlace)) (o:Nat),fieldsOk P S fl o cs.length=true→xs.length=fl.length→
   (∀(i:Nat) (f:Field),fl[i]? =some f→DataW.trod enc P w base sp held n0 f.type ((cs.drop f.offset).take (P.cellsOf f.type))=xs[i]?)→
   o≤cs.length∧RC fm w (encC (xs.map (·.1))) (cs.drop o)
 | [], [],o,h,_,_=>by
  simp only [fieldsOk,beq_iff_eq] at h
  subst h
  refine ⟨Nat.le_refl _,?_⟩
  simp only [List.map_nil,encC,List.drop_length]
  exact ⟨rfl,fun j=>by simpa using RV.undef _⟩
 | [],_ ::_,_,_,h,_=>by simp at h
 | _ ::_, [],_,_,h,_=>by simp at h
 | f ::fl,x ::xs,o,h,hl,hx=>by
  simp only [fieldsOk,Bool.and_eq_true,beq_iff_eq] at h
  obtain ⟨⟨ho,hS⟩,h⟩:=h
  have h0:=hx 0 f rfl
  simp only [List.getElem?_cons_zero] at h0
  obtain ⟨hcl,hrc⟩:=ih f.type _ x.1 x.2 (by simpa using hS) h0
  obtain ⟨hle,hr⟩:=fields_rv n0 ih fl xs _ h (by simpa using hl) (fun i g hg=>hx (i+1) g hg)
  refine ⟨by omega,?_⟩
  have e:cs.drop o=(cs.drop o).take (P.cellsOf f.type) ++cs.drop (o+P.cellsOf f.type):=by
   rw [←List.drop_drop,List.take_append_drop]
  rw [e]
  simp only [List.map_cons,encC]
  rw [ho] at hrc
  exact hrc.append hr
theorem rv_trod (hS:S.all (plainTy P S)=true): ∀(fuel:Nat) (t:TypeId) (cs:List Value) (d:DataW H) (p:List MemPlace),t∈S→DataW.trod enc P w base sp held fuel t cs=some (d,p)→
  cs.length=P.cellsOf t∧RC fm w (encD d).cells cs:=by
 intro fuel
 induction fuel with
 | zero=>intro t cs d p _ h; simp [DataW.trod] at h
 | succ n ih=>
  intro t cs d p ht h
  have hp:=List.all_eq_true.1 hS t ht
  unfold plainTy at hp
  split at hp
  ·rename_i hu
   obtain ⟨b,rfl,hx⟩:=DataW.trod_bool hu h
   simp only [Prod.mk.injEq] at hx
   obtain ⟨rfl,_⟩:=hx
   simp only [beq_iff_eq] at hp
   exact ⟨hp.symm,by simp only [encD]; exact .one (.bool b)⟩
  ·rename_i k hu
   obtain ⟨z,rfl,hx,_⟩:=DataW.trod_int hu h
   simp only [Prod.mk.injEq] at hx
   obtain ⟨rfl,_⟩:=hx
   simp only [beq_iff_eq] at hp
   exact ⟨hp.symm,by simp only [encD]; exact .one (.int k z)⟩
  ·rename_i hu
   obtain ⟨s,rfl,hx,_⟩:=DataW.trod_string hu h
   simp only [Prod.mk.injEq] at hx
   obtain ⟨rfl,_⟩:=hx
   simp only [beq_iff_eq] at hp
   exact ⟨hp.symm,by simp only [encD]; exact .one (.str _ s rfl)⟩
  ·rename_i e hu
   simp only [Bool.and_eq_true,beq_iff_eq,decide_eq_true_eq] at hp
   obtain ⟨⟨hp1,he⟩,hsz⟩:=hp
   have he':e∈S:=by simpa using he
   rcases DataW.trod_slice hu h with ⟨rfl,hx⟩ | ⟨a,len,cap,elems,rest,m,hm,rfl,hx,_,hlc,_,hel,hget,_,_⟩
   ·simp only [Prod.mk.injEq] at hx
    obtain ⟨rfl,_⟩:=hx
    exact ⟨hp1.symm,by simp only [encD]; exact .one (.vslNil _ (.inl rfl))⟩
   ·simp only [Prod.mk.injEq] at hx
    obtain ⟨rfl,_⟩:=hx
    obtain rfl:n=m:=by omega
    refine ⟨hp1.symm,?_⟩
    simp only [encD,encDs_map]
    refine .one ?_
    by_cases h0:len=0
    ·subst h0
     have:elems= []:=List.length_eq_zero_iff.1 hel
     subst this
     exact .vslEmpty _ _ _ (.inl rfl)
    have one: ∀i,i < len→∃ci y,w.cells? base (a.add (i*P.cellsOf e)) (P.cellsOf e)=some ci∧elems[i]? =some y∧DataW.trod enc P w base sp held n e ci=some y:=by
     intro i hi
     have h1:=hget i hi
     have h2:elems[i]? =some (elems[i]'(by omega)):=by simp
     rw [h2,Option.bind_eq_some_iff] at h1
     obtain ⟨ci,h3,h4⟩:=h1
     exact ⟨ci,_,h3,h2,h4⟩
    obtain ⟨c0,y0,k1,k2,k3⟩:=one 0 (by omega)
    have hc0:=(cells?_get k1).2 0 (by omega)
    have hspot:=World.cell?_spot hc0
    obtain ⟨blk,off,spot⟩:=a
    have hsp:spot=none:=by simpa [Addr.add] using hspot
    subst hsp
    simp only [add_plain] at one hc0
    have hb:blk < w.heap.size:=by
     unfold World.cell? at hc0
     have h':w.heap[blk]? ≠none:=fun e=>by simp [e] at hc0
     rcases Nat.lt_or_ge blk w.heap.size with h | h
     ·exact h
     ·exact absurd (by simpa using h) h'
    have hels: ∀x∈(elems.map (·.1)).map encD,x.cells.length=P.cellsOf e:=by
     intro x hx
     simp only [List.map_map,List.mem_map] at hx
     obtain ⟨y,hy,rfl⟩:=hx
     obtain ⟨i,hi,rfl⟩:=List.mem_iff_getElem.1 hy
     obtain ⟨ci,y',q1,q2,q3⟩:=one i (by omega)
     have q4:elems[i]? =some elems[i]:=by simp
     rw [q4] at q2
     simp only [Option.some.injEq] at q2
     subst q2
     obtain ⟨r1,r2,_⟩:=ih e ci _ _ he' q3
     exact r2.trans r1
    have hlen:((elems.map (·.1)).map encD).length=len:=by simp [hel]
    have hcell: ∀j,j < len*P.cellsOf e→∃v,w.cell? ⟨blk,off+j,none⟩=some v∧RV fm w (fun _=>False) Mu.none ((((elems.map (·.1)).map encD).flatMap AV.cells).getD j .undef) v:=by
     intro j hj
     have hq:j / P.cellsOf e < len:=by rw [Nat.div_lt_iff_lt_mul (by omega)]; exact hj
     have hr:j % P.cellsOf e < P.cellsOf e:=Nat.mod_lt _ (by omega)
     obtain ⟨ci,y,q1,q2,q3⟩:=one (j / P.cellsOf e) hq
     obtain ⟨g1,g2⟩:=cells?_get q1
     have g3:=g2 (j % P.cellsOf e) hr
     obtain ⟨r1,r2,r3⟩:=ih e ci _ _ he' q3
     have hj2:off+j / P.cellsOf e*P.cellsOf e+j % P.cellsOf e=off+j:=by
      have:=Nat.div_add_mod j (P.cellsOf e)
      rw [Nat.mul_comm] at this
      omega
     rw [add_plain,hj2] at g3
     refine ⟨_,g3,?_⟩
     have e1:j=(j / P.cellsOf e)*P.cellsOf e+j % P.cellsOf e:=by
      have:=Nat.div_add_mod j (P.cellsOf e)
      rw [Nat.mul_comm] at this
      omega
     have e2:(((elems.map (·.1)).map encD).flatMap AV.cells).getD j .undef=(encD y.1).cells.getD (j % P.cellsOf e) .undef:=by
      have hlt:j / P.cellsOf e < ((elems.map (·.1)).map encD).length:=by rw [hlen]; exact hq
      have hy:((elems.map (·.1)).map encD)[j / P.cellsOf e]=encD y.1:=by
       simp only [List.getElem_map]
       have:elems[j / P.cellsOf e]'(by omega)=y:=by
        have q4:elems[j / P.cellsOf e]? =some (elems[j / P.cellsOf e]'(by omega)):=by simp
        rw [q4] at q2; simpa using q2
       rw [this]
      conv=>lhs; rw [e1]
      rw [flat_getD _ _ hels,List.drop_eq_getElem_cons hlt,List.flatMap_cons,hy]
      have:j % P.cellsOf e < (encD y.1).cells.length:=by rw [r2,g1]; exact hr
      simp [List.getD,List.getElem?_append_left this]
     rw [e2]
     exact r3 _
    have:=RV.vsl (fm:=fm) (w:=w) (X:=fun _=>False) (μ:=Mu.none) ((elems.map (·.1)).map encD) none blk off (P.cellsOf e) cap
     (fun j=>if j < len*P.cellsOf e then (w.cell? ⟨blk,off+j,none⟩).getD Go.undef else Go.undef)
     (by rintro (h | ⟨_,_,h⟩) <;> simp [Mu.none] at h) hb hels (by rw [hlen]; exact hlc) (.inl rfl)
     (fun j hj=>by
      rw [hlen] at hj
      obtain ⟨v,h1,_⟩:=hcell j hj
      simp only [hj,if_true,h1,Option.getD_some])
     (fun j=>by
      by_cases hj:j < len*P.cellsOf e
      ·obtain ⟨v,h1,h2⟩:=hcell j hj
       simp only [hj,if_true,h1,Option.getD_some]
       exact h2
      ·have:(((elems.map (·.1)).map encD).flatMap AV.cells).getD j .undef= .undef:=by
        have hl:=flat_length _ hels
        rw [hlen] at hl
        rw [List.getD,List.getElem?_eq_none (by omega)]; rfl
       rw [this]; exact .undef _)
    rw [hlen] at this
    exact this
  ·rename_i fs hu
   obtain ⟨xs,m,hm,hx,hcl,hxl,hget⟩:=DataW.trod_struct hu h
   simp only [Prod.mk.injEq] at hx
   obtain ⟨rfl,_⟩:=hx
   obtain rfl:n=m:=by omega
   refine ⟨hcl,?_⟩
   rw [←hcl] at hp
   have:=(fields_rv n ih fs.toList xs 0 hp (by simpa using hxl) (fun i f hf=>hget i f (by simpa using hf))).2
   simpa only [encD,AV.cells,List.drop_zero] using this
  ·simp at hp
end
end Go.Ab
namespace Go.Ab
open Go.RowKit Go.ChangeShapes Go.WideShapes
structure Tys (P:Program) where
 int:TypeId
 i64:TypeId
 str:TypeId
 bool:TypeId
 val:TypeId
 vals:TypeId
 mem:TypeId
 mems:TypeId
 strs:TypeId
 fval:Array Field
 fmem:Array Field
 uint:P.underlying int=some (.int .i64)
 ui64:P.underlying i64=some (.int .i64)
 ustr:P.underlying str=some .string
 ubool:P.underlying bool=some .bool
 uval:P.underlying val=some (.struct fval)
 uvals:P.underlying vals=some (.slice val)
 umem:P.underlying mem=some (.struct fmem)
 umems:P.underlying mems=some (.slice mem)
 ustrs:P.underlying strs=some (.slice str)
 tval:fval.toList.map (·.type)= [int,i64,str,vals,mems]
 tmem:fmem.toList.map (·.type)= [str,val]
structure Bulk (H:Type) where
 B:DataW H→Nat
 L:List (DataW H)→Nat
 str: ∀b,B (.lit (.string b))=b.length+1
 int: ∀k n,B (.lit (.int k n))=1
 bool: ∀b,B (.lit (.bool b))=1
 slice: ∀a b,B (.slice a b)=L a+L b+1
 agg: ∀ps,B (.agg ps)=L ps+1
 nil:L []=0
 cons: ∀d r,L (d ::r)=B d+L r
section
variable {P:Program} {H:Type} {enc:TypeId×Value→H} {w:World} {base:Nat} {sp:Nat→Bool} {held:Bool} (T:Tys P) (K:Bulk H)
theorem int_of {t:TypeId} {k:IntKind} (hu:P.underlying t=some (.int k)) {fuel:Nat} {cs:List Value} {x:DataW H×List MemPlace} (h:DataW.trod enc P w base sp held fuel t cs=some x): ∃n:Int,encD x.1= .int k n:=by
 obtain ⟨n,_,hx,_⟩:=DataW.trod_int hu h
 subst hx
 exact ⟨n,by simp only [encD]⟩
theorem arg_one {fm:Nat→Option Nat} {S:List TypeId} (hS:S.all (plainTy P S)=true) {t:TypeId} (ht:t∈S) {v:Value} {fuel:Nat} {x:DataW H×List MemPlace} (hv:v.cells= #[v]) (hx:(encD x.1).cells= [encD x.1])
  (h:DataW.trod enc P w base sp held fuel t v.cells.toList=some x):RV fm w (fun _=>False) Mu.none (encD x.1) v:=by
 have h2:=(rv_trod (fm:=fm) hS fuel t _ x.1 x.2 ht h).2.2 0
 rw [hv,hx] at h2
 exact h2
end
end Go.Ab
namespace Go.Ab
set_option maxHeartbeats 1000000
def T7Fb:= @F43.eq_1
def T7Fc:=J @F49_5.eq_1 (J @F49_17.eq_1 (J @F49_18.eq_1 (J @F49_25.eq_1 (J @F49_37.eq_1 (J @F49_38.eq_1 (@F49.eq_1))))))
def T7Fd:=J @F49_5.eq_1 (J @F49_17.eq_1 (J @F49_25.eq_1 (J @F49_37.eq_1 (@F49.eq_1))))
set_option maxRecDepth 100000
mutual
def V.dep:V→Nat
 | .mk k _ _ l m=>if k=4 then depL l+1 else if k=5 then depM m+1 else 0
def depL:List V→Nat
 | []=>0
 | v ::r=>max v.dep (depL r)
def depM:List (Bs×V)→Nat
 | []=>0
 | (_,v) ::r=>max v.dep (depM r)
end
theorem V.dep_eq (v:V):v.dep=if v.kind=4 then depL v.l+1 else if v.kind=5 then depM v.m+1 else 0:=by cases v; rw [V.dep]; rfl
theorem depM_cons (x:Mem) (r:List Mem):depM (x ::r)=max x.2.dep (depM r):=by
 obtain ⟨k,v⟩:=x; rw [depM]
mutual
theorem V.dep_le: ∀v:V,v.dep≤v.sz
 | .mk k n s l m=>by
  have h1:=depL_le l
  have h2:=depM_le m
  simp only [V.dep,V.sz]
  split
  ·omega
  ·split <;> omega
theorem depL_le: ∀l:List V,depL l≤szL l
 | []=>by simp [depL]
 | v ::r=>by have:=V.dep_le v; have:=depL_le r; simp only [depL,szL]; omega
theorem depM_le: ∀l:List (Bs×V),depM l≤szM l
 | []=>by simp [depM]
 | (k,v) ::r=>by have:=V.dep_le v; have:=depM_le r; simp only [depM,szM]; omega
end
theorem max2N' (a b:Nat):(if (a:Int) < (b:Int) then (b:Int) else (a:Int))=((max a b:Nat):Int):=by
 split <;> omega
theorem r_depN: ∀(n:Nat) (v:V),v.sz < n→v.sz < big→cR 49 [v.enc]=some (.int .i64 (v.dep:Nat)):=by
 intro n
 induction n with
 | zero=>intro v h; omega
 | succ n ih=>
  intro v h hb
  have hsz:=v.sz_eq
  have hl:=szL_len v.l
  have hm:=szM_len v.m
  have hdl:=depL_le v.l
  have hdm:=depM_le v.m
  unfold big at hb
  have ihL: ∀x∈v.l,cR 49 [x.enc]=some (.int .i64 (x.dep:Nat)):=fun x hx=>by
   have:=szL_mem hx
   exact ih x (by omega) (by unfold big; omega)
  have ihM: ∀x∈v.m,cR 49 [x.2.enc]=some (.int .i64 (x.2.dep:Nat)):=fun x hx=>by
   have:=szM_mem hx
   exact ih x.2 (by omega) (by unfold big; omega)
  refine cR_of (F:=F49) rfl ?_
  rw [V.dep_eq]
  by_cases h4:v.kind=4
  ·have q4:(v.kind == 4)=true:=by simp [h4]
   simp only [T7Fd,ex_loop,EXA,seval,VX,h4]
   refine ex_whileI (S:=Nat×Nat) (fun p=> [(3, .int .i64 (p.2:Int)),(13, .vsl (v.l.map V.enc) none),(14, .int .i64 v.l.length),(15, .int .i64 (p.1:Int))]) (fun p=>v.l.length - p.1) (fun p _=>max p.2 (depL (v.l.drop p.1))=depL v.l) ?_ (0,0) _ (by simp)
   rintro b ⟨j,a⟩ σ hj ih2
   simp only at hj ih2 ⊢
   by_cases hlt:j < v.l.length
   ·obtain ⟨x,hx⟩:=get_lt hlt
    have hidx:=idx_map (f:=V.enc) (sz:=5) (c:=none) hx (by simp [V.enc_cells])
    have hcond:=dlt hlt
    have hcall:=ihL x (List.mem_of_getElem? hx)
    rw [drop_cons hx,depL] at hj
    simp only [T7Fc,EXA,seval,VX,readAt_some,hcond,hidx,hcall,max2N']
    exact ih2 (j+1,max a x.dep) _ _ (by simp; omega) (by simp only; omega) (by rw [wsucc hlt (by omega)]; simp only [EXA,seval])
   ·have hcond:=dge (Nat.not_lt.1 hlt)
    rw [List.drop_eq_nil_of_le (by omega),depL] at hj
    have hw:=wsucc (j:=a) (n:=szL v.l+1) (by omega) (by omega)
    simp only [T7Fc,EXA,seval,hcond,hw]
    rw [show a=depL v.l by omega]
  ·have q4:(v.kind == 4)=false:=by simp [h4]
   by_cases h5:v.kind=5
   ·have q5:(v.kind == 5)=true:=by simp [h5]
    simp only [T7Fd,ex_loop,EXA,seval,VX,h5]
    refine ex_whileI (S:=Nat×Nat) (fun p=> [(3, .int .i64 (p.2:Int)),(27, .vsl (v.m.map memE) none),(28, .int .i64 v.m.length),(29, .int .i64 (p.1:Int))]) (fun p=>v.m.length - p.1) (fun p _=>max p.2 (depM (v.m.drop p.1))=depM v.m) ?_ (0,0) _ (by simp)
    rintro b ⟨j,a⟩ σ hj ih2
    simp only at hj ih2 ⊢
    by_cases hlt:j < v.m.length
    ·obtain ⟨x,hx⟩:=get_lt hlt
     have hidx:=idx_map (f:=memE) (sz:=6) (c:=none) hx (by simp [memE_cells])
     have hcond:=dlt hlt
     have hcall:=ihM x (List.mem_of_getElem? hx)
     rw [drop_cons hx,depM_cons] at hj
     simp only [T7Fc,EXA,seval,VX,readAt_some,hcond,hidx,hcall,max2N']
     exact ih2 (j+1,max a x.2.dep) _ _ (by simp; omega) (by simp only; omega) (by rw [wsucc hlt (by omega)]; simp only [EXA,seval])
    ·have hcond:=dge (Nat.not_lt.1 hlt)
     rw [List.drop_eq_nil_of_le (by omega),depM] at hj
     have hw:=wsucc (j:=a) (n:=szM v.m+1) (by omega) (by omega)
     simp only [T7Fc,EXA,seval,hcond,hw]
     rw [show a=depM v.m by omega]
   ·have q5:(v.kind == 5)=false:=by simp [h5]
    simp only [T7Fd,EXA,Nat.reduceEqDiff,reduceCtorEq,VX,q4,q5,h4,h5]
    rfl
theorem r_dep (v:V) (hb:v.sz < big):cR 49 [v.enc]=some (.int .i64 (v.dep:Nat)):=r_depN (v.sz+1) v (Nat.lt_succ_self _) hb
def V.good (v:V):Bool:=v.fine && decide (v.dep≤50)
theorem r_good (v:V) (hb:v.sz < big):cR 25 [v.enc]=some (.bool v.good):=by
 have h1:decide ((v.dep:Int)≤50)=decide (v.dep≤50):=by rw [decide_eq_decide]; omega
 refine cR_of (F:=F25) rfl ?_
 simp only [F25,EXA,seval,VX,readAt_some,r_fine v hb,r_dep v hb,h1,V.good]
 repeat' split
 all_goals simp_all
def V.zero:V:=V.mk 0 0 [] [] []
def said (v:V):V:=if v.good && v.kind == 5 then v else V.zero
theorem r_said (v:V) (hb:v.sz < big):cR 43 [v.enc]=some (said v).enc:=by
 refine cR_of (F:=F43) rfl ?_
 cases hg:v.good
 ·simp only [T7Fb,EXA,seval,VX,readAt_some,r_good v hb,hg,said,V.zero,Bool.false_and]
 ·by_cases h5:v.kind=5
  ·have q:(v.kind != 5)=false:=by simp [h5]
   have q2:(v.kind == 5)=true:=by simp [h5]
   simp only [T7Fb,EXA,seval,VX,readAt_some,r_good v hb,hg,said,q,q2]
  ·have q:(v.kind != 5)=true:=by simp [h5]
   have q2:(v.kind == 5)=false:=by simp [h5]
   simp only [T7Fb,EXA,seval,VX,readAt_some,r_good v hb,hg,said,V.zero,q,q2]
end Go.Ab
namespace Go.Ab
set_option maxHeartbeats 1000000
def T8Fa:= @F46.eq_1
def T8Fb:= @F63.eq_1
def T8Fc:= @F74.eq_1
def T8Fd:=J @F83_18.eq_1 (@F83.eq_1)
set_option maxRecDepth 100000
theorem bl_irrefl: ∀a:Bs,bytesLess a a=false
 | []=>rfl
 | x ::r=>by simp [bytesLess,bl_irrefl r]
theorem bl_total: ∀ {a b:Bs},bytesLess a b=false→bytesLess b a=false→a=b
 | [], [],_,_=>rfl
 | [],_ ::_,h,_=>by simp [bytesLess] at h
 | _ ::_, [],_,h=>by simp [bytesLess] at h
 | x ::r,y ::s,h,h2=>by
  simp only [bytesLess,Bool.or_eq_false_iff,decide_eq_false_iff_not,Bool.and_eq_false_iff,beq_eq_false_iff_ne] at h h2
  have hxy:x=y:=UInt8.le_antisymm (UInt8.not_lt.1 h2.1) (UInt8.not_lt.1 h.1)
  subst hxy
  have h3:bytesLess r s=false:=by rcases h.2 with h | h; exact absurd rfl h; exact h
  have h4:bytesLess s r=false:=by rcases h2.2 with h | h; exact absurd rfl h; exact h
  rw [bl_total h3 h4]
theorem keyC_lt (a b:Bs):decide (keyC a b < 0)=bytesLess a b:=by
 unfold keyC
 cases h:bytesLess a b <;> cases h2:bytesLess b a <;> simp
theorem keyC_eq (a b:Bs):(keyC a b == 0)=(a == b):=by
 unfold keyC
 cases h:bytesLess a b
 ·cases h2:bytesLess b a
  ·rw [bl_total h h2]; simp
  ·have:a≠b:=by rintro rfl; rw [bl_irrefl] at h2; simp at h2
   simp [this]
 ·have:a≠b:=by rintro rfl; rw [bl_irrefl] at h; simp at h
  simp [this]
def keyAt (m:List Mem) (i:Nat):Bs:=match m[i]? with
 | some x=>x.1
 | none=> []
def bsF (m:List Mem) (k:Bs) (i j:Nat):Nat:=
 if i < j then (if bytesLess (keyAt m ((i+j) / 2)) k=true then bsF m k ((i+j) / 2+1) j else bsF m k i ((i+j) / 2)) else i
termination_by j - i
decreasing_by all_goals omega
theorem u64n {n:Nat} (h:n < 9223372036854775808):IntKind.wrap .u64 (n:Int)=(n:Int):=by
 simp [IntKind.wrap,IntKind.bits,IntKind.signed]; omega
theorem i64n {n:Nat} (h:n < 9223372036854775808):IntKind.wrap .i64 (n:Int)=(n:Int):=by
 simp [IntKind.wrap,IntKind.bits,IntKind.signed]; omega
theorem shr1 (n:Nat):shiftInt .shr .u64 (n:Int) 1=some (.int .u64 ((n / 2:Nat):Int)):=by
 have:Int.fdiv (n:Int) 2=((n / 2:Nat):Int):=by
  rw [Int.fdiv_eq_ediv_of_nonneg _ (by omega)]; omega
 simp [shiftInt,IntKind.bits,this]
theorem r_bsearch (m:List Mem) (k:Bs) (x:V) (hb:m.length < big) :
  cR 83 [.vsl (m.map memE) none,memE (k,x), .fn 40 [] []]=some (.tup [.int .i64 (bsF m k 0 m.length:Nat), .bool (decide (bsF m k 0 m.length < m.length) && (keyAt m (bsF m k 0 m.length) == k))]):=by
 unfold big at hb
 refine cR_of (F:=F83) rfl ?_
 simp only [F83,ex_loop,EXA,seval,VX]
 have hQ: ∀(i j:Nat) (σ:Store),i≤j→j≤m.length→bsF m k i j=bsF m k 0 m.length→True:=fun _ _ _ _ _ _=>trivial
 refine ex_while (S:=Nat×Nat) (fun p=> [(0, .vsl (m.map memE) none),(2, .fn 40 [] []),(4, .vptr [.str k, .int .i64 x.kind, .int .i64 x.n, .str x.s, .vsl (x.l.map V.enc) none, .vsl (x.m.map memE) none] 0),(8, .int .i64 m.length),(9, .int .i64 (p.1:Int)),(10, .int .i64 (p.2:Int))]) (fun _=> .empty) (fun p=>p.2 - p.1)
  (fun p=>bsF m k p.1 p.2=bsF m k 0 m.length∧p.1≤p.2∧p.2≤m.length) ?_ (0,m.length) ⟨rfl,by simp,by simp⟩
 rintro b ⟨i,j⟩ ⟨h1,h2,h3⟩ ih
 simp only at h1 h2 h3 ih ⊢
 by_cases hlt:i < j
 ·have hc:=dlt hlt
  obtain ⟨c,hcdef⟩ : ∃c,c=(i+j) / 2:=⟨_,rfl⟩
  have hcm:c < m.length:=by omega
  obtain ⟨y,hy⟩:=get_lt hcm
  have hidx:=idx_map (f:=memE) (sz:=6) (c:=none) hy (by simp [memE_cells])
  have w1:=wadd (a:=i) (b:=j) (by omega)
  have w2:=u64n (n:=i+j) (by omega)
  have w3:=i64n (n:=c) (by omega)
  have w4:=shr1 (i+j)
  rw [←hcdef] at w4
  have hk:=r_key y (k,x)
  have hkey:keyAt m c=y.1:=by simp [keyAt,hy]
  have hstep:=h1
  rw [bsF,if_pos hlt,←hcdef,hkey] at hstep
  cases hl:bytesLess y.1 k
  ·rw [hl,if_neg (by simp)] at hstep
   simp only [T8Fd,EXA,seval,VX,readAt_some,hc,w1,w2,w3,w4,hidx,hk,keyC_lt,hl]
   exact ih (i,c) _ _ (by simp; omega) ⟨hstep,by simp; omega,by simp; omega⟩ (by simp only [EXA,seval]) rfl
  ·rw [hl,if_pos rfl] at hstep
   have w5:=wsucc hcm (by omega)
   simp only [T8Fd,EXA,seval,VX,readAt_some,hc,w1,w2,w3,w4,hidx,hk,keyC_lt,hl,w5]
   exact ih (c+1,j) _ _ (by simp; omega) ⟨hstep,by simp; omega,by simp; omega⟩ (by simp only [EXA,seval]) rfl
 ·have hc:=dge (Nat.not_lt.1 hlt)
  have hi:bsF m k 0 m.length=i:=by rw [←h1,bsF,if_neg hlt]
  rw [hi]
  by_cases him:i < m.length
  ·obtain ⟨y,hy⟩:=get_lt him
   have hidx:=idx_map (f:=memE) (sz:=6) (c:=none) hy (by simp [memE_cells])
   have hk:=r_key y (k,x)
   have hc2:=dlt him
   have hkey:keyAt m i=y.1:=by simp [keyAt,hy]
   simp only [T8Fd,EXA,seval,VX,readAt_some,hc,hc2,hidx,hk,keyC_eq,hkey,him]
  ·have hc2:=dge (Nat.not_lt.1 him)
   simp only [T8Fd,EXA,seval,hc,hc2,him,Bool.false_and]
def placeV (v:V) (k:Bs):Nat×Bool:=if v.kind=5 then (bsF v.m k 0 v.m.length,decide (bsF v.m k 0 v.m.length < v.m.length) && (keyAt v.m (bsF v.m k 0 v.m.length) == k)) else (0,false)
theorem r_place (v:V) (k:Bs) (hb:v.m.length < big):cR 74 [v.enc, .str k]=some (.tup [.int .i64 ((placeV v k).1:Nat), .bool (placeV v k).2]):=by
 refine cR_of (F:=F74) rfl ?_
 by_cases h5:v.kind=5
 ·have q:(v.kind != 5)=false:=by simp [h5]
  simp only [T8Fc,EXA,seval,VX,r_bsearch _ _ _ hb,placeV,h5]
 ·have q:(v.kind != 5)=true:=by simp [h5]
  simp only [T8Fc,EXA,Nat.reduceEqDiff,reduceCtorEq,Nat.reduceAdd,Nat.reduceLT,VX,q,placeV,h5]
  rfl
def getV (v:V) (k:Bs):V×Bool:=match (placeV v k).2,v.m[(placeV v k).1]? with
 | true,some x=>(x.2,true)
 | _,_=>(V.zero,false)
theorem r_Get (v:V) (k:Bs) (hb:v.m.length < big):cR 63 [v.enc, .str k]=some (.tup [(getV v k).1.enc, .bool (getV v k).2]):=by
 refine cR_of (F:=F63) rfl ?_
 have hp:=r_place v k hb
 cases hk:(placeV v k).2
 ·rw [hk] at hp
  simp only [T8Fb,EXA,seval,VX,readAt_some,hp,getV,hk,V.zero]
 ·have hlt:(placeV v k).1 < v.m.length:=by
   unfold placeV at hk ⊢
   split at hk
   ·rename_i h5; simp only [Bool.and_eq_true,decide_eq_true_eq] at hk; rw [if_pos h5]; exact hk.1
   ·simp at hk
  obtain ⟨x,hx⟩:=get_lt hlt
  have hidx:=idx_map (f:=memE) (sz:=6) (c:=none) hx (by simp [memE_cells])
  rw [hk] at hp
  simp only [T8Fb,EXA,seval,VX,readAt_some,hp,hidx,getV,hk,hx]
def textAt (v:V) (k:Bs):Bs×Bool:=if (getV v k).2 && (getV v k).1.kind == 3 then ((getV v k).1.s,true) else ([],false)
theorem r_TextAt (v:V) (k:Bs) (hb:v.m.length < big):cR 46 [v.enc, .str k]=some (.tup [.str (textAt v k).1, .bool (textAt v k).2]):=by
 refine cR_of (F:=F46) rfl ?_
 have hp:=r_Get v k hb
 unfold textAt
 generalize getV v k=g at hp
 obtain ⟨x,ok⟩:=g
 simp only at hp ⊢
 cases ok
 ·simp only [T8Fa,EXA,seval,VX,readAt_some,hp,Bool.false_and]
 ·by_cases h3:x.kind=3
  ·have q:(x.kind != 3)=false:=by simp [h3]
   have q2:(x.kind == 3)=true:=by simp [h3]
   simp only [T8Fa,EXA,seval,VX,readAt_some,hp,q,q2]
  ·have q:(x.kind != 3)=true:=by simp [h3]
   have q2:(x.kind == 3)=false:=by simp [h3]
   simp only [T8Fa,EXA,seval,VX,readAt_some,hp,q,q2]
end Go.Ab
namespace Go.Ab
set_option maxHeartbeats 1000000
def T9Fa:=J @F101_35.eq_1 (J @F101_103.eq_1 (@F101.eq_1))
def T9Ff:= @F68.eq_1
def T9Fh:=J @F76_20.eq_1 (@F76.eq_1)
def T9Fl:= @F93.eq_1
def T9Fm:=J @F94_20.eq_1 (@F94.eq_1)
set_option maxRecDepth 100000
theorem u8back (c:UInt8):((c.toNat:Int).toNat).toUInt8=c:=by simp
theorem r_ib (s:Bs) (c:UInt8):cR 107 [.str s, .int .u8 c.toNat]=some (.int .i64 (firstByte s c)):=by
 refine cR_of (F:=F107) rfl ?_
 simp only [F107,EXA,seval,u8back]
theorem r_ib2 (s:Bs) (c:UInt8):cR 102 [.str s, .int .u8 c.toNat]=some (.int .i64 (firstByte s c)):=by
 refine cR_of (F:=F102) rfl ?_
 simp only [F102,EXA,seval,r_ib]
theorem firstByte_none {s:Bs} {c:UInt8} (h:s.findIdx? (fun b=>b == c)=none):firstByte s c= -1:=by
 unfold firstByte; rw [h]
theorem firstByte_some {s:Bs} {c:UInt8} {i:Nat} (h:s.findIdx? (fun b=>b == c)=some i):firstByte s c=(i:Int):=by
 unfold firstByte; rw [h]
theorem firstByte_ge (s:Bs) (c:UInt8):decide (firstByte s c≥0)=s.contains c:=by
 cases h:s.findIdx? (fun b=>b == c) with
 | none=>
  rw [firstByte_none h]
  have:=List.findIdx?_eq_none_iff.1 h
  have h2:s.contains c=false:=by
   rw [←Bool.not_eq_true,List.contains_iff_mem]
   intro hm
   have:=this c hm
   simp at this
  rw [h2]; rfl
 | some i=>
  rw [firstByte_some h]
  obtain ⟨h1,h2,_⟩:=List.findIdx?_eq_some_iff_getElem.1 h
  have h3:s.contains c=true:=by
   rw [List.contains_iff_mem]
   have:s[i]=c:=by simpa using h2
   rw [←this]; exact List.getElem_mem h1
  rw [h3]; simp
theorem r_index1 (s:Bs) (c:UInt8):cR 101 [.str s, .str [c]]=some (.int .i64 (firstByte s c)):=by
 refine cR_of (F:=F101) rfl ?_
 have h0:(((1:Nat):Int) == 0)=false:=rfl
 have h1:(((1:Nat):Int) == 1)=true:=rfl
 have hb:byteAt (.str [c]) (.int .i64 0)=some (.int .u8 c.toNat):=rfl
 by_cases hs: [c]=s
 ·subst hs
  have e:firstByte [c] c=0:=by simp [firstByte,List.findIdx?_cons]
  have hs':([c] == [c])=true:=by simp
  simp only [T9Fa,EXA,seval,hs',e]
 ·have hs':([c] == s)=false:=by simp [hs]
  simp only [T9Fa,EXA,seval,hs',hb,r_ib]
def cutB (s:Bs) (c:UInt8):Bs×Bs×Bool:=match s.findIdx? (fun b=>b == c) with
 | some i=>(s.take i,s.drop (i+1),true)
 | none=>(s, [],false)
theorem r_cut1 (s:Bs) (c:UInt8) (hb:s.length < big):cR 93 [.str s, .str [c]]=some (.tup [.str (cutB s c).1, .str (cutB s c).2.1, .bool (cutB s c).2.2]):=by
 unfold big at hb
 refine cR_of (F:=F93) rfl ?_
 cases h:s.findIdx? (fun b=>b == c) with
 | none=>
  have e:=firstByte_none h
  have q:decide ((-1:Int)≥0)=false:=rfl
  simp only [T9Fl,EXA,seval,r_index1,e,cutB,h]
 | some i=>
  have e:=firstByte_some h
  obtain ⟨h1,h2,_⟩:=List.findIdx?_eq_some_iff_getElem.1 h
  have q:decide ((i:Int)≥0)=true:=by simp
  have b1:sliceSOf (.str s) (some none) (some (some (i:Int)))=some (.str (s.take i)):=by
   have h3:((i:Int)≤s.length):=by omega
   simp [sliceSOf,bounds,h3]
  have w:=wsucc (j:=i) (n:=s.length) h1 (by omega)
  have b2:sliceSOf (.str s) (some (some ((i+1:Nat):Int))) (some none)=some (.str (s.drop (i+1))):=by
   have:=sliceS_lo (s:=s) (i:=((i+1:Nat):Int)) (by omega) (by omega)
   simpa using this
  have w':IntKind.wrap .i64 ((i:Int)+((1:Nat):Int))=((i+1:Nat):Int):=w
  simp only [T9Fl,EXA,seval,r_index1,e,q,cutB,h,b1,w,b2]
theorem r_cut (s:Bs) (c:UInt8) (hb:s.length < big):cR 75 [.str s, .str [c]]=some (.tup [.str (cutB s c).1, .str (cutB s c).2.1, .bool (cutB s c).2.2]):=by
 refine cR_of (F:=F75) rfl ?_
 simp only [F75,EXA,seval,r_cut1 s c hb]
theorem cutB_len (s:Bs) (c:UInt8):(cutB s c).1.length≤s.length∧(cutB s c).2.1.length≤s.length:=by
 unfold cutB
 split
 ·simp; omega
 ·simp
def setB (set:Bs) (c:UInt8):Bool:=set.contains c
theorem r_setHas (set:Bs) (c:UInt8):cR 95 [.str set, .int .u8 c.toNat]=some (.bool (setB set c)):=by
 refine cR_of (F:=F95) rfl ?_
 simp only [F95,EXA,seval,r_ib2,firstByte_ge,setB]
def shownB (c:UInt8):Bool:=decide (33≤c) && (decide (c≤126) && c != 58)
theorem g33 (c:UInt8):decide ((c.toNat:Int)≥33)=decide (33≤c):=by rw [decide_eq_decide,UInt8.le_iff_toNat_le]; simp; omega
theorem l126 (c:UInt8):decide ((c.toNat:Int)≤126)=decide (c≤126):=by rw [decide_eq_decide,UInt8.le_iff_toNat_le]; simp; omega
theorem n58 (c:UInt8):((c.toNat:Int) != 58)=(c != 58):=
 u8_all (P:=fun c=>((c.toNat:Int) != 58)=(c != 58)) (by decide+kernel) c
theorem r_shownHas (c:UInt8):cR 77 [.agg [], .int .u8 c.toNat]=some (.bool (shownB c)):=by
 refine cR_of (F:=F77) rfl ?_
 simp only [F77,EXA,seval,g33,l126,n58,shownB]
 cases decide (33≤c) <;> cases decide (c≤126) <;> rfl
def allB (p:UInt8→Bool) (n:Nat) (s:Bs):Bool:=s.all p && (decide (0 < s.length) && decide (s.length≤n))
theorem byte_get {s:Bs} {j:Nat} {c:UInt8} (h:s[j]? =some c):byteAt (.str s) (.int .i64 (j:Int))=some (.int .u8 c.toNat):=by
 simp [byteAt,h]
theorem lpos (n:Nat):decide (0 < (n:Int))=decide (0 < n):=by rw [decide_eq_decide]; omega
theorem lleN (a b:Nat):decide ((a:Int)≤(b:Int))=decide (a≤b):=by rw [decide_eq_decide]; omega
theorem r_allSet (s set:Bs) (n:Nat) (hb:s.length < big):cR 94 [.str s, .int .i64 (n:Int), .str set, .fn 95 [] []]=some (.bool (allB (setB set) n s)):=by
 unfold big at hb
 refine cR_of (F:=F94) rfl ?_
 simp only [F94,ex_loop,EXA,seval]
 refine ex_while (S:=Nat) (fun j=> [(0, .str s),(1, .int .i64 (n:Int)),(2, .str set),(3, .fn 95 [] []),(11, .int .i64 s.length),(12, .int .i64 (j:Int))]) (fun _=> .empty) (fun j=>s.length - j) (fun j=>(s.drop j).all (setB set)=s.all (setB set)) ?_ 0 rfl
 intro b j hj ih
 by_cases hlt:j < s.length
 ·obtain ⟨c,hc⟩:=get_lt hlt
  have hcond:=dlt hlt
  have hbyte:=byte_get hc
  rw [drop_cons hc,List.all_cons] at hj
  cases hp:setB set c
  ·simp only [T9Fm,EXA,seval,hcond,hbyte,r_setHas,hp,allB]
   rw [hp] at hj
   rw [←hj]; rfl
  ·simp only [T9Fm,EXA,seval,hcond,hbyte,r_setHas,hp]
   exact ih (j+1) _ _ (by omega) (by rw [←hj,hp]; rfl) (by rw [wsucc hlt (by omega)]; simp only [EXA,seval]) rfl
 ·have hcond:=dge (Nat.not_lt.1 hlt)
  rw [List.drop_eq_nil_of_le (by omega)] at hj
  simp only [T9Fm,EXA,seval,hcond,lpos,lleN,allB,←hj]
  by_cases h0:0 < s.length
  ·simp [h0]
  ·simp [h0]
theorem r_allShown (s:Bs) (n:Nat) (hb:s.length < big):cR 76 [.str s, .int .i64 (n:Int), .agg [], .fn 77 [] []]=some (.bool (allB shownB n s)):=by
 unfold big at hb
 refine cR_of (F:=F76) rfl ?_
 simp only [F76,ex_loop,EXA,seval]
 refine ex_while (S:=Nat) (fun j=> [(0, .str s),(1, .int .i64 (n:Int)),(3, .fn 77 [] []),(6, .vptr [] 0),(11, .int .i64 s.length),(12, .int .i64 (j:Int))]) (fun _=> .empty) (fun j=>s.length - j) (fun j=>(s.drop j).all shownB=s.all shownB) ?_ 0 rfl
 intro b j hj ih
 by_cases hlt:j < s.length
 ·obtain ⟨c,hc⟩:=get_lt hlt
  have hcond:=dlt hlt
  have hbyte:=byte_get hc
  have hr:readAt [] 0 (some 0)=some (.agg []):=rfl
  rw [drop_cons hc,List.all_cons] at hj
  cases hp:shownB c
  ·simp only [T9Fh,EXA,seval,hcond,hbyte,r_shownHas,hp,allB,hr]
   rw [hp] at hj
   rw [←hj]; rfl
  ·simp only [T9Fh,EXA,seval,hcond,hbyte,r_shownHas,hp,hr]
   exact ih (j+1) _ _ (by omega) (by rw [←hj,hp]; rfl) (by rw [wsucc hlt (by omega)]; simp only [EXA,seval]) rfl
 ·have hcond:=dge (Nat.not_lt.1 hlt)
  rw [List.drop_eq_nil_of_le (by omega)] at hj
  simp only [T9Fh,EXA,seval,hcond,lpos,lleN,allB,←hj]
  by_cases h0:0 < s.length
  ·simp [h0]
  ·simp [h0]
def digitsS:Bs:= [48,49,50,51,52,53,54,55,56,57]
def lettersS:Bs:= [97,98,99,100,101,102,103,104,105,106,107,108,109,110,111,112,113,114,115,116,117,118,119,120,121,122,65,66,67,68,69,70,71,72,73,74,75,76,77,78,79,80,81,82,83,84,85,86,87,88,89,90,48,49,50,51,52,53,54,55,56,57,46,45]
def serverB (s:Bs):Bool:=(!((cutB s 58).2.2 && !allB (setB digitsS) 5 (cutB s 58).2.1)) && (decide (s.length≤255) && allB (setB lettersS) 255 (cutB s 58).1)
theorem l255 (n:Nat):decide ((n:Int)≤255)=decide (n≤255):=by rw [decide_eq_decide]; omega
theorem r_server (s:Bs) (hb:s.length < big):cR 78 [.str s]=some (.bool (serverB s)):=by
 have hc:=r_cut s 58 hb
 obtain ⟨c1,c2⟩:=cutB_len s 58
 unfold serverB
 generalize cutB s 58=c at hc c1 c2 ⊢
 obtain ⟨name,port,ok⟩:=c
 simp only at hc c1 c2 ⊢
 have a1:cR 94 [.str port, .int .i64 5, .str digitsS, .fn 95 [] []]=_:=r_allSet port digitsS 5 (by omega)
 have a2:cR 94 [.str name, .int .i64 255, .str lettersS, .fn 95 [] []]=_:=r_allSet name lettersS 255 (by omega)
 generalize allB (setB digitsS) 5 port=A at a1 ⊢
 generalize allB (setB lettersS) 255 name=B at a2 ⊢
 simp only [digitsS,lettersS] at a1 a2
 refine cR_of (F:=F78) rfl ?_
 simp only [F78,EXA,seval,hc,a1,a2,l255]
 generalize decide (s.length≤255)=L
 cases ok <;> cases A <;> cases L <;> rfl
def partsB (s:Bs) (sign:UInt8):Bs×Bs×Bool:=match s with
 | []=>([], [],false)
 | a ::r=>if a=sign∧s.length≤255∧(cutB r 58).2.2=true∧allB shownB 255 (cutB r 58).1=true∧serverB (cutB r 58).2.1=true then ((cutB r 58).1,(cutB r 58).2.1,true) else ([], [],false)
theorem ne8 (a b:UInt8):((a.toNat:Int) != (b.toNat:Int))=(a != b):=by
 by_cases h:a=b
 ·subst h; simp
 ·have:(a.toNat:Int)≠(b.toNat:Int):=fun h'=>h (UInt8.toNat_inj.1 (by omega))
  rw [bne_iff_ne.2 this,bne_iff_ne.2 h]
theorem r_parts (s:Bs) (sign:UInt8) (hb:s.length < big):cR 68 [.str s, .int .u8 sign.toNat]=some (.tup [.str (partsB s sign).1, .str (partsB s sign).2.1, .bool (partsB s sign).2.2]):=by
 refine cR_of (F:=F68) rfl ?_
 cases s with
 | nil=>
  have q:(([] :Bs) == [])=true:=rfl
  simp only [T9Ff,EXA,seval,q,partsB]
 | cons a r=>
  have q:((a ::r) == [])=false:=rfl
  have ha:byteAt (.str (a ::r)) (.int .i64 0)=some (.int .u8 a.toNat):=rfl
  have hs:sliceSOf (.str (a ::r)) (some (some 1)) (some none)=some (.str r):=sliceS_lo (s:=a ::r) (i:=1) (by omega) (by simp; omega)
  simp only [List.length_cons] at hb
  have hc:=r_cut r 58 (by omega)
  obtain ⟨c1,c2⟩:=cutB_len r 58
  simp only [partsB]
  generalize cutB r 58=c at hc c1 c2 ⊢
  obtain ⟨loc,srv,ok⟩:=c
  simp only at hc c1 c2 ⊢
  have a1:cR 76 [.str loc, .int .i64 255, .agg [], .fn 77 [] []]=_:=r_allShown loc 255 (by omega)
  have a2:=r_server srv (by omega)
  have hl:decide (255 < ((r.length+1:Nat):Int))=decide (255 < r.length+1):=by rw [decide_eq_decide]; omega
  by_cases hsg:a=sign
  ·have q1:(a != sign)=false:=by simp [hsg]
   by_cases hlen:255 < r.length+1
   ·have hl':decide (255 < r.length+1)=true:=by simp [hlen]
    have hn: ¬(r.length+1≤255):=by omega
    simp only [T9Ff,EXA,seval,q,ha,ne8,q1,hl,hl',hn,false_and,and_false]
   ·have hl':decide (255 < r.length+1)=false:=by simp [hlen]
    have hn:r.length+1≤255:=by omega
    cases ok
    ·simp only [T9Ff,EXA,seval,q,ha,ne8,q1,hl,hl',hs,hc,false_and,and_false]
    ·cases hA:allB shownB 255 loc
     ·rw [hA] at a1
      simp only [T9Ff,EXA,seval,q,ha,ne8,q1,hl,hl',hs,hc,a1,false_and,and_false]
     ·rw [hA] at a1
      cases hB:serverB srv
      ·rw [hB] at a2
       simp only [T9Ff,EXA,seval,q,ha,ne8,q1,hl,hl',hs,hc,a1,a2,and_false]
      ·rw [hB] at a2
       have hsgT:(a=sign)=True:=eq_true hsg
       simp only [T9Ff,EXA,seval,q,ha,ne8,q1,hl,hl',hs,hc,a1,a2,hn,hsgT]
  ·have q1:(a != sign)=true:=by simp [hsg]
   simp only [T9Ff,EXA,seval,q,ha,ne8,q1,hsg,false_and]
theorem r_Room (s:Bs) (hb:s.length < big):cR 62 [.str s]=some (.tup [.str (partsB s 33).1, .str (partsB s 33).2.1, .bool (partsB s 33).2.2]):=by
 have h:cR 68 [.str s, .int .u8 33]=_:=r_parts s 33 hb
 refine cR_of (F:=F62) rfl ?_
 simp only [F62,EXA,seval,h]
theorem r_User (s:Bs) (hb:s.length < big):cR 55 [.str s]=some (.tup [.str (partsB s 64).1, .str (partsB s 64).2.1, .bool (partsB s 64).2.2]):=by
 have h:cR 68 [.str s, .int .u8 64]=_:=r_parts s 64 hb
 refine cR_of (F:=F55) rfl ?_
 simp only [F55,EXA,seval,h]
end Go.Ab
namespace Go.Ab
set_option maxHeartbeats 1000000
structure Lay (α:Type) where
 f:α→AV
 sz:Nat
 pos:0 < sz
 len: ∀a,(f a).cells.length=sz
 closed: ∀a,(f a).closed=true
 er: ∀a,(f a).er=f a
 one: ∀a,(f a).cells.all AV.one=true
 agg: ∀a,if sz=1 then (f a).cells= [f a] else ∃cs,f a= .agg cs
def Lay.cells {α:Type} (L:Lay α) (l:List α):List AV:=l.flatMap fun a=>(L.f a).cells
theorem Lay.cells_len {α:Type} (L:Lay α) (l:List α):(L.cells l).length=l.length*L.sz:=by
 unfold Lay.cells
 induction l with
 | nil=>simp
 | cons a l ih=>simp [L.len a,ih,Nat.add_mul]; omega
theorem Lay.cells_closed {α:Type} (L:Lay α) (l:List α):closedL (L.cells l)=true:=by
 unfold Lay.cells
 induction l with
 | nil=>rfl
 | cons a l ih=>
  rw [List.flatMap_cons]
  have h: ∀x y:List AV,closedL x=true→closedL y=true→closedL (x ++y)=true:=by
   intro x y
   induction x with
   | nil=>intro _ h; exact h
   | cons c x ihx=>intro h1 h2; simp only [closedL,Bool.and_eq_true,List.cons_append] at h1 ⊢; exact ⟨h1.1,ihx h1.2 h2⟩
  refine h _ _ ?_ ih
  have:=L.closed a
  cases hf:L.f a <;> simp_all [AV.cells,AV.closed,closedL]
theorem Lay.cells_one {α:Type} (L:Lay α) (l:List α):(L.cells l).all AV.one=true:=by
 unfold Lay.cells
 induction l with
 | nil=>rfl
 | cons a l ih=>simp only [List.flatMap_cons,List.all_append,L.one a,ih,Bool.and_self]
theorem one_notAgg {l:List AV} (h:l.all AV.one=true):l.all AV.notAgg=true:=by
 rw [List.all_eq_true] at h ⊢
 intro x hx
 have:=h x hx
 cases x <;> simp_all [AV.one,AV.notAgg]
theorem Lay.chunks {α:Type} (L:Lay α) (l:List α):chunks L.sz l.length (L.cells l)=l.map L.f:=by
 induction l with
 | nil=>rfl
 | cons a l ih=>
  have e:L.cells (a ::l)=(L.f a).cells ++L.cells l:=by simp [Lay.cells]
  simp only [List.length_cons,Go.Ab.chunks,e]
  have hd:((L.f a).cells ++L.cells l).drop L.sz=L.cells l:=by
   rw [List.drop_append_of_le_length (by rw [L.len]; exact Nat.le_refl _),List.drop_eq_nil_of_le (by rw [L.len]; exact Nat.le_refl _),List.nil_append]
  rw [hd,ih,List.map_cons]
  congr 1
  have ha:=L.agg a
  by_cases h1:L.sz=1
  ·rw [if_pos h1] at ha ⊢
   rw [ha]; rfl
  ·rw [if_neg h1] at ha ⊢
   obtain ⟨cs,hcs⟩:=ha
   have hl:=L.len a
   rw [hcs] at hl ⊢
   simp only [AV.cells] at hl ⊢
   rw [List.take_append_of_le_length (by omega),List.take_of_length_le (by omega)]
def Own {α:Type} (L:Lay α) (σ:Store) (ob:Option Nat) (l:List α):Prop:=OwnSl σ L.sz ob l.length (L.cells l)
theorem Own.nil {α:Type} (L:Lay α) (σ:Store):Own L σ none []:=⟨rfl,rfl⟩
theorem Lay.erMap {α:Type} (L:Lay α) (l:List α):erL (l.map L.f)=l.map L.f:=erL_mapId fun a _=>L.er a
theorem Own.rb {α:Type} {L:Lay α} {σ:Store} {ob:Option Nat} {l:List α} (h:Own L σ ob l): ∃v,rb σ rbDepth (slOf L.sz ob l.length)=some v∧v.er= .vsl (l.map L.f) none:=by
 have:=rb_own h L.pos (L.cells_closed l) (one_notAgg (L.cells_one l))
 refine ⟨_,this,?_⟩
 by_cases h0:l.length=0
 ·rw [if_pos h0,List.eq_nil_of_length_eq_zero h0]; simp only [AV.er]; rfl
 ·rw [if_neg h0,L.chunks]; simp only [AV.er,L.erMap]
theorem Own.rbE {α:Type} {L:Lay α} {σ:Store} {ob:Option Nat} {l:List α} (h:Own L σ ob l):rbE σ (slOf L.sz ob l.length)=some (.vsl (l.map L.f) none):=by
 obtain ⟨v,h1,h2⟩:=h.rb
 unfold Go.Ab.rbE
 rw [h1,Option.map_some,h2]
theorem Own.lenL {α:Type} {L:Lay α} {σ:Store} {ob:Option Nat} {l:List α} (h:Own L σ ob l):lenL (slOf L.sz ob l.length)=some (.int .i64 l.length):=lenL_slOf h
theorem Own.append {α:Type} {L:Lay α} {σ:Store} {ob:Option Nat} {l m:List α} {bytes:Nat} (h:Own L σ ob l) (hb:0 < bytes) (hm:(l.length+m.length)*bytes≤maxBytes) (hk:0 < m.length) :
  ∃σ',appendTo σ L.sz bytes (slOf L.sz ob l.length) (L.cells m) m.length=some (slOf L.sz (some σ.next) (l ++m).length,σ')∧Own L σ' (some σ.next) (l ++m)∧σ'.next=σ.next+1∧
   ∀b',b' < σ.next→ob≠some b'→σ'.get b'=σ.get b':=by
 obtain ⟨σ',h1,h2,h3,h4⟩:=append_own h L.pos hb hm (L.cells_len m) (L.cells_one m) hk
 refine ⟨σ',by rw [h1,List.length_append],?_,h3,h4⟩
 unfold Own
 rw [List.length_append]
 have:L.cells (l ++m)=L.cells l ++L.cells m:=by simp [Lay.cells]
 rw [this]
 exact h2
theorem Own.push {α:Type} {L:Lay α} {σ:Store} {ob:Option Nat} {l:List α} {a:α} {bytes:Nat} (h:Own L σ ob l) (hb:0 < bytes) (hm:(l.length+1)*bytes≤maxBytes) :
  ∃σ',appendTo σ L.sz bytes (slOf L.sz ob l.length) (L.f a).cells 1=some (slOf L.sz (some σ.next) (l ++ [a]).length,σ')∧Own L σ' (some σ.next) (l ++ [a])∧σ'.next=σ.next+1∧
   ∀b',b' < σ.next→ob≠some b'→σ'.get b'=σ.get b':=by
 have:=Own.append (m:= [a]) h hb (by simpa using hm) (by simp)
 simpa [Lay.cells] using this
theorem Own.frame {α:Type} {L:Lay α} {σ σ':Store} {b:Nat} {l:List α} (h:Own L σ (some b) l) (hg:σ'.get b=σ.get b) (hn:σ.next≤σ'.next):Own L σ' (some b) l:=by
 obtain ⟨h1,h2,h3,h4⟩:=h
 exact ⟨hg.trans h1,h2,by omega,h4⟩
theorem Own.alloc {α:Type} {L:Lay α} {σ:Store} {ob:Option Nat} {l:List α} (h:Own L σ ob l) (cs:List AV):Own L (σ.alloc cs) ob l:=by
 cases ob with
 | none=>exact h
 | some b=>exact h.frame (get_alloc h.2.2.1) (by simp [next_alloc])
theorem Own.set {α:Type} {L:Lay α} {σ:Store} {ob:Option Nat} {l:List α} {b:Nat} {x:Blk} (h:Own L σ ob l) (hb:ob≠some b):Own L (σ.set b x) ob l:=by
 cases ob with
 | none=>exact h
 | some b'=>exact h.frame (get_set (by rintro rfl; exact hb rfl)) (Nat.le_refl _)
theorem Own.lt {α:Type} {L:Lay α} {σ:Store} {b:Nat} {l:List α} (h:Own L σ (some b) l):b < σ.next:=h.2.2.1
theorem Own.call1 {α:Type} {L:Lay α} {σ:Store} {ob:Option Nat} {l:List α} {st:Bool} {f:Nat} {args:List AV} {r:AV} (h:Own L σ ob l) (ha:closedL args=true) (hc:cR f (.vsl (l.map L.f) none ::erL args)=some r) (hr:r.flat=true) :
  callP ipU gU st (.fn f [] []) (slOf L.sz ob l.length ::args) σ=some (r,σ):=by
 obtain ⟨v,h1,h2⟩:=h.rb
 refine callP_flat (args':=v ::args) rfl ?_ ?_ hr
 ·simp only [mapO,h1,mapO_closed' ha]
 ·simp only [erL,h2,AV.er]; exact hc
def LStr:Lay Bs where
 f:= .str
 sz:=1
 pos:=by decide
 len _:=rfl
 closed _:=rfl
 er _:=by simp only [AV.er]
 one _:=rfl
 agg _:=rfl
def LSlt:Lay Slt where
 f:=sltE
 sz:=2
 pos:=by decide
 len _:=rfl
 closed _:=rfl
 er:=sltE_er
 one _:=rfl
 agg a:=⟨_,rfl⟩
def LEv:Lay Ev where
 f:=evE
 sz:=20
 pos:=by decide
 len _:=rfl
 closed:=evE_closed
 er:=evE_er
 one _:=rfl
 agg a:=⟨_,rfl⟩
def LV:Lay V where
 f:=V.enc
 sz:=5
 pos:=by decide
 len v:=by rw [V.enc_cells]; rfl
 closed:=V.enc_closed
 er:=V.enc_er
 one v:=by rw [V.enc_cells]; rfl
 agg v:=⟨_,V.enc_eq v⟩
def LMem:Lay Mem where
 f:=memE
 sz:=6
 pos:=by decide
 len v:=by rw [memE_cells]; rfl
 closed:=memE_closed
 er:=memE_er
 one v:=by rw [memE_cells]; rfl
 agg v:=⟨_,rfl⟩
end Go.Ab
namespace Go.Ab
set_option maxHeartbeats 1000000
def T10Fd:= @F30.eq_1
set_option maxRecDepth 100000
abbrev kThird:Bs:= [116,104,105,114,100,95,112,97,114,116,121,95,105,110,118,105,116,101]
abbrev kSigned:Bs:= [115,105,103,110,101,100]
abbrev kToken:Bs:= [116,111,107,101,110]
abbrev kMxid:Bs:= [109,120,105,100]
abbrev kAuthd:Bs:= [106,111,105,110,95,97,117,116,104,111,114,105,115,101,100,95,118,105,97,95,117,115,101,114,115,95,115,101,114,118,101,114]
abbrev kType:Bs:= [116,121,112,101]
abbrev kRoomId:Bs:= [114,111,111,109,95,105,100]
abbrev kMRM:Bs:= [109,46,114,111,111,109,95,109,101,109,98,101,114,115,104,105,112]
abbrev kJoinRule:Bs:= [106,111,105,110,95,114,117,108,101]
abbrev kMembership:Bs:= [109,101,109,98,101,114,115,104,105,112]
theorem V.zero_sz:V.zero.sz=1:=rfl
theorem said_sz (v:V):(said v).sz≤v.sz:=by
 unfold said
 split
 ·exact Nat.le_refl _
 ·rw [V.zero_sz]; exact v.sz_pos
theorem getV_sz (v:V) (k:Bs):(getV v k).1.sz≤v.sz:=by
 unfold getV
 split
 ·rename_i x _ hx
  have:=szM_mem (List.mem_of_getElem? hx)
  have:=v.sz_eq
  simp only; omega
 ·simp only; rw [V.zero_sz]; exact v.sz_pos
theorem m_len_sz (v:V):v.m.length≤v.sz:=by have:=v.sz_eq; have:=szM_len v.m; omega
theorem s_len_sz (v:V):v.s.length≤v.sz:=by have:=v.sz_eq; omega
theorem textAt_len (v:V) (k:Bs):(textAt v k).1.length≤v.sz:=by
 unfold textAt
 split
 ·have:=s_len_sz (getV v k).1; have:=getV_sz v k; simp only; omega
 ·simp
theorem r_textAt (v:V) (k:Bs) (hb:v.sz < big):cR 46 [v.enc, .str k]=some (.tup [.str (textAt v k).1, .bool (textAt v k).2]):=r_TextAt v k (by have:=m_len_sz v; omega)
theorem r_get (v:V) (k:Bs) (hb:v.sz < big):cR 63 [v.enc, .str k]=some (.tup [(getV v k).1.enc, .bool (getV v k).2]):=r_Get v k (by have:=m_len_sz v; omega)
def tableV (v:V) (k:Bs):V×Bool:=if (getV v k).2 && (getV v k).1.kind == 5 then ((getV v k).1,true) else (V.zero,false)
def membershipV (c:V):Bs:=(textAt (said c) kMembership).1
theorem r_membership (c:V) (hb:c.sz < big):cR 28 [c.enc]=some (.str (membershipV c)):=by
 have h1:=r_said c hb
 have h2:=r_textAt (said c) kMembership (by have:=said_sz c; omega)
 refine cR_of (F:=F28) rfl ?_
 simp only [F28,EXA,seval,VX,readAt_some,h1,h2,membershipV]
def ruleV (c:V):Bs:=(textAt (said c) kJoinRule).1
theorem r_rule (c:V) (hb:c.sz < big):cR 23 [c.enc]=some (.str (ruleV c)):=by
 have h1:=r_said c hb
 have h2:=r_textAt (said c) kJoinRule (by have:=said_sz c; omega)
 refine cR_of (F:=F23) rfl ?_
 simp only [F23,EXA,seval,VX,readAt_some,h1,h2,ruleV]
def authV (c:V):Bs×Bool:=if (partsB (textAt (said c) kAuthd).1 64).2.2=true then ((textAt (said c) kAuthd).1,true) else ([],false)
theorem r_auth (c:V) (hb:c.sz < big):cR 30 [c.enc]=some (.tup [.str (authV c).1, .bool (authV c).2]):=by
 have h1:=r_said c hb
 have hz:=said_sz c
 have h2:=r_textAt (said c) kAuthd (by omega)
 have h3:=r_User (textAt (said c) kAuthd).1 (by have:=textAt_len (said c) kAuthd; omega)
 refine cR_of (F:=F30) rfl ?_
 unfold authV
 cases hp:(partsB (textAt (said c) kAuthd).1 64).2.2
 ·rw [hp] at h3
  simp only [T10Fd,EXA,seval,VX,readAt_some,h1,h2,h3]
 ·rw [hp] at h3
  simp only [T10Fd,EXA,seval,VX,readAt_some,h1,h2,h3]
def signedV (c:V):V×Bool:=((tableV (tableV (said c) kThird).1 kSigned).1,(tableV (tableV (said c) kThird).1 kSigned).2 && ((textAt (tableV (tableV (said c) kThird).1 kSigned).1 kToken).2 && (textAt (tableV (tableV (said c) kThird).1 kSigned).1 kMxid).2))
def thirdV (c:V):Bs×Bs×Bool:=if (signedV c).2=true then ((textAt (signedV c).1 kToken).1,(textAt (signedV c).1 kMxid).1,true) else ([], [],false)
def roomV (c:V):Bs×Bool:=if (textAt c kType).1=kMRM∧(partsB (textAt c kRoomId).1 33).2.2=true then ((textAt c kRoomId).1,true) else ([],false)
end Go.Ab
namespace Go.Ab
set_option maxHeartbeats 1000000
set_option maxRecDepth 100000
def lim:Nat:=1073741824
theorem Lay.rowOf {α:Type} (L:Lay α) (σ:Store) (l:List α) (c:Option Nat):rowOf σ L.sz (.vsl (l.map L.f) c)=some (L.cells l):=by
 have h:(l.map L.f).all (fun e=>e.cells.length == L.sz)=true:=by
  rw [List.all_eq_true]
  intro x hx
  obtain ⟨a,_,rfl⟩:=List.mem_map.1 hx
  simp [L.len a]
 have e:(l.map L.f).flatMap AV.cells=L.cells l:=by simp [Lay.cells,List.flatMap_map]
 show (if (l.map L.f).all (fun e=>e.cells.length == L.sz)=true then some ((l.map L.f).flatMap AV.cells) else none)=_
 rw [if_pos h,e]
def Gr {α:Type} (L:Lay α) (σ:Store) (v:AV) (l:List α):Prop:=
 (v= .nils∧l= [])∨(∃b,v= .sl b 0 l.length L.sz none∧Own L σ (some b) l)∨v= .vsl (l.map L.f) (some l.length)
section
variable {α:Type} {L:Lay α} {σ:Store} {v:AV} {l:List α}
theorem Gr.nil (L:Lay α) (σ:Store):Gr L σ .nils []:= .inl ⟨rfl,rfl⟩
theorem Gr.lit (L:Lay α) (σ:Store) (l:List α):Gr L σ (.vsl (l.map L.f) (some l.length)) l:= .inr (.inr rfl)
theorem Gr.own {b:Nat} (h:Own L σ (some b) l):Gr L σ (.sl b 0 l.length L.sz none) l:= .inr (.inl ⟨b,rfl,h⟩)
theorem Gr.lenL (h:Gr L σ v l):lenL v=some (.int .i64 l.length):=by
 rcases h with ⟨rfl,rfl⟩ | ⟨b,rfl,h⟩ | rfl
 ·rfl
 ·rfl
 ·rw [lenL_vsl,List.length_map]
theorem Gr.rb (h:Gr L σ v l): ∃v',Go.Ab.rb σ rbDepth v=some v'∧v'.er= .vsl (l.map L.f) none:=by
 rcases h with ⟨rfl,rfl⟩ | ⟨b,rfl,h⟩ | rfl
 ·exact ⟨_,rfl,by simp only [AV.er]; rfl⟩
 ·exact Own.rb (ob:=some b) h
 ·refine ⟨_,rb_closed' (by simp only [AV.closed]; exact closedL_map fun a _=>L.closed a),?_⟩
  simp only [AV.er,L.erMap]
theorem Gr.rbE (h:Gr L σ v l):Go.Ab.rbE σ v=some (.vsl (l.map L.f) none):=by
 obtain ⟨v',h1,h2⟩:=h.rb
 unfold Go.Ab.rbE
 rw [h1,Option.map_some,h2]
theorem Gr.call1 {st:Bool} {f:Nat} {args:List AV} {r:AV} (h:Gr L σ v l) (ha:closedL args=true) (hc:cR f (.vsl (l.map L.f) none ::erL args)=some r) (hr:r.flat=true) :
  callP ipU gU st (.fn f [] []) (v ::args) σ=some (r,σ):=by
 obtain ⟨v',h1,h2⟩:=h.rb
 refine callP_flat (args':=v' ::args) rfl ?_ ?_ hr
 ·simp only [mapO,h1,mapO_closed' ha]
 ·simp only [erL,h2,AV.er]; exact hc
def grNext {α:Type} (L:Lay α) (σ:Store) (v:AV) (l m:List α):Store:=match v with
 | .sl b .. =>(σ.set b .dead).alloc (L.cells l ++L.cells m)
 | _=>σ.alloc (L.cells l ++L.cells m)
theorem Gr.app {m:List α} {bytes:Nat} (h:Gr L σ v l) (hb:0 < bytes) (hm:(l.length+m.length)*bytes≤maxBytes) (hk:0 < m.length) :
  appendTo σ L.sz bytes v (L.cells m) m.length=some (.sl σ.next 0 (l ++m).length L.sz none,grNext L σ v l m):=by
 have c1:=L.cells_len m
 have c2:=L.cells_one m
 have c3:=L.pos
 rcases h with ⟨rfl,rfl⟩ | ⟨b,rfl,h⟩ | rfl
 ·unfold appendTo
  simp only [lenOf]
  rw [if_pos ⟨c3,hb,by simpa using hm,c1,c2⟩,if_neg (by omega)]
  simp [grNext,Lay.cells]
 ·obtain ⟨h1,h2,h3,h4⟩:=h
  unfold appendTo
  simp only [lenOf]
  rw [if_pos ⟨c3,hb,hm,c1,c2⟩,if_pos trivial]
  have:σ.owned b=some (L.cells l):=by simp [Store.owned,h1]
  rw [this]
  simp only
  rw [if_neg (by omega),if_pos (by omega)]
  simp [grNext]
 ·unfold appendTo
  simp only [lenOf,List.length_map]
  rw [if_pos ⟨c3,hb,hm,c1,c2⟩,if_neg (by omega),if_pos trivial,L.rowOf]
  simp [grNext]
theorem Gr.next {m:List α} (h:Gr L σ v l) (hk:0 < m.length):Own L (grNext L σ v l m) (some σ.next) (l ++m):=by
 have e:L.cells (l ++m)=L.cells l ++L.cells m:=by simp [Lay.cells]
 have hl:=L.cells_len (l ++m)
 have hlen:0 < (l ++m).length:=by simp; omega
 rcases h with ⟨rfl,rfl⟩ | ⟨b,rfl,h⟩ | rfl
 ·exact ⟨by simp only [grNext]; rw [←e]; exact get_alloc_next,hl,by simp [grNext,next_alloc],hlen⟩
 ·exact ⟨by simp only [grNext]; rw [←e]; exact get_alloc_next (σ:=σ.set b .dead),hl,by simp [grNext,next_alloc,next_set],hlen⟩
 ·exact ⟨by simp only [grNext]; rw [←e]; exact get_alloc_next,hl,by simp [grNext,next_alloc],hlen⟩
theorem Gr.push {a:α} {bytes:Nat} (h:Gr L σ v l) (hb:0 < bytes) (hm:(l.length+1)*bytes≤maxBytes) :
  appendTo σ L.sz bytes v (L.f a).cells 1=some (.sl σ.next 0 (l ++ [a]).length L.sz none,grNext L σ v l [a]):=by
 have:=Gr.app (m:= [a]) h hb (by simpa using hm) (by simp)
 simpa [Lay.cells] using this
theorem grNext_next (L:Lay α) (σ:Store) (v:AV) (l m:List α):(grNext L σ v l m).next=σ.next+1:=by
 unfold grNext; split <;> rfl
theorem Gr.frame {σ':Store} (h:Gr L σ v l) (hg: ∀b,b < σ.next→σ'.get b=σ.get b) (hn:σ.next≤σ'.next):Gr L σ' v l:=by
 rcases h with h | ⟨b,rfl,h⟩ | h
 ·exact .inl h
 ·exact .inr (.inl ⟨b,rfl,h.frame (hg b h.lt) hn⟩)
 ·exact .inr (.inr h)
theorem Gr.alloc (h:Gr L σ v l) (cs:List AV):Gr L (σ.alloc cs) v l:=h.frame (fun _ hb=>get_alloc hb) (by simp [next_alloc])
theorem Gr.newset (h:Gr L σ v l) (cs cs':List AV):Gr L { next:=σ.next+1,m:=(σ.next, .own cs) ::(σ.next, .own cs') ::σ.m } v l:=
 h.frame (fun b hb=>by
  show look ((σ.next,Blk.own cs) ::(σ.next, .own cs') ::σ.m) b=look σ.m b
  simp only [look]; rw [if_neg (by omega),if_neg (by omega)]) (by simp)
theorem grNext_get {m:List α} (h:Gr L σ v l) {b:Nat} (hb:b < σ.next) (hne: ∀len sz c,v≠ .sl b 0 len sz c):(grNext L σ v l m).get b=σ.get b:=by
 unfold grNext
 split
 ·rename_i b' off len sz c
  have hoff:off=0:=by
   rcases h with ⟨h,_⟩ | ⟨b2,h,_⟩ | h
   ·simp at h
   ·simp at h; exact h.2.1
   ·simp at h
  subst hoff
  rw [get_alloc (by rw [next_set]; exact hb),get_set (by rintro rfl; exact hne len sz c rfl)]
 ·exact get_alloc hb
end
def hasS (l:List Bs) (x:Bs):Bool:=l.any fun s=>x == s
def allowsL:List Bs→List V→List Bs
 | acc, []=>acc
 | acc,x ::r=>if (roomV x).2=true∧hasS acc (roomV x).1=false then allowsL (acc ++ [(roomV x).1]) r else allowsL acc r
end Go.Ab
namespace Go.Ab
set_option maxHeartbeats 1000000
set_option maxRecDepth 100000
def Grown (σ σ':Store):Prop:=σ.next≤σ'.next∧∀b,b < σ.next→σ'.get b=σ.get b
theorem Grown.refl (σ:Store):Grown σ σ:=⟨Nat.le_refl _,fun _ _=>rfl⟩
theorem Grown.alloc (σ:Store) (cs:List AV):Grown σ (σ.alloc cs):=⟨by simp [next_alloc],fun _ hb=>get_alloc hb⟩
theorem both_of {f:Nat} {σ:Store} (n:Nat) (h1:scall ipU (run ipU gU n) (.fn f [] []) [.nils] .empty=some (.nils, .empty)) (h2:scall ipU (run ipU gU n) (.fn f [] []) [.e0] .empty=some (.vsl [] (some 0), .empty)) :
  both ipU gU (.fn f [] []) σ=true:=by
 refine both_some.2 ⟨n,?_⟩
 have e1:pcall ipU (run ipU gU n) false true (.fn f [] []) [.nils] σ=some (.nils,σ):=by
  unfold pcall
  rw [rb_closed' rfl,mapO_closed' rfl]
  simp only [AV.er,erL,Bool.false_eq_true,if_false,h1]
  rfl
 have e2:pcall ipU (run ipU gU n) false true (.fn f [] []) [.e0] σ=some (.vsl [] (some 0),σ):=by
  unfold pcall
  rw [rb_closed' rfl,mapO_closed' rfl]
  simp only [AV.er,erL,Bool.false_eq_true,if_false,h2]
  rfl
 unfold bothWays
 rw [e1,e2]
 rfl
theorem app00 {σ:Store} {sz bytes n:Nat} {new:List AV} (hs:0 < sz) (hb:0 < bytes) (hm:n*bytes≤maxBytes) (hl:new.length=n*sz) (ho:new.all AV.one=true) (hn:0 < n) :
  appendTo σ sz bytes (.vsl [] (some 0)) new n=some (.sl σ.next 0 n sz none,σ.alloc new):=by
 unfold appendTo
 simp only [lenOf,List.length_nil,Nat.zero_add]
 rw [if_pos ⟨hs,hb,hm,hl,ho⟩,if_neg (by omega),if_pos trivial]
 rfl
theorem lenOf_vsl (l:List AV) (c:Option Nat):lenOf (.vsl l c)=some l.length:=rfl
section
variable {α:Type} {L:Lay α}
theorem Gr.cloned (σ:Store) {l:List α} (h:0 < l.length):Gr L (σ.alloc (L.cells l)) (.sl σ.next 0 l.length L.sz none) l:=
 Gr.own ⟨get_alloc_next,L.cells_len l,by simp [next_alloc],h⟩
end
theorem Gr.rbD {α:Type} {L:Lay α} {σ:Store} {v:AV} {l:List α} (h:Gr L σ v l) (d:Nat): ∃v',Go.Ab.rb σ (d+1) v=some v'∧v'.er= .vsl (l.map L.f) none:=by
 rcases h with ⟨rfl,rfl⟩ | ⟨b,rfl,h⟩ | rfl
 ·exact ⟨_,rfl,by simp only [AV.er]; rfl⟩
 ·obtain ⟨h1,h2,h3,h4⟩:=h
  refine ⟨_,rb_sl (by simp [Store.cells,h1]) h2 L.pos (L.cells_closed l) (one_notAgg (L.cells_one l)),?_⟩
  rw [L.chunks]; simp only [AV.er,L.erMap]
 ·refine ⟨_,rb_closed' (by simp only [AV.closed]; exact closedL_map fun a _=>L.closed a),?_⟩
  simp only [AV.er,L.erMap]
theorem Gr.plain {α:Type} {L:Lay α} {σ:Store} {v:AV} {l:List α} (h:Gr L σ v l):v.known=true∧v.one=true∧v.cells= [v]∧v.notAgg=true:=by
 rcases h with ⟨rfl,_⟩ | ⟨b,rfl,_⟩ | rfl <;> exact ⟨rfl,rfl,rfl,rfl⟩
def RbL (σ:Store) (d:Nat) (cs cs':List AV):Prop:=∃m,mapO (rb σ d) cs=some m∧erL m=cs'
theorem RbL.nil (σ:Store) (d:Nat):RbL σ d [] []:=⟨[],rfl,by simp only [erL]⟩
theorem RbL.clo {σ:Store} {d:Nat} {x:AV} {cs cs':List AV} (hx:x.closed=true) (h:RbL σ d cs cs'):RbL σ d (x ::cs) (x.er ::cs'):=by
 obtain ⟨m,h1,h2⟩:=h
 exact ⟨x ::m,by simp only [mapO,rb_closed' hx,h1],by simp only [erL,h2]⟩
theorem RbL.gr {α:Type} {L:Lay α} {σ:Store} {d:Nat} {v:AV} {l:List α} {cs cs':List AV} (hv:Gr L σ v l) (h:RbL σ (d+1) cs cs'):RbL σ (d+1) (v ::cs) (.vsl (l.map L.f) none ::cs'):=by
 obtain ⟨m,h1,h2⟩:=h
 obtain ⟨v',h3,h4⟩:=hv.rbD d
 exact ⟨v' ::m,by simp only [mapO,h3,h1],by simp only [erL,h2,h4]⟩
theorem RbL.agg {σ:Store} {cs cs':List AV} (h:RbL σ 23 cs cs'):rbE σ (.agg cs)=some (.agg cs'):=by
 obtain ⟨m,h1,h2⟩:=h
 unfold rbE
 by_cases hc:(AV.agg cs).closed=true
 ·have:m=cs:=by
   have hm:=mapO_closed' (σ:=σ) (d:=23) (show closedL cs=true by simpa [AV.closed] using hc)
   rw [h1] at hm
   exact Option.some.inj hm
  subst this
  rw [rb_closed' hc,Option.map_some,AV.er,h2]
 ·have e:rb σ rbDepth (.agg cs)=some (.agg m):=by
   show rb σ (23+1) (.agg cs)=_
   rw [rb,if_neg hc,h1]
  rw [e,Option.map_some,AV.er,h2]
theorem look_get {σ:Store} {b:Nat} {x:Blk} (h:σ.get b=some x):look σ.m b=some x:=h
end Go.Ab
namespace Go.Ab
set_option maxHeartbeats 1000000
set_option maxRecDepth 100000
def sEq (x y:Slt):Bool:=x.type == y.type && x.key == y.key
theorem Slt.eta (x:Slt):(⟨x.type,x.key⟩ :Slt)=x:=rfl
theorem eqs_slt (x y:Slt) (ng:Bool):eqsOf [.str, .str] ng (sltE x) (sltE y)=some (.bool (if ng then !(sEq x y) else sEq x y)):=by
 have h:eqCells [.str, .str] [.str x.type, .str x.key] [.str y.type, .str y.key]=some (sEq x y):=by
  simp only [eqCells,sEq]
  cases x.type == y.type <;> cases x.key == y.key <;> rfl
 simp only [eqsOf,sltE,List.length_cons,List.length_nil,and_self,if_true,h,Option.map_some]
def hasT (l:List Slt) (x:Slt):Bool:=l.any (sEq x)
end Go.Ab
namespace Go.Ab
set_option maxHeartbeats 1000000
def N2Fb:=J @F51_20.eq_1 (@F51.eq_1)
set_option maxRecDepth 100000
theorem r_cloneS (l:List Bs) (hb:l.length < lim) (h0:0 < l.length):cR 66 [.vsl (l.map .str) none]=some (.vsl (l.map .str) none):=by
 unfold lim at hb
 cases l with
 | nil=>simp at h0
 | cons x l=>
  have hro: ∀σ',rowOf σ' 1 (.vsl ((x ::l).map .str) none)=some (LStr.cells (x ::l)):=fun σ'=>LStr.rowOf σ' (x ::l) none
  have ha:appendTo .empty 1 16 (.vsl [] (some 0)) (LStr.cells (x ::l)) (l.length+1)=some (.sl 0 0 (l.length+1) 1 none,Store.empty.alloc (LStr.cells (x ::l))):=
   app00 (by omega) (by omega) (by unfold maxBytes; simp at hb; omega) (LStr.cells_len (x ::l)) (LStr.cells_one _) (by omega)
  have hrb:=(Gr.cloned (L:=LStr) .empty (l:=x ::l) (by simp)).rbE
  refine cR_of (F:=F66) rfl ?_
  simp only [List.map_cons] at hro
  simp only [Store.empty] at ha hrb
  simp only [F66,EXA,seval,VX,lenOf_vsl,hro,ha]
  exact hrb
theorem c_cloneS (l:List Bs) (σ:Store) (hb:l.length < lim):callM ipU gU .splitS (.fn 66 [] []) [.vsl (l.map .str) none] σ=some (.vsl (l.map .str) none,σ):=by
 cases l with
 | nil=>
  have hb2:both ipU gU (.fn 66 [] []) σ=true:=both_of 100 (by kernel_rfl) (by kernel_rfl)
  simp only [callM,List.map_nil,noItems,if_true,hb2]
 | cons x l=>
  have hn:noItems [.vsl ((x ::l).map .str) none]=false:=rfl
  have hc:closedL [.vsl ((x ::l).map AV.str) none]=true:=by simp only [closedL,AV.closed,closedL_strs,Bool.and_self]
  simp only [callM,hn,Bool.false_eq_true,if_false]
  rw [callP_closed rfl hc]
  simp only [erL,AV.er,erL_strs]
  have hr:callR ipU gU (.fn 66 [] []) [.vsl ((x ::l).map AV.str) none]=some (.vsl ((x ::l).map AV.str) none):=r_cloneS (x ::l) hb (by simp)
  rw [hr]; rfl
theorem r_copy (e:Ev) (h1:e.prev.length < lim) (h2:e.auth.length < lim):cR 52 [evE e]=some (evE e):=by
 have c1:=c_cloneS e.prev
 have c2:=c_cloneS e.auth
 refine cR_of (F:=F52) rfl ?_
 simp only [F52,EXA,seval,VX,readAt_some,c1 _ h1,c2 _ h2]
theorem idx_ev {l:List Ev} {j:Nat} {e:Ev} {c:Option Nat} (h:l[j]? =some e):idxOf 20 none (.vsl (l.map evE) c) (.int .i64 (j:Int))=some (.vptr (evE e).cells 0):=idx_map (f:=evE) h rfl
theorem r_indexE (l:List Ev) (f:AV) (p:Ev→Bool) (hf:f.closed=true) (hfe:f.er=f) (hlen:l.length < big) (hp: ∀e∈l,callR ipU gU f [evE e]=some (.bool (p e))) :
  cR 51 [.vsl (l.map evE) none,f]=some (.int .i64 (firstFrom p l 0)):=by
 unfold big at hlen
 refine cR_of (F:=F51) rfl ?_
 simp only [F51,ex_loop,EXA,seval,VX]
 refine ex_while (S:=Nat) (fun j=> [(0, .vsl (l.map evE) none),(1,f),(7, .int .i64 l.length),(8, .int .i64 (j:Int))]) (fun _=> .empty) (fun j=>l.length - j) (fun j=>firstFrom p l j=firstFrom p l 0) ?_ 0 rfl
 intro b j hj ih
 by_cases hlt:j < l.length
 ·obtain ⟨v,hv⟩:=get_lt hlt
  have hidx:=idx_ev (c:=none) hv
  have hcall:=hp v (List.mem_of_getElem? hv)
  have hcond:=dlt hlt
  simp only [N2Fb,EXA,seval,VX,readAt_some,hcond,hidx,hf,hfe,hcall]
  split
  ·rename_i hpe
   rw [←hj,firstFrom_hit hv hpe]
  ·rename_i hpe
   refine ih (j+1) _ _ (by omega) ?_ ?_ rfl
   ·rw [←firstFrom_miss hv (by simpa using hpe)]; exact hj
   ·rw [wsucc hlt (by omega)]
    simp only [EXA,seval]
 ·have hcond:=dge (Nat.not_lt.1 hlt)
  simp only [N2Fb,EXA,seval,hcond]
  rw [←hj,firstFrom_end (by omega)]
def Ev.slot (e:Ev):Slt:=⟨e.type,e.key⟩
def isAt (s:Slt) (e:Ev):Bool:=e.isState && sEq e.slot s
theorem r_of1 (s:Slt) (e:Ev):callR ipU gU (.fn 50 [] [.vptr [.str s.type, .str s.key] 0]) [evE e]=some (.bool (isAt s e)):=by
 refine callR_of (F:=F50) rfl (first:= []) (caps:= [.vptr [.str s.type, .str s.key] 0]) ?_
 simp only [F50,EXA,seval,VX,readAt_some,r_slot,Slt.eta,eqs_slt]
 unfold isAt Ev.slot
 cases e.isState <;> simp
end Go.Ab
namespace Go.Ab
set_option maxHeartbeats 1000000
def N3Fa:= @F26.eq_1
set_option maxRecDepth 100000
theorem firstFrom_find {α:Type} (p:α→Bool) (l:List α):(firstFrom p l 0= -1∧l.find? p=none)∨∃(i:Nat) (e:α),firstFrom p l 0=(i:Int)∧l[i]? =some e∧l.find? p=some e∧p e=true:=by
 unfold firstFrom
 rw [List.drop_zero]
 cases h:l.findIdx? p with
 | none=>exact .inl ⟨rfl,by rw [List.find?_eq_none]; intro x hx; have:=List.findIdx?_eq_none_iff.1 h x hx; simp [this]⟩
 | some i=>
  right
  obtain ⟨h1,h2,h3⟩:=List.findIdx?_eq_some_iff_getElem.1 h
  refine ⟨i,l[i],by simp,by simp [h1],?_,h2⟩
  rw [List.find?_eq_some_iff_getElem]
  exact ⟨h2,i,h1,rfl,fun j hj=>by simpa using h3 j hj⟩
def Ev.zero:Ev:=⟨V.mk 0 0 [] [] [], [], [], [], [], [],false,0,0, [], [],V.mk 0 0 [] [] []⟩
theorem evE_zero:evE Ev.zero= .agg [.int .i64 0, .int .i64 0, .str [], .vsl [] none, .vsl [] none, .str [], .str [], .str [], .str [], .str [], .bool false, .int .i64 0, .int .i64 0, .vsl [] none, .vsl [] none, .int .i64 0, .int .i64 0, .str [], .vsl [] none, .vsl [] none]:=rfl
def ofE (l:List Ev) (s:Slt):Ev×Bool:=match l.find? (isAt s) with
 | some e=>(e,true)
 | none=>(Ev.zero,false)
theorem ofE_some {l:List Ev} {s:Slt} {e:Ev} (h:l.find? (isAt s)=some e):ofE l s=(e,true):=by simp [ofE,h]
theorem ofE_none {l:List Ev} {s:Slt} (h:l.find? (isAt s)=none):ofE l s=(Ev.zero,false):=by simp [ofE,h]
theorem decNeg (i:Nat):decide ((i:Int) < 0)=false:=by simp
theorem r_of (l:List Ev) (s:Slt) (hlen:l.length < big) (hs: ∀e∈l,e.prev.length < lim∧e.auth.length < lim):cR 26 [.vsl (l.map evE) none,sltE s]=some (.tup [evE (ofE l s).1, .bool (ofE l s).2]):=by
 have hi:=r_indexE l (.fn 50 [] [.vptr [.str s.type, .str s.key] 0]) (isAt s) rfl (by simp only [AV.er,erL]) hlen (fun e _=>r_of1 s e)
 refine cR_of (F:=F26) rfl ?_
 rcases firstFrom_find (isAt s) l with ⟨h1,h2⟩ | ⟨i,e,h1,h2,h3,_⟩
 ·rw [h1] at hi
  have hd:decide ((-1:Int) < 0)=true:=rfl
  simp only [N3Fa,EXA,seval,VX,hi,hd,ofE_none h2,readAt_some,evE_zero]
 ·rw [h1] at hi
  have hidx:=idx_ev (c:=none) h2
  obtain ⟨q1,q2⟩:=hs e (List.mem_of_getElem? h2)
  simp only [N3Fa,EXA,seval,VX,hi,decNeg,ofE_some h3,readAt_some,hidx,r_copy e q1 q2]
theorem r_Of (l:List Ev) (s:Slt) (hlen:l.length < big) (hs: ∀e∈l,e.prev.length < lim∧e.auth.length < lim):cR 3 [.vsl (l.map evE) none,sltE s]=some (.tup [evE (ofE l s).1, .bool (ofE l s).2]):=by
 refine cR_of (F:=F3) rfl ?_
 simp only [F3,EXA,seval,VX,readAt_some,Slt.eta,r_of l s hlen hs]
end Go.Ab
