/- A region of operations answers alike in whatever order the model takes them. Conditions: none. -/
import Derived.Test.YtdfjgcdkabiljaaGreatDoorRun
set_option linter.unusedVariables false
set_option linter.unusedSimpArgs false
set_option linter.defProp false
set_option linter.unnecessarySimpa false
namespace Go.Ab
open Go.RowKit
def IOp.opds:IOp→List Opd
 | .mv x | .box x | .eqn _ _ x | .un _ x | .conv _ x | .fieldA _ x | .arr _ x | .nilc x | .sdata x | .field _ _ x | .extract x _ | .len _ x=> [x]
 | .load _ x | .loadF _ x=> [x]
 | .boxV x | .loadV _ x=> [x]
 | .new _ | .no=> []
 | .pick c a b=> [c,a,b]
 | .build _ ps=>ps.map fun p=>p.2.2
 | .buildSl _ _ _ _ ps=>ps.map fun p=>p.2
 | .buildA _ _ ps=>ps.map fun p=>p.2
 | .store _ p v | .storeS _ p v=> [p,v]
 | .bin _ x y | .eqb _ x y | .eqs _ _ x y | .append _ _ _ x y | .max2 _ x y | .idxS x y | .idxV _ _ _ x y | .eqp _ x y | .eqa _ _ x y=> [x,y]
 | .idxA _ _ x i=> [x,i]
 | .mkfn _ a c=>a ++c
 | .slice _ x lo hi mx=>x ::(lo.toList ++hi.toList ++mx.toList)
 | .sliceS x lo hi | .sliceA _ _ x lo hi=>x ::(lo.toList ++hi.toList)
 | .call _ f xs=>f ::xs
 | .ext _ xs=>xs
 | .prim _ xs=>xs
def Opd.tmps:Opd→List Nat
 | .tmp t=> [t]
 | _=> []
def IOper.names (o:IOper):List Nat:=o.op.opds.flatMap Opd.tmps ++(match o.guard with | some (t,_)=> [t] | none=> [])
def IOp.cls:IOp→Nat
 | .load .. | .loadF .. | .sliceA .. | .eqp .. | .storeS .. =>1
 | .conv .ofBytes _=>1
 | .call .strict _ _=>1
 | .call .splitS _ _=>1
 | .box _ | .new _ | .buildSl true .. =>2
 | .store .. | .append .. | .call .. | .prim .. =>3
 | _=>0
def IOp.isW:IOp→Bool
 | .store .. | .append .. =>true
 | _=>false
def IOp.isF:IOp→Bool
 | .loadF .. =>true
 | _=>false
def wmeets (p q:IOp):Bool:=p.cls == 3 && decide (1≤q.cls) && !(p.isW && q.isF)
def clash (p q:IOper):Bool:=
 (match p.dst with | some d=>q.names.contains d || q.dst == some d | none=>false) ||
 (match q.dst with | some d=>p.names.contains d | none=>false) ||
 wmeets p.op q.op || wmeets q.op p.op
def maskOf (acc:List Nat) (o:Oper):Nat:=
 o.after.toList.foldl (fun s e=>if Region.binds .any e then s ||| (2 ^ e.on ||| acc.getD e.on 0) else s) 0
def masksGo:List Oper→List Nat→List Nat
 | [],acc=>acc
 | o ::os,acc=>masksGo os (acc ++ [maskOf acc o])
def masks (ops:Array Oper):List Nat:=masksGo ops.toList []
def backward (ops:Array Oper):Bool:=(List.range ops.size).all fun j=>match ops[j]? with
 | some o=>o.after.toList.all fun e=> !Region.binds .any e || decide (e.on < j)
 | none=>true
def pairsOk (ms:List Nat) (os:List IOper):Bool:=(List.range os.length).all fun j=>(List.range j).all fun i=>match os[i]?,os[j]? with
 | some p,some q=>(ms.getD j 0).testBit i || !clash p q
 | _,_=>true
def drawOk (os:List IOper) (ops:Array Oper):Bool:=backward ops && pairsOk (masks ops) os
theorem masksGo_take: ∀(l:List Oper) (acc:List Nat),(masksGo l acc).take acc.length=acc∧(masksGo l acc).length=acc.length+l.length
 | [],acc=>by simp [masksGo]
 | o ::l,acc=>by
  obtain ⟨h1,h2⟩:=masksGo_take l (acc ++ [maskOf acc o])
  simp only [masksGo]
  refine ⟨?_,by rw [h2]; simp; omega⟩
  have:=congrArg (List.take acc.length) h1
  rw [List.take_take] at this
  simpa using this
theorem masksGo_get: ∀(l:List Oper) (acc:List Nat) (j:Nat) (o:Oper),l[j]? =some o→
  (masksGo l acc)[acc.length+j]? =some (maskOf ((masksGo l acc).take (acc.length+j)) o)
 | [],acc,j,o,h=>by simp at h
 | x ::l,acc,j,o,h=>by
  simp only [masksGo]
  cases j with
  | zero=>
   simp only [List.getElem?_cons_zero,Option.some.injEq] at h
   subst h
   obtain ⟨h1,h2⟩:=masksGo_take l (acc ++ [maskOf acc x])
   have e1:(masksGo l (acc ++ [maskOf acc x])).take acc.length=acc:=by
    have:=congrArg (List.take acc.length) h1
    rw [List.take_take] at this
    simpa using this
   rw [Nat.add_zero,e1]
   have e2:((masksGo l (acc ++ [maskOf acc x])).take (acc ++ [maskOf acc x]).length)[acc.length]? =(acc ++ [maskOf acc x])[acc.length]? :=by rw [h1]
   rw [List.getElem?_take,if_pos (by simp)] at e2
   rw [e2]; simp
  | succ j=>
   have:=masksGo_get l (acc ++ [maskOf acc x]) j o (by simpa using h)
   have e:(acc ++ [maskOf acc x]).length+j=acc.length+(j+1):=by simp; omega
   rw [e] at this
   exact this
theorem foldl_mask (acc:List Nat) (i:Nat): ∀(es:List Edge) (s:Nat),
  (es.foldl (fun s e=>if Region.binds .any e then s ||| (2 ^ e.on ||| acc.getD e.on 0) else s) s).testBit i=true→
   s.testBit i=true∨∃e∈es,Region.binds .any e=true∧(e.on=i∨(acc.getD e.on 0).testBit i=true)
 | [],s,h=> .inl h
 | e ::es,s,h=>by
  simp only [List.foldl_cons] at h
  rcases foldl_mask acc i es _ h with h | ⟨e',h1,h2⟩
  ·split at h
   ·rename_i hb
    simp only [Nat.testBit_or,Bool.or_eq_true] at h
    rcases h with h | h | h
    ·exact .inl h
    ·rw [Nat.testBit_two_pow] at h
     exact .inr ⟨e,by simp,hb, .inl (by simpa using h)⟩
    ·exact .inr ⟨e,by simp,hb, .inr h⟩
   ·exact .inl h
  ·exact .inr ⟨e',by simp [h1],h2⟩
def Pre (ops:Array Oper) (j i:Nat):Prop:=((masks ops).getD j 0).testBit i=true
theorem pre_spec {ops:Array Oper} {j i:Nat} {o:Oper} (ho:ops[j]? =some o) (h:Pre ops j i) :
  ∃e∈o.after,Region.binds .any e=true∧(e.on=i∨(e.on < j∧Pre ops e.on i)):=by
 unfold Pre masks at h
 have hg:=masksGo_get ops.toList [] j o (by simpa using ho)
 simp only [List.length_nil,Nat.zero_add] at hg
 rw [List.getD_eq_getElem?_getD,hg] at h
 simp only [Option.getD_some,maskOf] at h
 rcases foldl_mask _ i _ _ h with h | ⟨e,h1,h2,h3⟩
 ·simp at h
 ·refine ⟨e,by simpa using h1,h2,?_⟩
  rcases h3 with h3 | h3
  ·exact .inl h3
  ·right
   by_cases hlt:e.on < j
   ·refine ⟨hlt,?_⟩
    unfold Pre masks
    rw [List.getD_eq_getElem?_getD,List.getElem?_take,if_pos hlt,←List.getD_eq_getElem?_getD] at h3
    exact h3
   ·rw [List.getD_eq_getElem?_getD,List.getElem?_take,if_neg hlt] at h3
    simp at h3
def Listed (ops:Array Oper) (L:Nat→Bool):Prop:=∀j o,ops[j]? =some o→L j=true→∀e∈o.after,Region.binds .any e=true→L e.on=true
theorem pre_listed {ops:Array Oper} {L:Nat→Bool} (hL:Listed ops L): ∀(j:Nat) {i:Nat} {o:Oper},ops[j]? =some o→(∀e∈o.after,Region.binds .any e=true→L e.on=true)→Pre ops j i→L i=true:=by
 intro j
 induction j using Nat.strongRecOn with
 | _ j ih=>
  intro i o ho hr h
  obtain ⟨e,h1,h2,h3⟩:=pre_spec ho h
  rcases h3 with rfl | ⟨hlt,hp⟩
  ·exact hr e h1 h2
  ·have he:=hr e h1 h2
   cases hoe:ops[e.on]? with
   | none=>
    have:ops.size≤e.on:=by
     rcases Nat.lt_or_ge e.on ops.size with h' | h'
     ·simp [h'] at hoe
     ·exact h'
    have:j < ops.size:=(Array.getElem?_eq_some_iff.1 ho).1
    omega
   | some oe=>exact ih e.on hlt hoe (hL e.on oe hoe he) hp
theorem pairs_spec {ms:List Nat} {os:List IOper} (h:pairsOk ms os=true) {i j:Nat} (hij:i < j) {p q:IOper} (hp:os[i]? =some p) (hq:os[j]? =some q) (hc:clash p q=true) :
  (ms.getD j 0).testBit i=true:=by
 unfold pairsOk at h
 have hj:j < os.length:=(List.getElem?_eq_some_iff.1 hq).1
 have h1:=List.all_eq_true.1 h j (by simpa using hj)
 have h2:=List.all_eq_true.1 h1 i (by simpa using hij)
 rw [hp,hq] at h2
 simpa [hc] using h2
section
variable {G:Nat→List AV} {ip:Nat→Option IFunc}
theorem val_congr {fr fr':Fr} {x:Opd} (h: ∀t∈x.tmps,fr.get t=fr'.get t):val G fr x=val G fr' x:=by
 cases x with
 | tmp t=>exact h t (by simp [Opd.tmps])
 | _=>rfl
theorem doOp_congr {r:Runs} {o:IOp} {fr fr':Fr} {σ:Store} (h: ∀x∈o.opds,val G fr x=val G fr' x):doOp ip G r o fr σ=doOp ip G r o fr' σ:=by
 have hm: ∀(l:List Opd),(∀x∈l,val G fr x=val G fr' x)→l.map (val G fr)=l.map (val G fr'):=fun l hl=>List.map_congr_left hl
 have ho: ∀(l:Option Opd),(∀x∈l.toList,val G fr x=val G fr' x)→l.map (val G fr)=l.map (val G fr'):=fun l hl=>by
  cases l with
  | none=>rfl
  | some x=>simp [hl x (by simp)]
 cases o with
 | new z=>rfl
 | build z ps=>
  have:(ps.map fun (o,s,x)=>(o,s,val G fr x))=ps.map fun (o,s,x)=>(o,s,val G fr' x):=List.map_congr_left (fun p hp=>by
   obtain ⟨o,s,x⟩:=p
   simp only [IOp.opds,List.mem_map] at h
   show (o,s,val G fr x)=(o,s,val G fr' x)
   rw [h x ⟨(o,s,x),hp,rfl⟩])
  simp only [doOp,pureOp,this]
 | buildA sz z ps=>
  have:(ps.map fun (i,x)=>(i*sz,sz,val G fr x))=ps.map fun (i,x)=>(i*sz,sz,val G fr' x):=List.map_congr_left (fun p hp=>by
   obtain ⟨o,x⟩:=p
   simp only [IOp.opds,List.mem_map] at h
   show (o*sz,sz,val G fr x)=(o*sz,sz,val G fr' x)
   rw [h x ⟨(o,x),hp,rfl⟩])
  simp only [doOp,pureOp,this]
 | buildSl own sz len z ps=>
  have:(ps.map fun (i,x)=>(i*sz,sz,val G fr x))=ps.map fun (i,x)=>(i*sz,sz,val G fr' x):=List.map_congr_left (fun p hp=>by
   obtain ⟨o,x⟩:=p
   simp only [IOp.opds,List.mem_map] at h
   show (o*sz,sz,val G fr x)=(o*sz,sz,val G fr' x)
   rw [h x ⟨(o,x),hp,rfl⟩])
  cases own <;> simp only [doOp,pureOp,this]
 | mkfn f a c=>
  have h1:=hm a (fun x hx=>h x (by simp [IOp.opds,hx]))
  have h2:=hm c (fun x hx=>h x (by simp [IOp.opds,hx]))
  simp only [doOp,pureOp,h1,h2]
 | slice sz x lo hi mx=>
  have h0:=h x (by simp [IOp.opds])
  have h1:=ho lo (fun y hy=>h y (by simp [IOp.opds] at hy ⊢; simp [hy]))
  have h2:=ho hi (fun y hy=>h y (by simp [IOp.opds] at hy ⊢; simp [hy]))
  have h3:=ho mx (fun y hy=>h y (by simp [IOp.opds] at hy ⊢; simp [hy]))
  simp only [doOp,pureOp,h0,h1,h2,h3]
 | sliceS x lo hi=>
  have h0:=h x (by simp [IOp.opds])
  have h1:=ho lo (fun y hy=>h y (by simp [IOp.opds] at hy ⊢; simp [hy]))
  have h2:=ho hi (fun y hy=>h y (by simp [IOp.opds] at hy ⊢; simp [hy]))
  simp only [doOp,pureOp,h0,h1,h2]
 | sliceA n sz x lo hi=>
  have h0:=h x (by simp [IOp.opds])
  have h1:=ho lo (fun y hy=>h y (by simp [IOp.opds] at hy ⊢; simp [hy]))
  have h2:=ho hi (fun y hy=>h y (by simp [IOp.opds] at hy ⊢; simp [hy]))
  simp only [doOp,pureOp,h0,h1,h2]
 | call m f xs=>
  have h0:=h f (by simp [IOp.opds])
  have h1:=hm xs (fun x hx=>h x (by simp [IOp.opds,hx]))
  cases m <;> simp only [doOp,h0,h1]
 | no=>rfl
 | ext k xs=>
  have h1:=hm xs (fun x hx=>h x (by simp [IOp.opds,hx]))
  simp only [doOp,pureOp,h1]
 | prim k xs=>
  have h1:=hm xs (fun x hx=>h x (by simp [IOp.opds,hx]))
  simp only [doOp,h1]
 | conv c x=>
  have h0:=h x (by simp [IOp.opds])
  cases c <;> simp only [doOp,pureOp,h0]
 | pick c a b=>simp only [doOp,pureOp,h c (by simp [IOp.opds]),h a (by simp [IOp.opds]),h b (by simp [IOp.opds])]
 | store n p v=>simp only [doOp,h p (by simp [IOp.opds]),h v (by simp [IOp.opds])]
 | storeS n p v=>simp only [doOp,h p (by simp [IOp.opds]),h v (by simp [IOp.opds])]
 | bin op x y=>simp only [doOp,pureOp,h x (by simp [IOp.opds]),h y (by simp [IOp.opds])]
 | eqb n x y=>simp only [doOp,pureOp,h x (by simp [IOp.opds]),h y (by simp [IOp.opds])]
 | eqs k n x y=>simp only [doOp,pureOp,h x (by simp [IOp.opds]),h y (by simp [IOp.opds])]
 | append a b c x y=>simp only [doOp,h x (by simp [IOp.opds]),h y (by simp [IOp.opds])]
 | eqp n x y=>simp only [doOp,pureOp,h x (by simp [IOp.opds]),h y (by simp [IOp.opds])]
 | eqa m n x y=>simp only [doOp,pureOp,h x (by simp [IOp.opds]),h y (by simp [IOp.opds])]
 | nilc x=>simp only [doOp,pureOp,h x (by simp [IOp.opds])]
 | sdata x=>simp only [doOp,pureOp,h x (by simp [IOp.opds])]
 | idxV sz len n x y=>simp only [doOp,pureOp,h x (by simp [IOp.opds]),h y (by simp [IOp.opds])]
 | arr n x=>simp only [doOp,pureOp,h x (by simp [IOp.opds])]
 | max2 n x y=>simp only [doOp,pureOp,h x (by simp [IOp.opds]),h y (by simp [IOp.opds])]
 | idxS x y=>simp only [doOp,pureOp,h x (by simp [IOp.opds]),h y (by simp [IOp.opds])]
 | idxA a b x y=>simp only [doOp,pureOp,h x (by simp [IOp.opds]),h y (by simp [IOp.opds])]
 | mv x=>simp only [doOp,pureOp,h x (by simp [IOp.opds])]
 | box x=>simp only [doOp,h x (by simp [IOp.opds])]
 | load n x=>simp only [doOp,pureOp,h x (by simp [IOp.opds])]
 | boxV x=>simp only [doOp,pureOp,h x (by simp [IOp.opds])]
 | loadV n x=>simp only [doOp,pureOp,h x (by simp [IOp.opds])]
 | loadF n x=>simp only [doOp,pureOp,h x (by simp [IOp.opds])]
 | eqn k n x=>simp only [doOp,pureOp,h x (by simp [IOp.opds])]
 | un op x=>simp only [doOp,pureOp,h x (by simp [IOp.opds])]
 | fieldA n x=>simp only [doOp,pureOp,h x (by simp [IOp.opds])]
 | field o n x=>simp only [doOp,pureOp,h x (by simp [IOp.opds])]
 | extract x i=>simp only [doOp,pureOp,h x (by simp [IOp.opds])]
 | len s x=>simp only [doOp,pureOp,h x (by simp [IOp.opds])]
theorem oper_congr {r:Runs} {o:IOper} {fr fr':Fr} {σ:Store} (h: ∀t∈o.names,fr.get t=fr'.get t):wanted o.guard fr=wanted o.guard fr'∧doOp ip G r o.op fr σ=doOp ip G r o.op fr' σ:=by
 constructor
 ·unfold wanted
  cases hg:o.guard with
  | none=>rfl
  | some p=>
   obtain ⟨t,b⟩:=p
   simp only
   rw [h t (by simp [IOper.names,hg])]
 ·refine doOp_congr (fun x hx=>val_congr (fun t ht=>h t ?_))
  simp only [IOper.names,List.mem_append,List.mem_flatMap]
  exact .inl ⟨x,hx,ht⟩
def Store.le (σ τ:Store):Prop:=(∀b x,σ.get b=some x→τ.get b=some x)∧(∀b x,τ.get b=some x→σ.get b=some x∨(σ.get b=none∧∃cs,x= .own cs))∧σ.next≤τ.next∧(∀b e,(b,Blk.tag e)∈τ.m→(b,Blk.tag e)∈σ.m)
theorem Store.le_refl (σ:Store):σ.le σ:=⟨fun _ _ h=>h,fun _ _ h=> .inl h,Nat.le_refl _,fun _ _ h=>h⟩
theorem Store.le_trans {a b c:Store} (h:a.le b) (k:b.le c):a.le c:=by
 refine ⟨fun x y hx=>k.1 x y (h.1 x y hx),fun x y hx=> ?_,Nat.le_trans h.2.2.1 k.2.2.1,fun x y hx=>h.2.2.2 x y (k.2.2.2 x y hx)⟩
 rcases k.2.1 x y hx with h1 | ⟨h1,h2⟩
 ·exact h.2.1 x y h1
 ·right
  refine ⟨?_,h2⟩
  cases ha:a.get x with
  | none=>rfl
  | some z=>have:=h.1 x z ha; rw [h1] at this; simp at this
theorem cells_le {σ τ:Store} (h:σ.le τ) {b:Nat} {cs:List AV} (hc:σ.cells b=some cs):τ.cells b=some cs:=by
 unfold Store.cells at hc ⊢
 cases hg:σ.get b with
 | none=>simp [hg] at hc
 | some x=>rw [h.1 b x hg]; rw [hg] at hc; exact hc
theorem readPtr_le {σ τ:Store} (h:σ.le τ) {p:AV} {n:Option Nat} {v:AV} (hr:readPtr σ p n=some v):readPtr τ p n=some v:=by
 unfold readPtr at hr ⊢
 cases p with
 | ptr b off=>
  simp only at hr ⊢
  cases hc:σ.cells b with
  | none=>simp [hc] at hr
  | some cs=>rw [cells_le h hc]; rw [hc] at hr; exact hr
 | vptr=>exact hr
 | _=>simp at hr
def Store.fsame (σ τ:Store):Prop:=∀b cs,σ.get b=some (.frz cs)↔τ.get b=some (.frz cs)
theorem Store.fsame.refl (σ:Store):σ.fsame σ:=fun _ _=>Iff.rfl
theorem Store.fsame.trans {a b c:Store} (h:a.fsame b) (k:b.fsame c):a.fsame c:=fun x y=>(h x y).trans (k x y)
theorem Store.fsame.symm {a b:Store} (h:a.fsame b):b.fsame a:=fun x y=>(h x y).symm
theorem le_fsame {σ τ:Store} (h:σ.le τ):σ.fsame τ:=fun b cs=>⟨fun hb=>h.1 b _ hb,fun hb=>by
 rcases h.2.1 b _ hb with h1 | ⟨_,_,h2⟩
 ·exact h1
 ·simp at h2⟩
theorem readPtrF_same {σ τ:Store} (h:σ.fsame τ) {p:AV} {n:Option Nat} {v:AV} (hr:readPtrF σ p n=some v):readPtrF τ p n=some v:=by
 unfold readPtrF at hr ⊢
 split at hr
 ·split at hr
  case h_2=>simp at hr
  rename_i hg
  simp only [(h _ _).1 hg]
  exact hr
 ·exact hr
 ·exact hr
 ·exact hr
 ·simp at hr
 ·split at hr
  case h_2=>simp at hr
  rename_i hg
  simp only [(h _ _).1 hg]
  exact hr
 ·simp at hr
theorem readPtrF_le {σ τ:Store} (h:σ.le τ) {p:AV} {n:Option Nat} {v:AV} (hr:readPtrF σ p n=some v):readPtrF τ p n=some v:=readPtrF_same (le_fsame h) hr
theorem nF {o:IOp} (h:o.cls≠1):o.isF=false:=by
 cases o <;> first | rfl | (simp [IOp.cls] at h)
theorem wm {p q:IOp} (h:p.cls=3) (h1:1≤q.cls) (hF:q.isF=false):wmeets p q=true:=by simp [wmeets,h,h1,hF]
theorem wm' {p q:IOp} (h:p.cls=3) (h1:1≤q.cls) (hF:p.isW=false):wmeets p q=true:=by simp [wmeets,h,h1,hF]
theorem sliceAOf_le {σ τ:Store} (h:σ.le τ) {n sz:Nat} {x v:AV} {lo hi:Option Int} (hr:sliceAOf σ n sz x lo hi=some v):sliceAOf τ n sz x lo hi=some v:=by
 unfold sliceAOf at hr ⊢
 split at hr
 case h_2=>simp at hr
 split at hr
 case isFalse=>simp at hr
 rename_i hc
 rw [if_pos hc]
 cases x with
 | ptr b off=>
  simp only at hr ⊢
  cases hc:σ.cells b with
  | none=>simp [hc] at hr
  | some c=>rw [cells_le h hc]; rw [hc] at hr; exact hr
 | _=>exact hr
theorem rowOf_le {σ τ:Store} (h:σ.le τ) {sz:Nat} {x:AV} {cs:List AV} (hr:rowOf σ sz x=some cs):rowOf τ sz x=some cs:=by
 unfold rowOf at hr ⊢
 cases x with
 | sl b off len sz' cap=>
  simp only at hr ⊢
  split at hr
  ·rename_i hs
   rw [if_pos hs]
   cases hc:σ.cells b with
   | none=>simp [hc] at hr
   | some c=>rw [cells_le h hc]; rw [hc] at hr; exact hr
  ·simp at hr
 | _=>exact hr
theorem mapO_le {f g:AV→Option AV} (h: ∀x y,f x=some y→g x=some y): ∀ {l m:List AV},mapO f l=some m→mapO g l=some m
 | [],m,hm=>hm
 | a ::l,m,hm=>by
  simp only [mapO] at hm ⊢
  cases hf:f a with
  | none=>simp [hf] at hm
  | some b=>
   rw [h a b hf]
   rw [hf] at hm
   simp only at hm ⊢
   cases hl:mapO f l with
   | none=>simp [hl] at hm
   | some m'=>rw [mapO_le h hl]; rw [hl] at hm; exact hm
theorem rb_le {σ τ:Store} (h:σ.le τ): ∀(d:Nat) (x y:AV),rb σ d x=some y→rb τ d x=some y
 | 0,x,y,hr=>by simp only [rb] at hr ⊢; exact hr
 | d+1,x,y,hr=>by
  have ih:=rb_le h d
  simp only [rb] at hr ⊢
  split at hr
  ·rename_i hc; rw [if_pos hc]; exact hr
  ·rename_i hc
   rw [if_neg hc]
   cases x with
   | ptr b off=>
    simp only at hr ⊢
    cases hcs:σ.cells b with
    | none=>simp [hcs] at hr
    | some cs=>
     rw [cells_le h hcs]; rw [hcs] at hr
     simp only at hr ⊢
     cases hm:mapO (rb σ d) cs with
     | none=>simp [hm] at hr
     | some m=>rw [mapO_le ih hm]; rw [hm] at hr; exact hr
   | sl b off len sz cap=>
    simp only at hr ⊢
    cases hcs:σ.cells b with
    | none=>simp [hcs] at hr
    | some cs=>
     rw [cells_le h hcs]; rw [hcs] at hr
     simp only at hr ⊢
     split at hr
     ·rename_i hcond
      rw [if_pos hcond]
      cases hm:mapO (rb σ d) ((cs.drop off).take (len*sz)) with
      | none=>simp [hm] at hr
      | some m=>rw [mapO_le ih hm]; rw [hm] at hr; exact hr
     ·simp at hr
   | fn f a c=>
    simp only at hr ⊢
    cases h1:mapO (rb σ d) a with
    | none=>simp [h1] at hr
    | some a'=>
     cases h2:mapO (rb σ d) c with
     | none=>simp [h1,h2] at hr
     | some c'=>rw [mapO_le ih h1,mapO_le ih h2]; rw [h1,h2] at hr; exact hr
   | agg cs=>
    simp only at hr ⊢
    cases hm:mapO (rb σ d) cs with
    | none=>simp [hm] at hr
    | some m=>rw [mapO_le ih hm]; rw [hm] at hr; exact hr
   | tup cs=>
    simp only at hr ⊢
    cases hm:mapO (rb σ d) cs with
    | none=>simp [hm] at hr
    | some m=>rw [mapO_le ih hm]; rw [hm] at hr; exact hr
   | _=>simp at hr
theorem pcall_le {r:Runs} {ea:Bool} {f:AV} {args:List AV} {σ σ' τ:Store} (h:Store.le σ τ) {v:AV} (hd:pcall ip r ea true f args σ=some (v,σ')):σ'=σ∧pcall ip r ea true f args τ=some (v,τ):=by
 unfold pcall at hd ⊢
 split at hd
 case h_2=>simp at hd
 rename_i f' args' h1 h2
 rw [rb_le h _ _ _ h1,mapO_le (rb_le h rbDepth) h2]
 simp only
 split at hd
 case h_2=>simp at hd
 rename_i r1 σ1 hs
 split at hd
 case h_2=>simp at hd
 rename_i r' hr'
 split at hd
 ·rename_i hcond
  simp only [Option.some.injEq,Prod.mk.injEq] at hd
  obtain ⟨rfl,rfl⟩:=hd
  rw [if_pos hcond]
  exact ⟨rfl,rfl⟩
 ·simp at hd
theorem both_le {r:Runs} {f:AV} {σ τ:Store} (h:Store.le σ τ) (hd:bothWays ip r f σ=true):bothWays ip r f τ=true:=by
 unfold bothWays at hd ⊢
 split at hd
 case h_2=>simp at hd
 rename_i h1 h2
 rw [(pcall_le h h1).2,(pcall_le h h2).2]
 exact hd
theorem doOp_le {r:Runs} {o:IOp} (hc:o.cls≤1) {fr:Fr} {σ τ σ':Store} {v:AV} (h:σ.le τ) (hd:doOp ip G r o fr σ=some (v,σ')):σ'=σ∧doOp ip G r o fr τ=some (v,τ):=by
 have pure_: ∀ {o:IOp},(∀v,pureOp G o fr σ=some v→pureOp G o fr τ=some v)→(pureOp G o fr σ).map (fun v=>(v,σ))=some (v,σ')→σ'=σ∧(pureOp G o fr τ).map (fun v=>(v,τ))=some (v,τ):=by
  intro o hp hh
  simp only [Option.map_eq_some_iff,Prod.mk.injEq] at hh
  obtain ⟨v',hv,rfl,rfl⟩:=hh
  exact ⟨rfl,by rw [hp _ hv]; rfl⟩
 cases o with
 | box=>simp [IOp.cls] at hc
 | new=>simp [IOp.cls] at hc
 | store=>simp [IOp.cls] at hc
 | storeS n p x=>
  simp only [doOp] at hd ⊢
  unfold storeSOf at hd ⊢
  split at hd
  case h_2=>cases hd
  rename_i b off hb
  split at hd
  case h_2=>cases hd
  rename_i cs hcs
  split at hd <;> simp only [Option.some.injEq,Prod.mk.injEq,reduceCtorEq] at hd
  rename_i hcond
  obtain ⟨rfl,rfl⟩:=hd
  have ho:(τ.owned b).isSome=true:=by
   obtain ⟨cs',ho⟩:=Option.isSome_iff_exists.1 hcond.2.2.2
   have hg:σ.get b=some (.own cs'):=by
    unfold Store.owned at ho
    split at ho
    ·rename_i hh; rw [hh]; rw [Option.some.inj ho]
    ·cases ho
   unfold Store.owned
   rw [h.1 b _ hg]; rfl
  simp only [cells_le h hcs]
  rw [if_pos ⟨hcond.1,hcond.2.1,hcond.2.2.1,ho⟩]
  exact ⟨trivial,rfl⟩
 | append=>simp [IOp.cls] at hc
 | prim=>simp [IOp.cls] at hc
 | buildSl own sz len z ps=>
  cases own with
  | true=>simp [IOp.cls] at hc
  | false=>exact pure_ (o:= .buildSl false sz len z ps) (fun v hv=>hv) hd
 | load n p=>exact pure_ (o:= .load n p) (fun v hv=>readPtr_le h hv) hd
 | eqp neg x y=>
  refine pure_ (o:= .eqp neg x y) (fun v hv=> ?_) hd
  simp only [pureOp] at hv ⊢
  unfold eqpOf at hv ⊢
  split at hv
  ·split at hv
   ·rename_i hc
    obtain ⟨cs,hcs⟩:=Option.isSome_iff_exists.1 hc.2
    rw [if_pos ⟨hc.1,by rw [cells_le h hcs]; rfl⟩]; exact hv
   ·cases hv
  ·cases hv
 | sliceA n sz x lo hi=>
  refine pure_ (o:= .sliceA n sz x lo hi) (fun v hv=> ?_) hd
  simp only [pureOp] at hv ⊢
  split at hv
  ·exact sliceAOf_le h hv
  ·simp at hv
 | loadF n p=>exact pure_ (o:= .loadF n p) (fun v hv=>readPtrF_le h hv) hd
 | conv c x=>
  cases c with
  | ofBytes=>
   refine pure_ (o:= .conv .ofBytes x) (fun v hv=> ?_) hd
   simp only [pureOp] at hv ⊢
   cases hr:rowOf σ 1 (val G fr x) with
   | none=>simp [hr] at hv
   | some cs=>rw [rowOf_le h hr]; rw [hr] at hv; exact hv
  | int k=>exact pure_ (o:= .conv (.int k) x) (fun v hv=>hv) hd
  | same=>exact pure_ (o:= .conv .same x) (fun v hv=>hv) hd
  | toBytes=>exact pure_ (o:= .conv .toBytes x) (fun v hv=>hv) hd
  | flo=>exact pure_ (o:= .conv .flo x) (fun v hv=>hv) hd
 | call m f xs=>
  cases m with
  | shared=>simp [IOp.cls] at hc
  | pure=>simp [IOp.cls] at hc
  | strict=>
   obtain ⟨h1,h2⟩:=pcall_le h hd
   exact ⟨h1,h2⟩
  | split=>simp [IOp.cls] at hc
  | splitS=>
   simp only [doOp] at hd ⊢
   split at hd
   ·rename_i h1
    split at hd <;> simp only [Option.some.injEq,Prod.mk.injEq,reduceCtorEq] at hd
    rename_i h2
    obtain ⟨rfl,rfl⟩:=hd
    rw [if_pos h1,if_pos (both_le h h2)]
    exact ⟨rfl,rfl⟩
   ·rename_i h1
    rw [if_neg h1]
    obtain ⟨h1,h2⟩:=pcall_le h hd
    exact ⟨h1,h2⟩
 | mv x=>exact pure_ (o:= .mv x) (fun v hv=>hv) hd
 | pick c a b=>exact pure_ (o:= .pick c a b) (fun v hv=>hv) hd
 | build z ps=>exact pure_ (o:= .build z ps) (fun v hv=>hv) hd
 | buildA sz z ps=>exact pure_ (o:= .buildA sz z ps) (fun v hv=>hv) hd
 | boxV x=>exact pure_ (o:= .boxV x) (fun v hv=>hv) hd
 | loadV n x=>exact pure_ (o:= .loadV n x) (fun v hv=>hv) hd
 | bin op x y=>exact pure_ (o:= .bin op x y) (fun v hv=>hv) hd
 | eqb n x y=>exact pure_ (o:= .eqb n x y) (fun v hv=>hv) hd
 | eqn k n x=>exact pure_ (o:= .eqn k n x) (fun v hv=>hv) hd
 | eqs k n x y=>exact pure_ (o:= .eqs k n x y) (fun v hv=>hv) hd
 | un op x=>exact pure_ (o:= .un op x) (fun v hv=>hv) hd
 | mkfn f a c=>exact pure_ (o:= .mkfn f a c) (fun v hv=>hv) hd
 | slice sz x lo hi mx=>exact pure_ (o:= .slice sz x lo hi mx) (fun v hv=>hv) hd
 | sliceS x lo hi=>exact pure_ (o:= .sliceS x lo hi) (fun v hv=>hv) hd
 | fieldA off x=>exact pure_ (o:= .fieldA off x) (fun v hv=>hv) hd
 | field off n x=>exact pure_ (o:= .field off n x) (fun v hv=>hv) hd
 | idxA sz arr x i=>exact pure_ (o:= .idxA sz arr x i) (fun v hv=>hv) hd
 | idxS x i=>exact pure_ (o:= .idxS x i) (fun v hv=>hv) hd
 | extract x i=>exact pure_ (o:= .extract x i) (fun v hv=>hv) hd
 | len s x=>exact pure_ (o:= .len s x) (fun v hv=>hv) hd
 | eqa m n x y=>exact pure_ (o:= .eqa m n x y) (fun v hv=>hv) hd
 | nilc x=>exact pure_ (o:= .nilc x) (fun v hv=>hv) hd
 | sdata x=>exact pure_ (o:= .sdata x) (fun v hv=>hv) hd
 | idxV sz len n x y=>exact pure_ (o:= .idxV sz len n x y) (fun v hv=>hv) hd
 | arr n x=>exact pure_ (o:= .arr n x) (fun v hv=>hv) hd
 | max2 n x y=>exact pure_ (o:= .max2 n x y) (fun v hv=>hv) hd
 | ext k xs=>exact pure_ (o:= .ext k xs) (fun v hv=>hv) hd
 | no=>simp [doOp,pureOp] at hd
theorem doOp_makes {r:Runs} {o:IOp} (hc:o.cls=2) {fr:Fr} {σ σ':Store} {v:AV} (hd:doOp ip G r o fr σ=some (v,σ')): ∃cs,σ'=σ.alloc cs:=by
 cases o with
 | box x=>
  simp only [doOp] at hd
  split at hd <;> simp only [Option.some.injEq,Prod.mk.injEq,reduceCtorEq] at hd
  exact ⟨_,hd.2.symm⟩
 | new z=>
  simp only [doOp,Option.some.injEq,Prod.mk.injEq] at hd
  exact ⟨_,hd.2.symm⟩
 | buildSl own sz len z ps=>
  cases own with
  | false=>simp [IOp.cls] at hc
  | true=>
   simp only [doOp] at hd
   split at hd
   case h_2=>simp at hd
   split at hd <;> simp only [Option.some.injEq,Prod.mk.injEq,reduceCtorEq] at hd
   exact ⟨_,hd.2.symm⟩
 | conv c x=>cases c <;> simp [IOp.cls] at hc
 | call m f xs=>cases m <;> simp [IOp.cls] at hc
 | _=>simp [IOp.cls] at hc
end
end Go.Ab
namespace Go.Ab
open Go.RowKit
section
variable {P:Program} {fm gm:Nat→Option Nat} {G:Nat→List AV} {ip:Nat→Option IFunc}
theorem doOp_n {r:Runs} {o:IOp} (hc:o.cls=0) {fr:Fr} {σ σ':Store} (τ:Store) {v:AV} (hd:doOp ip G r o fr σ=some (v,σ')):σ'=σ∧doOp ip G r o fr τ=some (v,τ):=by
 have pure_: ∀ {o:IOp},(∀v,pureOp G o fr σ=some v→pureOp G o fr τ=some v)→(pureOp G o fr σ).map (fun v=>(v,σ))=some (v,σ')→σ'=σ∧(pureOp G o fr τ).map (fun v=>(v,τ))=some (v,τ):=by
  intro o hp hh
  simp only [Option.map_eq_some_iff,Prod.mk.injEq] at hh
  obtain ⟨v',hv,rfl,rfl⟩:=hh
  exact ⟨rfl,by rw [hp _ hv]; rfl⟩
 cases o with
 | box=>simp [IOp.cls] at hc
 | new=>simp [IOp.cls] at hc
 | store=>simp [IOp.cls] at hc
 | storeS=>simp [IOp.cls] at hc
 | append=>simp [IOp.cls] at hc
 | prim=>simp [IOp.cls] at hc
 | load=>simp [IOp.cls] at hc
 | sliceA=>simp [IOp.cls] at hc
 | eqp=>simp [IOp.cls] at hc
 | loadF=>simp [IOp.cls] at hc
 | call m=>cases m <;> simp [IOp.cls] at hc
 | buildSl own sz len z ps=>
  cases own with
  | true=>simp [IOp.cls] at hc
  | false=>exact pure_ (o:= .buildSl false sz len z ps) (fun v hv=>hv) hd
 | conv c x=>
  cases c with
  | ofBytes=>simp [IOp.cls] at hc
  | int k=>exact pure_ (o:= .conv (.int k) x) (fun v hv=>hv) hd
  | same=>exact pure_ (o:= .conv .same x) (fun v hv=>hv) hd
  | toBytes=>exact pure_ (o:= .conv .toBytes x) (fun v hv=>hv) hd
  | flo=>exact pure_ (o:= .conv .flo x) (fun v hv=>hv) hd
 | mv x=>exact pure_ (o:= .mv x) (fun v hv=>hv) hd
 | pick c a b=>exact pure_ (o:= .pick c a b) (fun v hv=>hv) hd
 | build z ps=>exact pure_ (o:= .build z ps) (fun v hv=>hv) hd
 | buildA sz z ps=>exact pure_ (o:= .buildA sz z ps) (fun v hv=>hv) hd
 | boxV x=>exact pure_ (o:= .boxV x) (fun v hv=>hv) hd
 | loadV n x=>exact pure_ (o:= .loadV n x) (fun v hv=>hv) hd
 | bin op x y=>exact pure_ (o:= .bin op x y) (fun v hv=>hv) hd
 | eqb n x y=>exact pure_ (o:= .eqb n x y) (fun v hv=>hv) hd
 | eqn k n x=>exact pure_ (o:= .eqn k n x) (fun v hv=>hv) hd
 | eqs k n x y=>exact pure_ (o:= .eqs k n x y) (fun v hv=>hv) hd
 | un op x=>exact pure_ (o:= .un op x) (fun v hv=>hv) hd
 | mkfn f a c=>exact pure_ (o:= .mkfn f a c) (fun v hv=>hv) hd
 | slice sz x lo hi mx=>exact pure_ (o:= .slice sz x lo hi mx) (fun v hv=>hv) hd
 | sliceS x lo hi=>exact pure_ (o:= .sliceS x lo hi) (fun v hv=>hv) hd
 | fieldA off x=>exact pure_ (o:= .fieldA off x) (fun v hv=>hv) hd
 | field off n x=>exact pure_ (o:= .field off n x) (fun v hv=>hv) hd
 | idxA sz arr x i=>exact pure_ (o:= .idxA sz arr x i) (fun v hv=>hv) hd
 | idxS x i=>exact pure_ (o:= .idxS x i) (fun v hv=>hv) hd
 | extract x i=>exact pure_ (o:= .extract x i) (fun v hv=>hv) hd
 | len s x=>exact pure_ (o:= .len s x) (fun v hv=>hv) hd
 | eqa m n x y=>exact pure_ (o:= .eqa m n x y) (fun v hv=>hv) hd
 | nilc x=>exact pure_ (o:= .nilc x) (fun v hv=>hv) hd
 | sdata x=>exact pure_ (o:= .sdata x) (fun v hv=>hv) hd
 | idxV sz len n x y=>exact pure_ (o:= .idxV sz len n x y) (fun v hv=>hv) hd
 | arr n x=>exact pure_ (o:= .arr n x) (fun v hv=>hv) hd
 | max2 n x y=>exact pure_ (o:= .max2 n x y) (fun v hv=>hv) hd
 | ext k xs=>exact pure_ (o:= .ext k xs) (fun v hv=>hv) hd
 | no=>simp [doOp,pureOp] at hd
section
variable {w:World} {X:Nat→Prop} {μ:Mu} {σ σ' τ:Store} {N:Nat} {fr:Fr} {a:Act} {o:Oper} {v:AV}
theorem quiet_wp (hGc: ∀g,closedL (G g)=true) (g:Given P fm gm G w X μ σ N fr a) {n m:Nat} (hSC:SCallsOk P fm gm G ip n) (hm:m < n) {io:IOp} (hcl:io.cls≤1) (hc:opChk P fm gm io o.op=true)
  (h:doOp ip G (run ip G m) io fr σ=some (v,σ')):QWp P fm X μ o a w v:=by
 have pure_: ∀ {io:IOp},opChk P fm gm io o.op=true→(pureOp G io fr σ).map (fun v=>(v,σ))=some (v,σ')→QWp P fm X μ o a w v:=by
  intro io hc h
  simp only [Option.map_eq_some_iff,Prod.mk.injEq] at h
  obtain ⟨v',hv,rfl,rfl⟩:=h
  exact .of_yld (pure_rv g hc hv)
 cases io with
 | box x=>simp [IOp.cls] at hcl
 | new z=>simp [IOp.cls] at hcl
 | store n p x=>simp [IOp.cls] at hcl
 | storeS n p x=>exact q_storeS g hc (by simpa [doOp] using h)
 | append=>simp [IOp.cls] at hcl
 | prim=>simp [IOp.cls] at hcl
 | buildSl own sz len z ps=>
  cases own with
  | false=>exact pure_ hc h
  | true=>simp [IOp.cls] at hcl
 | call sh f xs=>
  cases sh with
  | shared=>simp [IOp.cls] at hcl
  | pure=>simp [IOp.cls] at hcl
  | strict=>
   rcases o_pcall_core g hSC hm (fun w' X' hb hX=>glob_of hGc g.glob w' X' hb hX) hc h with ⟨h1,_⟩ | ⟨h1,_⟩
   ·exact h1
   ·simp at h1
  | split=>simp [IOp.cls] at hcl
  | splitS=>
   simp only [doOp] at h
   split at h
   ·rename_i h1
    split at h <;> simp only [Option.some.injEq,Prod.mk.injEq,reduceCtorEq] at h
    rename_i h2
    obtain ⟨rfl,rfl⟩:=h
    exact (o_both g hSC hm (fun w' X' hb hX=>glob_of hGc g.glob w' X' hb hX) hc h1 h2).weaken (fun _ _ hr=>er_rv hr)
   ·rcases o_pcall_core g hSC hm (fun w' X' hb hX=>glob_of hGc g.glob w' X' hb hX) hc h with ⟨h1,_⟩ | ⟨h1,_⟩
    ·exact h1
    ·simp at h1
 | _=>exact pure_ hc h
theorem makes_run (g:Given P fm gm G w X μ τ N fr a) {io:IOp} (hcl:io.cls=2) (hc:opChk P fm gm io o.op=true) {r:Runs} (h:doOp ip G r io fr σ=some (v,σ')) :
  ∃cs cv arr e,σ'=σ.alloc cs∧(execOp a.eval o).run P w= .ok (.value cv) (w.alloc (.cells arr e))∧cs.length≤arr.size∧(∀j,j < cs.length→RV fm w X μ (cs.getD j .undef) (arr.getD j Go.undef))∧
   ∀(w':World) (μ':Mu),μ' σ.next= .at w.heap.size 0 true→w'.heap[w.heap.size]? =some (.cells arr e (0,0))→RV fm w' X μ' v cv:=by
 obtain ⟨dst,op,type,pos,after,guard⟩:=o
 cases io with
 | box x=>
  simp only [doOp] at h
  split at h <;> simp only [Option.some.injEq,Prod.mk.injEq,reduceCtorEq] at h
  rename_i hk
  obtain ⟨rfl,rfl⟩:=h
  simp only [opChk] at hc
  split at hc
  case h_2=>simp at hc
  rename_i el x'
  obtain ⟨hl,hr⟩:=(val_rv g.glob g.rf hc).cells hk
  exact ⟨_, .pointer (some ⟨w.heap.size,0+0,none⟩),_,el,rfl,rfl,Nat.le_of_eq hl,fun j _=>hr j,fun w' μ' h1 _=> .ptr _ _ _ _ _ h1⟩
 | new z=>
  simp only [doOp,Option.some.injEq,Prod.mk.injEq] at h
  obtain ⟨rfl,rfl⟩:=h
  simp only [opChk] at hc
  split at hc
  case h_2=>simp at hc
  rename_i t
  obtain ⟨zv,hz1,hz2⟩:=zeroIs_run (P:=P) (fm:=fm) (w:=w) (X:=X) (μ:=μ) hc
  refine ⟨_, .pointer (some ⟨w.heap.size,0+0,none⟩),zv.cells,t,rfl,?_,Nat.le_of_eq hz2.1,fun j _=>hz2.2 j,fun w' μ' h1 _=> .ptr _ _ _ _ _ h1⟩
  simp [execOp,Instr.alloc,hz1,newVar,newRow]
 | buildSl own sz len z ps=>
  cases own with
  | false=>simp [IOp.cls] at hcl
  | true=>
   simp only [doOp] at h
   split at h
   case h_2=>simp at h
   rename_i cs hfa
   split at h <;> simp only [Option.some.injEq,Prod.mk.injEq,reduceCtorEq] at h
   rename_i hz
   obtain ⟨rfl,rfl⟩:=h
   have hc0:=hc
   simp only [opChk] at hc
   split at hc
   case h_2=>simp at hc
   rename_i t len' ps'
   have hex:execOp a.eval ⟨dst, .buildSlice t len' ps',type,pos,after,guard⟩=(do pure (.value (←Instr.buildSlice t len' (ps'.map fun (i,x)=>(i,a.eval x))))):=by
    simp only [execOp]
   obtain ⟨e,vs',h1,h2,h3⟩:=buildSl_run (w:=w) (X:=X) (μ:=μ) g.glob g.rf hc0 hz.1 hfa
   have hlen:cs.length=len*sz:=by rw [fillA_length _ _ _ hfa,rep_length,hz.1]
   have hsz:vs'.size=len*sz:=by rw [←h2.1,hlen]
   refine ⟨cs,_,vs',e,rfl,?_,Nat.le_of_eq h2.1,fun j _=>h2.2 j,fun w' μ' k1 k2=>RV.sl σ.next 0 len sz (some len) w.heap.size 0 len true vs' e (0,0) k1 k2 (by omega) (Nat.le_refl _) (.inr rfl)⟩
   rw [hex]
   simp only [Sem.run_bind,h1]
   rfl
 | conv c x=>cases c <;> simp [IOp.cls] at hcl
 | call m f xs=>cases m <;> simp [IOp.cls] at hcl
 | _=>simp [IOp.cls] at hcl
theorem born_rs (hS:RS (fm:=fm) τ w X μ) (hX: ∀b,X b→b < w.heap.size) {b:Nat} {cs:List AV} {arr:Array Value} (e:TypeId) (hb:τ.get b=some (.own cs)) (hun:μ b= .unborn) (hl:cs.length≤arr.size)
  (hr: ∀j,j < cs.length→RV fm w X μ (cs.getD j .undef) (arr.getD j Go.undef)) :
  Ext w μ (w.alloc (.cells arr e)) (μ.bind b (.at w.heap.size 0 true))∧RS (fm:=fm) τ (w.alloc (.cells arr e)) X (μ.bind b (.at w.heap.size 0 true)):=by
 have hext:Ext w μ (w.alloc (.cells arr e)) (μ.bind b (.at w.heap.size 0 true)):=by
  refine ⟨rfl,rfl,rfl,by simp,fun blk hb _=>heap_push_lt w _ hb,fun blk ar el fz hb=>⟨ar,fz,?_,rfl⟩,fun b' blk base hm=> ?_,fun b' blk base o hm=> ?_,fun b' hm=> ?_⟩
  ·have hlt:blk < w.heap.size:=by
    rcases Nat.lt_or_ge blk w.heap.size with h' | h'
    ·exact h'
    ·simp [Array.getElem?_eq_none h'] at hb
   show (w.heap.push _)[blk]? =_
   rw [heap_push_lt w _ hlt]; exact hb
  ·by_cases h:b'=b
   ·subst h; simp [Mu.bind] at hm; right; omega
   ·simp [Mu.bind,h] at hm; exact .inl ⟨b',base,hm⟩
  ·have h:b'≠b:=by rintro rfl; rw [hun] at hm; simp at hm
   right; exact ⟨o,by simp [Mu.bind,h,hm]⟩
  ·have h:b'≠b:=by rintro rfl; rw [hun] at hm; simp at hm
   simp [Mu.bind,h,hm]
 refine ⟨hext,?_⟩
 refine ⟨fun b' blk base o hm=> ?_,fun b' blk base hm=> ?_,fun b' blk base hm=> ?_,fun b1 b2 blk base base' hm hm'=> ?_,fun b' blk base o hm=> ?_,fun b' hb'=> ?_,hS.lim,fun b' hb'=> ?_,fun b' hm=> ?_,
  hS.tys.step (fun _ _ h=>h) (Nat.le_refl _) (fun b' _ _ o _ hu h=>⟨o,by
   have hne:b'≠b:=by rintro rfl; exact hu hun
   simpa [Mu.bind,hne] using h⟩) hext⟩
 ·by_cases h:b'=b
  ·simp [Mu.bind,h] at hm; simp; omega
  ·simp [Mu.bind,h] at hm; have:=hS.lt b' blk base o hm; simp; omega
 ·by_cases h:b'=b
  ·simp [Mu.bind,h] at hm
   intro hx
   have:=hX _ hx
   omega
  ·simp [Mu.bind,h] at hm; exact hS.far b' blk base hm
 ·by_cases h:b'=b
  ·simp [Mu.bind,h] at hm
  ·simp [Mu.bind,h] at hm
   exact av_ext hext (hS.lt b' blk base false hm) (hS.frz b' blk base hm)
 ·by_cases h:b1=b <;> by_cases h':b2=b
  ·rw [h,h']
  ·simp [Mu.bind,h,h'] at hm hm'; have:=hS.lt b2 blk base' true hm'; omega
  ·simp [Mu.bind,h,h'] at hm hm'; have:=hS.lt b1 blk base true hm; omega
  ·simp [Mu.bind,h,h'] at hm hm'; exact hS.inj b1 b2 blk base base' hm hm'
 ·by_cases h:b'=b
  ·simp [Mu.bind,h] at hm
   obtain ⟨rfl,rfl,rfl⟩:=hm
   subst h
   refine ⟨cs,arr,e,hb,heap_alloc_new w _,by omega,fun j hj=> ?_⟩
   rw [Nat.zero_add]
   exact (hr j hj).ext hext
  ·have hm':μ b'= .at blk base o:=by simpa [Mu.bind,h] using hm
   obtain ⟨cs',arr',e',h1,h2,h3,h4⟩:=hS.cells b' blk base o hm'
   refine ⟨cs',arr',e',h1,?_,h3,fun j hj=>(h4 j hj).ext hext⟩
   show (w.heap.push _)[blk]? =_
   rw [heap_push_lt w _ (hS.lt b' blk base o hm')]; exact h2
 ·have h:b'≠b:=by rintro rfl; rw [hb] at hb'; simp at hb'
  simp [Mu.bind,h,hS.born b' hb']
 ·have h:b'≠b:=by rintro rfl; rw [hb] at hb'; simp at hb'
  simp [Mu.bind,h,hS.gone b' hb']
 ·by_cases h:b'=b
  ·simp [Mu.bind,h] at hm
  ·exact hS.dead b' (by simpa [Mu.bind,h] using hm)
theorem RS.le (hS:RS (fm:=fm) σ w X μ) (h:σ.le τ) (hlim: ∀b x,τ.get b=some x→b < τ.next):RS (fm:=fm) τ w X μ:=by
 refine ⟨hS.lt,hS.far,hS.frz,hS.inj,fun b blk base o hm=> ?_,fun b hb=> ?_,hlim,fun b hb=> ?_,fun b hm=> ?_,hS.tys.step h.2.2.2 h.2.2.1 (fun _ _ _ o _ _ h=>⟨o,h⟩) (Ext.refl _ _)⟩
 ·obtain ⟨cs,arr,e,h1,h2⟩:=hS.cells b blk base o hm
  exact ⟨cs,arr,e,h.1 _ _ h1,h2⟩
 ·apply hS.born
  cases hg:σ.get b with
  | none=>rfl
  | some x=>have:=h.1 b x hg; rw [hb] at this; simp at this
 ·rcases h.2.1 b _ hb with h1 | ⟨_,cs,h1⟩
  ·exact hS.gone b h1
  ·simp at h1
 ·have h1:=hS.dead b hm
  cases hg:σ.get b with
  | none=>have:=hS.born b hg; rw [hm] at this; simp at this
  | some x=>
   simp only [Store.cells,hg] at h1
   simp only [Store.cells,h.1 b x hg]
   exact h1
end
structure Trace (ip:Nat→Option IFunc) (G:Nat→List AV) (n:Nat) (os:List IOper) (fr:Fr) (σ:Store) (fr':Fr) (σ':Store) where
 frs:Nat→Fr
 sts:Nat→Store
 phi:Nat→AV
 f0:frs 0=fr
 s0:sts 0=σ
 fn:frs os.length=fr'
 sn:sts os.length=σ'
 put: ∀i io,os[i]? =some io→frs (i+1)=(frs i).put io.dst (phi i)
 step: ∀i io,os[i]? =some io→(wanted io.guard (frs i)=some false∧phi i= .tup []∧sts (i+1)=sts i)∨
  (wanted io.guard (frs i)=some true∧∃m,m < n∧doOp ip G (run ip G m) io.op (frs i) (sts i)=some (phi i,sts (i+1)))
theorem OpsEx.trace {n:Nat} {os:List IOper} {fr fr':Fr} {σ σ':Store} (h:OpsEx ip G n os fr σ fr' σ'):Nonempty (Trace ip G n os fr σ fr' σ'):=by
 induction h with
 | nil fr σ=>exact ⟨⟨fun _=>fr,fun _=>σ,fun _=> .undef,rfl,rfl,rfl,rfl,fun i io h=>by simp at h,fun i io h=>by simp at h⟩⟩
 | step o os fr fr' σ σ1 σ' v m hm hw hd _ ih=>
  obtain ⟨t⟩:=ih
  refine ⟨⟨fun i=>match i with | 0=>fr | i+1=>t.frs i,fun i=>match i with | 0=>σ | i+1=>t.sts i,fun i=>match i with | 0=>v | i+1=>t.phi i,rfl,rfl,t.fn,t.sn,fun i io h=> ?_,fun i io h=> ?_⟩⟩
  ·cases i with
   | zero=>simp only [List.getElem?_cons_zero,Option.some.injEq] at h; subst h; exact t.f0
   | succ i=>exact t.put i io (by simpa using h)
  ·cases i with
   | zero=>
    simp only [List.getElem?_cons_zero,Option.some.injEq] at h
    subst h
    right
    refine ⟨hw,m,hm,?_⟩
    show doOp ip G (run ip G m) o.op fr σ=some (v,t.sts 0)
    rw [t.s0]; exact hd
   | succ i=>exact t.step i io (by simpa using h)
 | skip o os fr fr' σ σ' hw _ ih=>
  obtain ⟨t⟩:=ih
  refine ⟨⟨fun i=>match i with | 0=>fr | i+1=>t.frs i,fun i=>match i with | 0=>σ | i+1=>t.sts i,fun i=>match i with | 0=> .tup [] | i+1=>t.phi i,rfl,rfl,t.fn,t.sn,fun i io h=> ?_,fun i io h=> ?_⟩⟩
  ·cases i with
   | zero=>simp only [List.getElem?_cons_zero,Option.some.injEq] at h; subst h; exact t.f0
   | succ i=>exact t.put i io (by simpa using h)
  ·cases i with
   | zero=>
    simp only [List.getElem?_cons_zero,Option.some.injEq] at h
    subst h
    left
    exact ⟨hw,rfl,t.s0⟩
   | succ i=>exact t.step i io (by simpa using h)
end
end Go.Ab
namespace Go.Ab
open Go.RowKit
section
variable {P:Program} {fm gm:Nat→Option Nat} {G:Nat→List AV} {ip:Nat→Option IFunc}
variable {n N:Nat} {os:List IOper} {ops:Array Oper} {fr fr':Fr} {σ σ':Store}
def dstOf (os:List IOper) (j:Nat):Option Nat:=(os[j]?).bind (·.dst)
def frOf (os:List IOper) (fr:Fr) (phi:Nat→AV) (L:Nat→Bool):Nat→Fr
 | 0=>fr
 | k+1=>if L k then (frOf os fr phi L k).put (dstOf os k) (phi k) else frOf os fr phi L k
theorem put_get (fr:Fr) (dst:Option Nat) (v:AV) (t:Nat):(fr.put dst v).get t=if dst=some t then v else fr.get t:=by
 cases dst with
 | none=>simp [Fr.put]
 | some d=>
  simp only [Fr.put,Fr.get,look_cons,Option.some.injEq]
  by_cases h:d=t
  ·rw [if_pos h,if_pos h]; rfl
  ·rw [if_neg h,if_neg h]
theorem frOf_congr (phi:Nat→AV) {L L':Nat→Bool} (t:Nat): ∀(k:Nat),(∀j,j < k→dstOf os j=some t→L j=L' j)→(frOf os fr phi L k).get t=(frOf os fr phi L' k).get t
 | 0,_=>rfl
 | k+1,h=>by
  have ih:=frOf_congr phi t k (fun j hj hd=>h j (by omega) hd)
  simp only [frOf]
  by_cases hd:dstOf os k=some t
  ·rw [h k (by omega) hd]
   split
   ·rw [put_get,put_get,if_pos hd,if_pos hd]
   ·exact ih
  ·split <;> split <;> (try simp only [put_get,if_neg hd]) <;> exact ih
theorem frOf_stop (phi:Nat→AV) {L:Nat→Bool} (t:Nat) (i:Nat): ∀(k:Nat),i≤k→(∀j,i≤j→j < k→dstOf os j=some t→L j=false)→(frOf os fr phi L k).get t=(frOf os fr phi L i).get t
 | 0,h,_=>by
  have:i=0:=by omega
  subst this; rfl
 | k+1,h,hh=>by
  by_cases hik:i=k+1
  ·subst hik; rfl
  ·have ih:=frOf_stop phi t i k (by omega) (fun j h1 h2 hd=>hh j h1 (by omega) hd)
   simp only [frOf]
   split
   ·rename_i hl
    have hd:dstOf os k≠some t:=fun hd=>by rw [hh k (by omega) (by omega) hd] at hl; simp at hl
    rw [put_get,if_neg hd]; exact ih
   ·exact ih
theorem trace_frs (T:Trace ip G n os fr σ fr' σ'): ∀(k:Nat),k≤os.length→T.frs k=frOf os fr T.phi (fun _=>true) k
 | 0,_=>T.f0
 | k+1,h=>by
  have hk:k < os.length:=by omega
  have h1:=T.put k os[k] (List.getElem?_eq_getElem hk)
  rw [h1,trace_frs T k (by omega)]
  simp [frOf,dstOf,List.getElem?_eq_getElem hk]
theorem opers_get: ∀ {os:List IOper} {l:List Oper},opersChk P fm gm N ops os l=true→os.length=l.length∧∀(i:Nat) (io:IOper),os[i]? =some io→∃o:Oper,l[i]? =some o∧operChk P fm gm N ops io o=true
 | [], [],_=>⟨rfl,fun i io h=>by simp at h⟩
 | io ::os,o ::l,h=>by
  simp only [opersChk,Bool.and_eq_true] at h
  obtain ⟨h1,h2⟩:=opers_get h.2
  refine ⟨by simp [h1],fun i x hx=> ?_⟩
  cases i with
  | zero=>simp only [List.getElem?_cons_zero,Option.some.injEq] at hx; subst hx; exact ⟨o,rfl,h.1⟩
  | succ i=>exact h2 i x (by simpa using hx)
 | [],_ ::_,h=>by simp [opersChk] at h
 | _ ::_, [],h=>by simp [opersChk] at h
def Store.Lim (σ:Store):Prop:=∀b x,σ.get b=some x→b < σ.next
theorem lim_alloc {σ:Store} (h:σ.Lim) (cs:List AV):(σ.alloc cs).Lim:=by
 intro b x hb
 rw [alloc_get] at hb
 show b < σ.next+1
 by_cases hbn:b=σ.next
 ·omega
 ·rw [if_neg hbn] at hb; have:=h b x hb; omega
theorem lim_set {σ:Store} (h:σ.Lim) {b0:Nat} {y:Blk} (hb0:b0 < σ.next):(σ.set b0 y).Lim:=by
 intro b x hb
 rw [set_get] at hb
 show b < σ.next
 by_cases hbn:b=b0
 ·omega
 ·rw [if_neg hbn] at hb; exact h b x hb
theorem lim_freeze {σ:Store} (h:σ.Lim):σ.freeze.Lim:=by
 intro b x hb
 rw [freeze_get] at hb
 cases hg:σ.get b with
 | none=>simp [hg] at hb
 | some y=>exact h b y hg
theorem lim_owned {σ:Store} (h:σ.Lim) {b:Nat} {cs:List AV} (ho:σ.owned b=some cs):b < σ.next:=by
 unfold Store.owned at ho
 cases hg:σ.get b with
 | none=>simp [hg] at ho
 | some y=>exact h b y hg
theorem lim_freeze1 {σ:Store} (h:σ.Lim) (b0:Nat):(σ.freeze1 b0).Lim:=by
 unfold Store.freeze1
 split
 ·rename_i cs hg
  exact lim_set h (h _ _ hg)
 ·exact h
theorem lim_freezeV {σ:Store} (h:σ.Lim) (v:AV):(σ.freezeV v).Lim:=by
 unfold Store.freezeV
 split
 ·exact lim_freeze1 h _
 ·exact lim_freeze1 h _
 ·exact h
theorem lim_freezeTs {fr:Fr}: ∀(ts:List Nat) {σ:Store},σ.Lim→(freezeTs fr ts σ).Lim
 | [],_,h=>h
 | t ::ts,_,h=>lim_freezeTs ts (lim_freezeV h (fr.get t))
theorem fsame_alloc {σ:Store} (h:σ.Lim) (cs:List AV):σ.fsame (σ.alloc cs):=by
 intro b c
 rw [alloc_get]
 by_cases hb:b=σ.next
 ·subst hb
  rw [if_pos rfl]
  constructor
  ·intro hg; exact absurd (h _ _ hg) (Nat.lt_irrefl _)
  ·intro hg; simp at hg
 ·rw [if_neg hb]
theorem fsame_set {σ:Store} {b0:Nat} {y:Blk} {cs:List AV} (ho:σ.owned b0=some cs) (hy: ∀c,y≠ .frz c):σ.fsame (σ.set b0 y):=by
 intro b c
 rw [set_get]
 by_cases hb:b=b0
 ·subst hb
  rw [if_pos rfl]
  constructor
  ·intro hg; simp [Store.owned,hg] at ho
  ·intro hg; simp only [Option.some.injEq] at hg; exact absurd hg (hy c)
 ·rw [if_neg hb]
theorem append_fsame {σ:Store} {sz bytes n:Nat} {x:AV} {new:List AV} {y:AV×Store} (hl:σ.Lim) (h:appendTo σ sz bytes x new n=some y):σ.fsame y.2:=by
 unfold appendTo at h
 split at h
 ·simp at h
 ·split at h
  case isFalse=>simp at h
  split at h
  ·split at h <;> simp only [Option.some.injEq,reduceCtorEq] at h
   subst h; exact .refl _
  ·split at h <;> simp only [Option.some.injEq] at h <;> subst h
   ·exact .refl _
   ·exact fsame_alloc hl _
  ·split at h
   ·simp only [Option.some.injEq] at h; subst h; exact .refl _
   split at h
   case isFalse=>simp at h
   split at h <;> simp only [Option.some.injEq,reduceCtorEq] at h
   subst h; exact fsame_alloc hl _
  ·split at h
   case isFalse=>simp at h
   split at h
   case h_2=>simp at h
   rename_i ho
   split at h
   ·simp only [Option.some.injEq] at h; subst h; exact .refl _
   ·split at h <;> simp only [Option.some.injEq,reduceCtorEq] at h
    subst h
    exact (fsame_set ho (fun c=>by simp)).trans (fsame_alloc (lim_set hl (lim_owned hl ho)) _)
  ·split at h
   ·simp only [Option.some.injEq] at h; subst h; exact .refl _
   split at h
   case isFalse=>simp at h
   split at h <;> simp only [Option.some.injEq,reduceCtorEq] at h
   subst h; exact fsame_alloc hl _
  ·simp at h
theorem isW_fsame {r:Runs} {o:IOp} (hW:o.isW=true) {fr:Fr} {σ:Store} {x:AV×Store} (hl:σ.Lim) (h:doOp ip G r o fr σ=some x):σ.fsame x.2:=by
 cases o with
 | store n p v=>
  simp only [doOp] at h
  split at h
  case h_2=>simp at h
  split at h
  case h_2=>simp at h
  rename_i ho
  split at h <;> simp only [Option.some.injEq,reduceCtorEq] at h
  subst h
  exact fsame_set ho (fun c=>by simp)
 | append sz bytes str p q=>
  simp only [doOp] at h
  split at h
  ·split at h
   case h_2=>simp at h
   split at h
   case isFalse=>simp at h
   exact append_fsame hl h
  ·split at h
   case h_2=>simp at h
   exact append_fsame hl h
 | _=>simp [IOp.isW] at hW
def RunLim (r:Runs):Prop:=∀k fr σ x,σ.Lim→r k fr σ=some x→x.2.Lim
theorem scall_lim {r:Runs} (hr:RunLim r) {f:AV} {args:List AV} {σ:Store} {x:AV×Store} (hl:σ.Lim) (h:scall ip r f args σ=some x):x.2.Lim:=by
 unfold scall at h
 cases f with
 | fn id first caps=>
  simp only at h
  cases hF:ip id with
  | none=>simp [hF] at h
  | some F=>
   simp only [hF] at h
   cases hrr:r [.code F.body] (initFr (first ++args ++caps)) σ with
   | none=>rw [hrr] at h; simp at h
   | some y=>
    rw [hrr] at h
    obtain ⟨fr1,σ1⟩:=y
    simp only at h
    split at h <;> simp only [Option.some.injEq,reduceCtorEq] at h
    subst h
    exact hr _ _ _ _ hl hrr
 | _=>simp at h
theorem pcall_lim {r:Runs} {ea st:Bool} {f:AV} {args:List AV} {σ:Store} {x:AV×Store} (hl:σ.Lim) (h:pcall ip r ea st f args σ=some x):x.2.Lim:=by
 unfold pcall at h
 split at h
 case h_2=>simp at h
 split at h
 case h_2=>simp at h
 split at h
 case h_2=>simp at h
 split at h
 ·simp only [Option.some.injEq] at h; subst h; exact hl
 ·split at h <;> simp only [Option.some.injEq,reduceCtorEq] at h
  subst h; exact lim_freeze hl
theorem append_lim {σ:Store} {sz bytes n:Nat} {x:AV} {new:List AV} {y:AV×Store} (hl:σ.Lim) (h:appendTo σ sz bytes x new n=some y):y.2.Lim:=by
 unfold appendTo at h
 split at h
 ·simp at h
 ·split at h
  case isFalse=>simp at h
  split at h
  ·split at h <;> simp only [Option.some.injEq,reduceCtorEq] at h
   subst h; exact hl
  ·split at h <;> simp only [Option.some.injEq] at h <;> subst h
   ·exact hl
   ·exact lim_alloc hl _
  ·split at h
   ·simp only [Option.some.injEq] at h; subst h; exact hl
   split at h
   case isFalse=>simp at h
   split at h <;> simp only [Option.some.injEq,reduceCtorEq] at h
   subst h; exact lim_alloc hl _
  ·split at h
   case isFalse=>simp at h
   split at h
   case h_2=>simp at h
   rename_i ho
   split at h
   ·simp only [Option.some.injEq] at h; subst h; exact hl
   ·split at h <;> simp only [Option.some.injEq,reduceCtorEq] at h
    subst h
    exact lim_alloc (lim_set hl (lim_owned hl ho)) _
  ·split at h
   ·simp only [Option.some.injEq] at h; subst h; exact hl
   split at h
   case isFalse=>simp at h
   split at h <;> simp only [Option.some.injEq,reduceCtorEq] at h
   subst h; exact lim_alloc hl _
  ·simp at h
theorem lim_tag {σ:Store} (h:σ.Lim) {b0 e:Nat} (hb0:b0 < σ.next):(σ.addTag b0 e).Lim:=by
 intro b x hb
 show b < σ.next
 unfold Store.get Store.addTag at hb
 rw [look_append] at hb
 cases hl:look σ.m b with
 | some y=>exact h b y hl
 | none=>
  rw [hl] at hb
  simp only [look] at hb
  split at hb
  ·rename_i e; rw [←e]; exact hb0
  ·cases hb
theorem append_next {σ:Store} {sz bytes n:Nat} {x:AV} {new:List AV} {y:AV×Store} (hn: ¬n=0) (h:appendTo σ sz bytes x new n=some y):σ.next < y.2.next:=by
 unfold appendTo at h
 split at h
 ·cases h
 split at h
 case isFalse=>cases h
 split at h
 ·(try rw [if_neg hn] at h); cases h
 ·try rw [if_neg hn] at h
  simp only [Option.some.injEq] at h; subst h; exact Nat.lt_succ_self _
 ·try rw [if_neg hn] at h
  split at h
  case isFalse=>cases h
  split at h <;> simp only [Option.some.injEq,reduceCtorEq] at h
  subst h; exact Nat.lt_succ_self _
 ·split at h
  case isFalse=>cases h
  split at h
  case h_2=>cases h
  try rw [if_neg hn] at h
  split at h
  case isFalse=>cases h
  simp only [Option.some.injEq] at h; subst h; exact Nat.lt_succ_self _
 ·try rw [if_neg hn] at h
  split at h
  case isFalse=>cases h
  split at h <;> simp only [Option.some.injEq,reduceCtorEq] at h
  subst h; exact Nat.lt_succ_self _
 ·cases h
theorem lim_appT {σ:Store} {e sz bytes n:Nat} {x:AV} {new:List AV} {y:AV×Store} (hl:σ.Lim) (h:appTOf σ e sz bytes x new n=some y):y.2.Lim:=by
 unfold appTOf at h
 split at h
 ·cases h
 rename_i hn
 split at h
 ·obtain ⟨⟨v,τ⟩,h2,h3⟩:=Option.map_eq_some_iff.1 h
  rw [←h3]; exact lim_tag (append_lim hl h2) (append_next hn h2)
 ·split at h
  case isFalse=>cases h
  obtain ⟨⟨v,τ⟩,h2,h3⟩:=Option.map_eq_some_iff.1 h
  rw [←h3]; exact lim_tag (append_lim hl h2) (append_next hn h2)
 ·cases h
theorem prim_lim {σ:Store} {k:PrimK} {xs:List AV} {y:AV×Store} (hl:σ.Lim) (h:primOf k σ xs=some y):y.2.Lim:=by
 unfold primOf at h
 split at h
 ·unfold insertTo at h
  split at h
  case h_2=>simp at h
  split at h
  ·split at h
   ·exact append_lim hl h
   ·simp at h
  ·split at h
   case h_2=>simp at h
   split at h
   case h_2=>simp at h
   rename_i ho _
   split at h <;> simp only [Option.some.injEq,reduceCtorEq] at h
   subst h
   exact lim_alloc (lim_set hl (lim_owned hl ho)) _
 ·unfold makeSlOf at h
  split at h
  case isFalse=>simp at h
  split at h <;> simp only [Option.some.injEq] at h <;> subst h
  ·exact hl
  ·exact lim_alloc hl _
 ·unfold clearOf at h
  split at h
  ·simp only [Option.some.injEq] at h; subst h; exact hl
  ·simp only [Option.some.injEq] at h; subst h; exact hl
  ·simp only [Option.some.injEq] at h; subst h; exact hl
  ·split at h
   case h_2=>simp at h
   rename_i ho
   split at h <;> simp only [Option.some.injEq,reduceCtorEq] at h
   subst h
   exact lim_set hl (lim_owned hl ho)
  ·simp at h
 ·unfold copyOf at h
  split at h
  case h_2=>simp at h
  split at h
  ·split at h
   ·simp at h
   simp only [Option.some.injEq] at h; subst h; exact hl
  ·split at h
   case h_2=>simp at h
   split at h
   case h_2=>simp at h
   rename_i ho
   split at h <;> simp only [Option.some.injEq,reduceCtorEq] at h
   subst h
   exact lim_set hl (lim_owned hl ho)
 ·split at h <;> simp only [Option.some.injEq,reduceCtorEq] at h
  subst h
  exact lim_tag (lim_alloc hl _) (Nat.lt_succ_self _)
 ·split at h
  case isFalse=>simp at h
  exact lim_appT hl h
 ·split at h
  case h_2=>simp at h
  split at h
  ·simp at h
  exact lim_appT hl h
 ·unfold mkNZOf at h
  split at h <;> simp only [Option.some.injEq,reduceCtorEq] at h
  subst h
  exact lim_alloc hl _
 ·unfold cvpOf at h
  split at h
  case h_2=>simp at h
  split at h
  case isFalse=>simp at h
  split at h
  case h_2=>simp at h
  split at h <;> simp only [Option.some.injEq,reduceCtorEq] at h
  subst h; exact hl
 ·unfold ustrOf at h
  split at h
  case h_2=>simp at h
  split at h
  case isFalse=>simp at h
  split at h
  case h_2=>simp at h
  rename_i ho
  split at h
  case isFalse=>simp at h
  split at h <;> simp only [Option.some.injEq,reduceCtorEq] at h
  subst h
  exact lim_set hl (lim_owned hl ho)
 ·simp at h
theorem doOp_lim {r:Runs} (hr:RunLim r) {o:IOp} {fr:Fr} {σ:Store} {x:AV×Store} (hl:σ.Lim) (h:doOp ip G r o fr σ=some x):x.2.Lim:=by
 by_cases hc1:o.cls≤1
 ·obtain ⟨v,σ'⟩:=x
  rw [(doOp_le hc1 (Store.le_refl _) h).1]; exact hl
 by_cases hc2:o.cls=2
 ·obtain ⟨v,σ'⟩:=x
  obtain ⟨cs,rfl⟩:=doOp_makes hc2 h
  exact lim_alloc hl cs
 cases o with
 | store n p v=>
  simp only [doOp] at h
  split at h
  case h_2=>simp at h
  split at h
  case h_2=>simp at h
  rename_i ho
  split at h <;> simp only [Option.some.injEq,reduceCtorEq] at h
  subst h
  exact lim_set hl (lim_owned hl ho)
 | append sz bytes str p q=>
  simp only [doOp] at h
  split at h
  ·split at h
   case h_2=>simp at h
   split at h
   case isFalse=>simp at h
   exact append_lim hl h
  ·split at h
   case h_2=>simp at h
   exact append_lim hl h
 | prim k xs=>exact prim_lim hl h
 | call m f xs=>
  cases m with
  | shared=>exact scall_lim hr hl h
  | pure=>exact pcall_lim hl h
  | strict=>exact pcall_lim hl h
  | split=>
   simp only [doOp] at h
   split at h
   ·split at h <;> simp only [Option.some.injEq,reduceCtorEq] at h
    subst h; exact hl
   ·exact scall_lim hr hl h
  | splitS=>
   simp only [doOp] at h
   split at h
   ·split at h <;> simp only [Option.some.injEq,reduceCtorEq] at h
    subst h; exact hl
   ·exact pcall_lim hl h
 | buildSl own=>cases own <;> simp [IOp.cls] at hc1 hc2
 | conv c=>cases c <;> simp [IOp.cls] at hc1
 | _=>simp [IOp.cls] at hc1 hc2
theorem run_lim: ∀n,RunLim (run ip G n)
 | 0=>by intro k fr σ x _ h; simp [run] at h
 | n+1=>by
  have ih:=run_lim n
  intro k fr σ x hl h
  cases k with
  | nil=>simp only [run,Option.some.injEq] at h; subst h; exact hl
  | cons it k=>
   cases it with
   | inBlock id=>rw [run] at h; exact ih _ _ _ _ hl h
   | inLoop l c=>rw [run] at h; exact ih _ _ _ _ hl h
   | ops l=>
    cases l with
    | nil=>rw [run] at h; exact ih _ _ _ _ hl h
    | cons o os=>
     rw [run] at h
     split at h
     ·split at h
      case h_2=>simp at h
      rename_i v σ' hd
      exact ih _ _ _ _ (doOp_lim ih hl hd) h
     ·exact ih _ _ _ _ hl h
     ·simp at h
   | code c=>
    cases c with
    | stop=>simp [run] at h
    | skip=>rw [run] at h; exact ih _ _ _ _ hl h
    | region ops=>rw [run] at h; exact ih _ _ _ _ hl h
    | seq a b=>rw [run] at h; exact ih _ _ _ _ hl h
    | cond c a b=>
     rw [run] at h
     split at h
     ·exact ih _ _ _ _ hl h
     ·simp at h
    | block id c=>rw [run] at h; exact ih _ _ _ _ hl h
    | loop l c=>rw [run] at h; exact ih _ _ _ _ hl h
    | keep l c=>rw [run] at h; exact ih _ _ _ _ hl h
    | arity m c=>
     rw [run] at h
     split at h
     ·exact ih _ _ _ _ hl h
     ·simp at h
    | frz l c=>rw [run] at h; exact ih _ _ _ _ (lim_freezeTs l hl) h
    | exit id=>
     rw [run] at h
     split at h
     ·exact ih _ _ _ _ hl h
     ·simp at h
    | ret=>simp only [run,Option.some.injEq] at h; subst h; exact hl
theorem trace_lim (T:Trace ip G n os fr σ fr' σ') (h:σ.Lim): ∀k,k≤os.length→(T.sts k).Lim
 | 0,_=>by rw [T.s0]; exact h
 | k+1,hk=>by
  have ih:=trace_lim T h k (by omega)
  rcases T.step k _ (List.getElem?_eq_getElem (by omega:k < os.length)) with ⟨_,_,e⟩ | ⟨_,m,_,hd⟩
  ·rw [e]; exact ih
  ·exact doOp_lim (run_lim m) ih hd
def writes (os:List IOper) (j:Nat):Prop:=∃io,os[j]? =some io∧io.op.cls=3
theorem trace_le (T:Trace ip G n os fr σ fr' σ') {i:Nat}: ∀(k:Nat),i≤k→k≤os.length→(∀j,i≤j→j < k→¬writes os j)→(∀b x,(T.sts i).get b=some x→b < (T.sts i).next)→
  (T.sts i).le (T.sts k)∧(T.sts i).next≤(T.sts k).next∧∀b x,(T.sts k).get b=some x→b < (T.sts k).next:=by
 intro k
 induction k with
 | zero=>
  intro h _ _ hl; have:i=0:=by omega
  subst this; exact ⟨Store.le_refl _,Nat.le_refl _,hl⟩
 | succ k ih=>
  intro h hk hw hl
  by_cases hik:i=k+1
  ·subst hik; exact ⟨Store.le_refl _,Nat.le_refl _,hl⟩
  ·obtain ⟨h1,h2,h3⟩:=ih (by omega) (by omega) (fun j a b=>hw j a (by omega)) hl
   have hkl:k < os.length:=by omega
   have hio:=List.getElem?_eq_getElem hkl
   have same:T.sts (k+1)=T.sts k→(T.sts i).le (T.sts (k+1))∧(T.sts i).next≤(T.sts (k+1)).next∧∀b x,(T.sts (k+1)).get b=some x→b < (T.sts (k+1)).next:=fun e=>by rw [e]; exact ⟨h1,h2,h3⟩
   rcases T.step k os[k] hio with ⟨_,_,e⟩ | ⟨_,m,hm,hd⟩
   ·exact same e
   ·have hnw:os[k].op.cls≠3:=fun hc=>hw k (by omega) (by omega) ⟨os[k],hio,hc⟩
    by_cases hc1:os[k].op.cls≤1
    ·exact same (doOp_le hc1 (Store.le_refl _) hd).1
    ·have hc2:os[k].op.cls=2:=by
      have:os[k].op.cls≤3:=by
       cases hop:os[k].op <;> simp [IOp.cls]
       all_goals (split <;> omega)
      omega
     obtain ⟨cs,e⟩:=doOp_makes hc2 hd
     have hnone:(T.sts k).get (T.sts k).next=none:=by
      cases hg:(T.sts k).get (T.sts k).next with
      | none=>rfl
      | some x=>exact absurd (h3 _ _ hg) (Nat.lt_irrefl _)
     refine ⟨Store.le_trans h1 ?_,by rw [e]; show _≤(T.sts k).next+1; omega,fun b x hb=> ?_⟩
     ·rw [e]
      refine ⟨fun b x hb=> ?_,fun b x hb=> ?_,Nat.le_succ _,fun _ _ h=>mem_push (fun _=>by simp) h⟩
      ·rw [alloc_get,if_neg]
       ·exact hb
       ·rintro rfl; rw [hnone] at hb; simp at hb
      ·rw [alloc_get] at hb
       by_cases hbn:b=(T.sts k).next
       ·rw [if_pos hbn] at hb
        simp only [Option.some.injEq] at hb
        exact .inr ⟨by rw [hbn]; exact hnone,cs,hb.symm⟩
       ·rw [if_neg hbn] at hb; exact .inl hb
     ·rw [e] at hb ⊢
      rw [alloc_get] at hb
      show b < (T.sts k).next+1
      by_cases hbn:b=(T.sts k).next
      ·omega
      ·rw [if_neg hbn] at hb; have:=h3 b x hb; omega
theorem trace_fsame (T:Trace ip G n os fr σ fr' σ') (hlim: ∀k,k≤os.length→(T.sts k).Lim) {i:Nat}: ∀(k:Nat),i≤k→k≤os.length→
  (∀(j:Nat) (jo:IOper),i≤j→j < k→os[j]? =some jo→jo.op.cls=3→jo.op.isW=true)→(T.sts i).fsame (T.sts k):=by
 intro k
 induction k with
 | zero=>
  intro h _ _; have:i=0:=by omega
  subst this; exact .refl _
 | succ k ih=>
  intro h hk hw
  by_cases hik:i=k+1
  ·subst hik; exact .refl _
  ·have h1:=ih (by omega) (by omega) (fun j jo a b=>hw j jo a (by omega))
   have hkl:k < os.length:=by omega
   have hio:=List.getElem?_eq_getElem hkl
   refine h1.trans ?_
   rcases T.step k os[k] hio with ⟨_,_,e⟩ | ⟨_,m,hm,hd⟩
   ·rw [e]; exact .refl _
   ·by_cases hc1:os[k].op.cls≤1
    ·rw [(doOp_le hc1 (Store.le_refl _) hd).1]; exact .refl _
    by_cases hc2:os[k].op.cls=2
    ·obtain ⟨cs,e⟩:=doOp_makes hc2 hd
     rw [e]; exact fsame_alloc (hlim k (by omega)) cs
    ·have hc3:os[k].op.cls=3:=by
      have:os[k].op.cls≤3:=by
       cases hop:os[k].op <;> simp [IOp.cls]
       all_goals (split <;> omega)
      omega
     exact isW_fsame (hw k _ (by omega) (by omega) hio hc3) (hlim k (by omega)) hd
structure Inv (T:Trace ip G n os fr σ fr' σ') (P:Program) (fm gm:Nat→Option Nat) (N:Nat) (ops:Array Oper) (X:Nat→Prop) (w0:World) (μ0:Mu) (a0:Act) (L:Nat→Bool) (s:Nat) (a:Act) (w:World) (μ:Mu):Prop where
 listed:Listed ops L
 sle:s≤os.length
 done: ∀j,j < s→writes os j→L j=true
 next:s < os.length→writes os s∧L s=false
 lim: ∀b x,(T.sts s).get b=some x→b < (T.sts s).next
 un: ∀(j:Nat) (io:IOper),j < s→os[j]? =some io→io.op.cls=2→L j=false→wanted io.guard (T.frs j)=some true→μ ((T.sts j).next)= .unborn
 given:Given P fm gm G w X μ (T.sts s) N (frOf os fr T.phi L os.length) a
 ext:Ext w0 μ0 w μ
 defers:a.defers=a0.defers
theorem clash_symm_or {p q:IOper}:clash p q=true↔((∃d,p.dst=some d∧(d∈q.names∨q.dst=some d))∨(∃d,q.dst=some d∧d∈p.names)∨wmeets p.op q.op=true∨wmeets q.op p.op=true):=by
 unfold clash
 simp only [Bool.or_eq_true]
 constructor
 ·rintro (((h | h) | h) | h)
  ·left
   cases hp:p.dst with
   | none=>simp [hp] at h
   | some d=>rw [hp] at h; simp at h; exact ⟨d,rfl,h⟩
  ·right; left
   cases hq:q.dst with
   | none=>simp [hq] at h
   | some d=>simp [hq] at h; exact ⟨d,rfl,h⟩
  ·exact .inr (.inr (.inl h))
  ·exact .inr (.inr (.inr h))
 ·rintro (⟨d,hd,h⟩ | ⟨d,hd,h⟩ | h | h)
  ·left; left; left; simp [hd,h]
  ·left; left; right; simp [hd,h]
  ·left; right; exact h
  ·right; exact h
theorem next_write (os:List IOper) (i:Nat) (hi:i≤os.length): ∃s,i≤s∧s≤os.length∧(∀j,i≤j→j < s→¬writes os j)∧(s < os.length→writes os s):=by
 induction h:os.length - i generalizing i with
 | zero=>exact ⟨i,Nat.le_refl _,hi,fun j a b=>by omega,fun h'=>by omega⟩
 | succ d ih=>
  by_cases hw:writes os i
  ·exact ⟨i,Nat.le_refl _,hi,fun j a b=>by omega,fun _=>hw⟩
  ·obtain ⟨s,h1,h2,h3,h4⟩:=ih (i+1) (by omega) (by omega)
   refine ⟨s,by omega,h2,fun j a b=> ?_,h4⟩
   by_cases hj:j=i
   ·subst hj; exact hw
   ·exact h3 j (by omega) b
theorem inv_step (hσ:σ.Lim) (hGc: ∀g,closedL (G g)=true) (hSC:SCallsOk P fm gm G ip n) (hd:drawOk os ops=true) (hck:opersChk P fm gm N ops os ops.toList=true) (T:Trace ip G n os fr σ fr' σ')
  {X:Nat→Prop} {w0:World} {μ0:Mu} {a0:Act} {L:Nat→Bool} {s:Nat} {a:Act} {w:World} {μ:Mu} (I:Inv T P fm gm N ops X w0 μ0 a0 L s a w μ)
  {i:Nat} {o:Oper} (ho:ops[i]? =some o) (hun:L i=false) (hr: ∀e∈o.after,Region.binds .any e=true→L e.on=true) {Q:Exit→Act→World→Prop} {K:Act→World→Prop}
  (hK: ∀(s':Nat) (a':Act) (w':World) (μ':Mu),Inv T P fm gm N ops X w0 μ0 a0 (fun j=>decide (j=i) || L j) s' a' w' μ'→K a' w') :
  wpOp P ops Q i K a w:=by
 obtain ⟨hlen,hget⟩:=opers_get hck
 have hlen':os.length=ops.size:=by simpa using hlen
 simp only [drawOk,Bool.and_eq_true] at hd
 have hisz:i < ops.size:=(Array.getElem?_eq_some_iff.1 ho).1
 have hio:os[i]? =some (os[i]'(by omega)):=List.getElem?_eq_getElem (by omega)
 generalize os[i]'(by omega)=io at hio
 obtain ⟨o',ho',hop⟩:=hget i io hio
 have hoo:o'=o:=by
  have:ops.toList[i]? =some o:=by simpa using ho
  rw [this] at ho'
  simpa using ho'.symm
 subst hoo
 simp only [operChk,Bool.and_eq_true,beq_iff_eq] at hop
 obtain ⟨⟨⟨hdst,hN⟩,hg⟩,hopc⟩:=hop
 have hdN: ∀d,o'.dst=some d→d < N:=by
  intro d hd'
  rw [hd'] at hN
  simpa using hN
 have hbef: ∀(j:Nat) (jo:IOper),j < i→os[j]? =some jo→clash jo io=true→L j=true:=fun j jo hj hjo hcl=>
  pre_listed I.listed i ho hr (pairs_spec hd.2 hj hjo hio hcl)
 have haft: ∀(j:Nat) (jo:IOper),i < j→os[j]? =some jo→clash io jo=true→L j=false:=by
  intro j jo hj hjo hcl
  cases hLj:L j with
  | false=>rfl
  | true=>
   have hjs:j < ops.size:=by have:=(List.getElem?_eq_some_iff.1 hjo).1; omega
   have hoj:ops[j]? =some ops[j]:=by simp [hjs]
   have:=pre_listed I.listed j hoj (fun e he hb=>I.listed j _ hoj hLj e he hb) (pairs_spec hd.2 hj hio hjo hcl)
   rw [hun] at this; simp at this
 have hnames: ∀t∈io.names,(frOf os fr T.phi L os.length).get t=(T.frs i).get t:=by
  intro t ht
  rw [trace_frs T i (by omega)]
  rw [frOf_stop T.phi t i os.length (by omega) (fun j h1 h2 hdj=> ?_)]
  ·refine frOf_congr T.phi t i (fun j hj hdj=> ?_)
   unfold dstOf at hdj
   cases hjo:os[j]? with
   | none=>simp [hjo] at hdj
   | some jo=>
    simp only [hjo,Option.bind_some] at hdj
    exact hbef j jo hj hjo (clash_symm_or.2 (.inl ⟨t,hdj, .inl ht⟩))
  ·by_cases hji:j=i
   ·subst hji; exact hun
   ·unfold dstOf at hdj
    cases hjo:os[j]? with
    | none=>simp [hjo] at hdj
    | some jo=>
     simp only [hjo,Option.bind_some] at hdj
     exact haft j jo (by omega) hjo (clash_symm_or.2 (.inr (.inl ⟨t,hdj,ht⟩)))
 have hL'other: ∀j,j≠i→(decide (j=i) || L j)=L j:=fun j hj=>by simp [hj]
 have hframe: ∀t,(frOf os fr T.phi (fun j=>decide (j=i) || L j) os.length).get t=((frOf os fr T.phi L os.length).put io.dst (T.phi i)).get t:=by
  intro t
  rw [put_get]
  by_cases hdt:io.dst=some t
  ·rw [if_pos hdt]
   rw [frOf_stop T.phi t (i+1) os.length (by omega) (fun j h1 h2 hdj=> ?_)]
   ·simp only [frOf]
    rw [if_pos (by simp),put_get,if_pos (by simp [dstOf,hio,hdt])]
   ·rw [hL'other j (by omega)]
    unfold dstOf at hdj
    cases hjo:os[j]? with
    | none=>simp [hjo] at hdj
    | some jo=>
     simp only [hjo,Option.bind_some] at hdj
     exact haft j jo (by omega) hjo (clash_symm_or.2 (.inl ⟨t,hdt, .inr hdj⟩))
  ·rw [if_neg hdt]
   refine frOf_congr T.phi t os.length (fun j hj hdj=> ?_)
   have:j≠i:=by rintro rfl; simp [dstOf,hio] at hdj; exact hdt hdj
   exact hL'other j this
 have hlisted':Listed ops (fun j=>decide (j=i) || L j):=by
  intro j oj hoj hLj e he hb
  simp only [Bool.or_eq_true,decide_eq_true_eq] at hLj ⊢
  rcases hLj with rfl | hLj
  ·rw [ho] at hoj
   simp only [Option.some.injEq] at hoj
   subst hoj
   exact .inr (hr e he hb)
  ·exact .inr (I.listed j oj hoj hLj e he hb)
 obtain ⟨hwc,hdc⟩:=oper_congr (G:=G) (ip:=ip) (r:=fun _ _ _=>none) (o:=io) (σ:= .empty) hnames
 have hdc': ∀(r:Runs) (τ:Store),doOp ip G r io.op (frOf os fr T.phi L os.length) τ=doOp ip G r io.op (T.frs i) τ:=fun r τ=>(oper_congr (G:=G) (ip:=ip) (r:=r) (o:=io) (σ:=τ) hnames).2
 have keep:io.op.cls≠3→∀(a':Act) (w':World) (μ':Mu),(∀(j:Nat) (jo:IOper),j < s→os[j]? =some jo→jo.op.cls=2→j≠i→L j=false→wanted jo.guard (T.frs j)=some true→μ' ((T.sts j).next)= .unborn)→
   GlobOK fm gm G w' X μ'→RS (fm:=fm) (T.sts s) w' X μ'→(∀b,X b→b < w'.heap.size)→RF (fm:=fm) N ((frOf os fr T.phi L os.length).put io.dst (T.phi i)) a'.tmps w' X μ'→Ext w0 μ0 w' μ'→a'.defers=a0.defers→
   Inv T P fm gm N ops X w0 μ0 a0 (fun j=>decide (j=i) || L j) s a' w' μ':=by
  intro hc3 a' w' μ' hu hgl hrs hx hrf he hdf
  refine ⟨hlisted',I.sle,fun j hj hw=>by simp [I.done j hj hw],fun hs=> ?_,I.lim,fun j jo hj hjo hc hLj hw=> ?_,⟨hgl,hrs,hx,⟨hrf.size,fun t=>by rw [hframe]; exact hrf.val t⟩⟩,he,hdf⟩
  ·obtain ⟨h1,h2⟩:=I.next hs
   refine ⟨h1,?_⟩
   have:s≠i:=by
    rintro rfl
    obtain ⟨jo,hjo,hc⟩:=h1
    rw [hio] at hjo
    simp only [Option.some.injEq] at hjo
    subst hjo
    exact hc3 hc
   simp [this,h2]
  ·simp only [Bool.or_eq_false_iff,decide_eq_false_iff_not] at hLj
   exact hu j jo hj hjo hc hLj.1 hLj.2 hw
 have hdefput: ∀(v:Value),(a.put o'.dst v).defers=a.defers:=fun v=>by cases o'.dst <;> rfl
 have his:io.op.cls≠3→1≤io.op.cls→io.op.isF=false→i < s∧∀j,i≤j→j < s→¬writes os j:=by
  intro hc3 hc1 hF
  have h1:i < s:=by
   rcases Nat.lt_or_ge i s with h | h
   ·exact h
   ·exfalso
    have hs:s < os.length:=by omega
    obtain ⟨⟨jo,hjo,hc⟩,hLs⟩:=I.next hs
    have hsi:s≠i:=by
     rintro rfl
     rw [hio] at hjo
     simp only [Option.some.injEq] at hjo
     subst hjo; exact hc3 hc
    have:=hbef s jo (by omega) hjo (clash_symm_or.2 (.inr (.inr (.inl (wm hc hc1 hF)))))
    rw [hLs] at this; simp at this
  refine ⟨h1,fun j hj hjs hw=> ?_⟩
  have hLj:=I.done j hjs hw
  obtain ⟨jo,hjo,hc⟩:=hw
  by_cases hji:j=i
  ·subst hji
   rw [hio] at hjo
   simp only [Option.some.injEq] at hjo
   subst hjo; exact hc3 hc
  ·have:=haft j jo (by omega) hjo (clash_symm_or.2 (.inr (.inr (.inr (wm hc hc1 hF)))))
   rw [hLj] at this; simp at this
 have nowr: ∀(j:Nat) (jo:IOper),j < s→os[j]? =some jo→jo.op.cls=2→L j=false→∀k,j≤k→k < s→¬writes os k:=by
  intro j jo hj hjo hc hLj k h1 h2 hw
  have hLk:=I.done k h2 hw
  obtain ⟨ko,hko,hck⟩:=hw
  have hjk:j≠k:=by
   rintro rfl
   rw [hjo] at hko
   simp only [Option.some.injEq] at hko
   subst hko; omega
  have hks:k < ops.size:=by have:=(List.getElem?_eq_some_iff.1 hko).1; omega
  have hok:ops[k]? =some ops[k]:=by simp [hks]
  have:=pre_listed I.listed k hok (fun e he hb=>I.listed k _ hok hLk e he hb) (pairs_spec hd.2 (by omega:j < k) hjo hko (clash_symm_or.2 (.inr (.inr (.inr (wm hck (by omega) (nF (by omega))))))))
  rw [hLj] at this; simp at this
 have wrote:io.op.cls=3→∀(a':Act) (w':World) (μ':Mu),GlobOK fm gm G w' X μ'→RS (fm:=fm) (T.sts (i+1)) w' X μ'→(∀b,X b→b < w'.heap.size)→
   RF (fm:=fm) N ((frOf os fr T.phi L os.length).put io.dst (T.phi i)) a'.tmps w' X μ'→Ext w0 μ0 w' μ'→a'.defers=a0.defers→
   ∃s',Inv T P fm gm N ops X w0 μ0 a0 (fun j=>decide (j=i) || L j) s' a' w' μ':=by
  intro hc3 a' w' μ' hgl hrs hx hrf he hdf
  obtain ⟨s',h1,h2,h3,h4⟩:=next_write os (i+1) (by omega)
  obtain ⟨q1,q2,q3⟩:=trace_le T s' h1 h2 h3 (trace_lim T hσ (i+1) (by omega))
  have hwi:writes os i:=⟨io,hio,hc3⟩
  have hlow: ∀j,j < i→writes os j→L j=true:=by
   intro j hj hw
   obtain ⟨jo,hjo,hc⟩:=hw
   exact hbef j jo hj hjo (clash_symm_or.2 (.inr (.inr (.inl (wm hc (by omega) (nF (by omega)))))))
  refine ⟨s',hlisted',h2,fun j hj hw=> ?_,fun hs=>⟨h4 hs,?_⟩,q3,fun j jo hj hjo hc hLj hw=> ?_,⟨hgl,hrs.le q1 q3,hx,⟨hrf.size,fun t=>by rw [hframe]; exact hrf.val t⟩⟩,he,hdf⟩
  ·by_cases hji:j=i
   ·simp [hji]
   ·by_cases hlt:j < i
    ·simp [hlow j hlt hw]
    ·exact absurd hw (h3 j (by omega) hj)
  ·obtain ⟨jo,hjo,hc⟩:=h4 hs
   rw [hL'other s' (by omega)]
   exact haft s' jo (by omega) hjo (clash_symm_or.2 (.inr (.inr (.inl (wm hc3 (by omega) (nF (by omega)))))))
  ·simp only [Bool.or_eq_false_iff,decide_eq_false_iff_not] at hLj
   have hji:i < j:=by
    rcases Nat.lt_or_ge i j with h' | h'
    ·exact h'
    ·exfalso
     have hlt:j < i:=by omega
     have:=hbef j jo hlt hjo (clash_symm_or.2 (.inr (.inr (.inr (wm hc3 (by omega) (nF (by omega)))))))
     rw [hLj.2] at this; simp at this
   have hjl:j≤os.length:=by have:=(List.getElem?_eq_some_iff.1 hjo).1; omega
   obtain ⟨_,k2,_⟩:=trace_le T j (by omega:i+1≤j) hjl (fun k a b=>h3 k a (by omega)) (trace_lim T hσ (i+1) (by omega))
   apply hrs.born
   cases hgg:(T.sts (i+1)).get (T.sts j).next with
   | none=>rfl
   | some y=>have:=trace_lim T hσ (i+1) (by omega) _ _ hgg; omega
 have hieq:io.op.cls=3→i=s:=by
  intro hc3
  rcases Nat.lt_trichotomy i s with h | h | h
  ·have:=I.done i h ⟨io,hio,hc3⟩
   rw [hun] at this; simp at this
  ·exact h
  ·exfalso
   obtain ⟨⟨jo,hjo,hc⟩,hLs⟩:=I.next (by omega)
   have:=hbef s jo h hjo (clash_symm_or.2 (.inr (.inr (.inl (wm hc (by omega) (nF (by omega)))))))
   rw [hLs] at this; simp at this
 unfold wpOp
 simp only [ho]
 rcases T.step i io hio with ⟨hw,hphi,hst⟩ | ⟨hw,m,hm,hdo⟩
 ·
  have hwant:=guard_wanted I.given.rf hg (hwc.trans hw)
  simp only [hwant,Bool.false_eq_true,if_false]
  have rf':RF (fm:=fm) N ((frOf os fr T.phi L os.length).put io.dst (T.phi i)) (a.put o'.dst Go.undef).tmps w X μ:=by
   rw [hphi,hdst]; exact I.given.rf.put hdN rv_skip
  by_cases hc3:io.op.cls=3
  ·have:=hieq hc3
   obtain ⟨s',hI⟩:=wrote hc3 (a.put o'.dst Go.undef) w μ I.given.glob (by rw [hst,this]; exact I.given.rs) I.given.out rf' I.ext ((hdefput _).trans I.defers)
   exact hK s' _ _ _ hI
  ·exact hK s _ _ _ (keep hc3 _ w μ (fun j jo h1 h2 h3 _ h5 h6=>I.un j jo h1 h2 h3 h5 h6) I.given.glob I.given.rs I.given.out rf' I.ext ((hdefput _).trans I.defers))
 ·
  have hwant:=guard_wanted I.given.rf hg (hwc.trans hw)
  simp only [hwant,if_true]
  left
  have quiet:io.op.cls≤1→doOp ip G (run ip G m) io.op (T.frs i) (T.sts s)=some (T.phi i,T.sts s)→o'.wp P a w K Q:=by
   intro hc1 hdo'
   rw [←hdc'] at hdo'
   refine quiet_wp hGc I.given hSC hm hc1 hopc hdo' K Q (fun cv w' h1 h2=> ?_)
   have hx:=Ext.of_below (μ:=μ) h2
   exact hK s _ _ _ (keep (by omega) _ w' μ (fun j jo h1 h2 h3 _ h5 h6=>I.un j jo h1 h2 h3 h5 h6) (I.given.glob.ext hx) (I.given.rs.below h2) (fun b hb=>Nat.lt_of_lt_of_le (I.given.out b hb) h2.size)
    (by rw [hdst]; exact (I.given.rf.ext hx).put hdN h1) (I.ext.trans hx) ((hdefput _).trans I.defers))
  by_cases hc0:io.op.cls=0
  ·exact quiet (by omega) (doOp_n hc0 (T.sts s) hdo).2
  by_cases hF:io.op.isF=true
  ·have hc1:io.op.cls=1:=by
    by_cases h:io.op.cls=1
    ·exact h
    ·rw [nF h] at hF; simp at hF
   have hfs:(T.sts i).fsame (T.sts s):=by
    rcases Nat.lt_or_ge i s with h | h
    ·refine trace_fsame T (trace_lim T hσ) s (by omega) I.sle (fun j jo h1 h2 hjo hcj=> ?_)
     cases hW:jo.op.isW with
     | true=>rfl
     | false=>
      have hLj:=I.done j h2 ⟨jo,hjo,hcj⟩
      by_cases hji:j=i
      ·subst hji
       rw [hio] at hjo
       simp only [Option.some.injEq] at hjo
       subst hjo; omega
      ·have:=haft j jo (by omega) hjo (clash_symm_or.2 (.inr (.inr (.inr (wm' hcj (by omega) hW)))))
       rw [hLj] at this; simp at this
    ·refine (trace_fsame T (trace_lim T hσ) i h (by omega) (fun j jo h1 h2 hjo hcj=> ?_)).symm
     cases hW:jo.op.isW with
     | true=>rfl
     | false=>
      have hLj:=hbef j jo h2 hjo (clash_symm_or.2 (.inr (.inr (.inl (wm' hcj (by omega) hW)))))
      obtain ⟨⟨so,hso,hcs⟩,hLs⟩:=I.next (by omega)
      by_cases hjs:j=s
      ·subst hjs; rw [hLs] at hLj; simp at hLj
      ·have hjo':ops[j]? =some (ops[j]'(by omega)):=by simp
       have:=pre_listed I.listed j hjo' (fun e he hb=>I.listed j _ hjo' hLj e he hb) (pairs_spec hd.2 (by omega:s < j) hso hjo (clash_symm_or.2 (.inr (.inr (.inl (wm hcs (by omega) (nF (by omega))))))))
       rw [hLs] at this; simp at this
   refine quiet (by omega) ?_
   cases hop:io.op with
   | loadF n x=>
    rw [hop] at hdo
    simp only [doOp,pureOp,Option.map_eq_some_iff,Prod.mk.injEq] at hdo ⊢
    obtain ⟨v',hv,rfl,_⟩:=hdo
    exact ⟨_,readPtrF_same hfs hv,rfl,trivial⟩
   | _=>rw [hop] at hF; simp [IOp.isF] at hF
  simp only [Bool.not_eq_true] at hF
  by_cases hc1:io.op.cls=1
  ·obtain ⟨hlt,hnw⟩:=his (by omega) (by omega) hF
   obtain ⟨q1,_,_⟩:=trace_le T s (by omega) I.sle hnw (trace_lim T hσ i (by omega))
   exact quiet (by omega) (doOp_le (by omega) q1 hdo).2
  by_cases hc2:io.op.cls=2
  ·obtain ⟨hlt,hnw⟩:=his (by omega) (by omega) hF
   have hdo2:=hdo
   rw [←hdc'] at hdo2
   obtain ⟨cs,cv,arr,e,hal,hrun,hle,hcells,hval⟩:=makes_run I.given hc2 hopc hdo2
   obtain ⟨q1,q2,_⟩:=trace_le T s (by omega:i+1≤s) I.sle (fun j a b=>hnw j (by omega) b) (trace_lim T hσ (i+1) (by omega))
   have hb:(T.sts s).get (T.sts i).next=some (.own cs):=by
    apply q1.1
    rw [hal,alloc_get,if_pos rfl]
   have hunb:=I.un i io hlt hio hc2 hun hw
   obtain ⟨x1,x2⟩:=born_rs I.given.rs I.given.out e hb hunb hle hcells
   unfold Oper.wp
   rw [hrun]
   refine hK s _ _ _ (keep (by omega) _ _ (μ.bind (T.sts i).next (.at w.heap.size 0 true)) (fun j jo h1 h2 h3 hji h5 h6=> ?_) (I.given.glob.ext x1) x2 (fun b hb=>Nat.lt_of_lt_of_le (I.given.out b hb) x1.size)
    (by rw [hdst]; exact (I.given.rf.ext x1).put hdN (hval _ _ (by simp [Mu.bind]) (heap_alloc_new w _))) (I.ext.trans x1) ((hdefput _).trans I.defers))
   have hne:(T.sts j).next≠(T.sts i).next:=by
    rcases Nat.lt_or_ge i j with hij | hij
    ·obtain ⟨_,k2,_⟩:=trace_le T j (by omega:i+1≤j) (by have:=I.sle; omega) (fun k a b=>hnw k (by omega) (by omega)) (trace_lim T hσ (i+1) (by omega))
     rw [hal] at k2
     have:(T.sts i).next+1≤(T.sts j).next:=k2
     omega
    ·have hjlt:j < i:=by omega
     have hnj:=nowr j jo h1 h2 h3 h5
     rcases T.step j jo h2 with ⟨hw',_,_⟩ | ⟨_,m',_,hdo'⟩
     ·rw [h6] at hw'; simp at hw'
     ·obtain ⟨cs',hal'⟩:=doOp_makes h3 hdo'
      obtain ⟨_,k2,_⟩:=trace_le T i (by omega:j+1≤i) (by omega) (fun k a b=>hnj k (by omega) (by omega)) (trace_lim T hσ (j+1) (by omega))
      rw [hal'] at k2
      have:(T.sts j).next+1≤(T.sts i).next:=k2
      omega
   simp [Mu.bind,hne,I.un j jo h1 h2 h3 h5 h6]
  ·have hc3:io.op.cls=3:=by
    have:io.op.cls≤3:=by
     cases hop:io.op <;> simp [IOp.cls]
     all_goals (split <;> omega)
    omega
   have his:=hieq hc3
   have hdo2:=hdo
   rw [his,←his,←hdc'] at hdo2
   have hg2:Given P fm gm G w X μ (T.sts i) N (frOf os fr T.phi L os.length) a:=by rw [his]; exact I.given
   refine doOp_wp hGc hg2 hSC hm hopc hdo2 K Q (fun cv w' μ' h1 h2 h3=> ?_)
   obtain ⟨s',hI⟩:=wrote hc3 (a.put o'.dst cv) w' μ' (I.given.glob.ext h2) h3 (fun b hb=>Nat.lt_of_lt_of_le (I.given.out b hb) h2.size)
    (by rw [hdst]; exact (I.given.rf.ext h2).put hdN h1) (I.ext.trans h2) ((hdefput _).trans I.defers)
   exact hK s' _ _ _ hI
end
end Go.Ab
namespace Go.Ab
open Go.RowKit
section
variable {P:Program} {fm gm:Nat→Option Nat} {G:Nat→List AV} {ip:Nat→Option IFunc}
variable {n N:Nat} {os:List IOper} {ops:Array Oper} {fr fr':Fr} {σ σ':Store}
def unlisted (ops:Array Oper) (L:Nat→Bool):Nat:=(List.range ops.size).countP (fun j=> !L j)
theorem countP_put (L:Nat→Bool) (i:Nat) (hun:L i=false): ∀(m:Nat),i < m→(List.range m).countP (fun j=> !(decide (j=i) || L j))+1=(List.range m).countP (fun j=> !L j):=by
 intro m
 induction m with
 | zero=>intro h; omega
 | succ m ih=>
  intro h
  rw [List.range_succ,List.countP_append,List.countP_append]
  by_cases hm:m=i
  ·subst hm
   have:(List.range m).countP (fun j=> !(decide (j=m) || L j))=(List.range m).countP (fun j=> !L j):=by
    apply List.countP_congr
    intro x hx
    have:x≠m:=by have:=List.mem_range.1 hx; omega
    simp [this]
   rw [this]
   simp [hun]
  ·have:=ih (by omega)
   have e:([m].countP fun j=> !(decide (j=i) || L j))= [m].countP fun j=> !L j:=by simp [hm]
   rw [e]
   omega
theorem unlisted_put {L:Nat→Bool} {i:Nat} (hun:L i=false) (hi:i < ops.size):unlisted ops (fun j=>decide (j=i) || L j)+1=unlisted ops L:=
 countP_put L i hun ops.size hi
theorem all_listed {listed:Array Bool} (hsz:listed.size=ops.size) (hb:backward ops=true) (h:Region.ready .any ops listed= []): ∀j,j < ops.size→listed.getD j false=true:=by
 intro j
 induction j using Nat.strongRecOn with
 | _ j ih=>
  intro hj
  cases hl:listed.getD j false with
  | true=>rfl
  | false=>
   exfalso
   have hm:j∈Region.ready .any ops listed:=by
    refine mem_ready.2 ⟨?_,ops[j],by simp [hj],fun e he hbd=> ?_⟩
    ·simp [hsz,hj] at hl ⊢; exact hl
    ·unfold backward at hb
     rw [List.all_eq_true] at hb
     have:=hb j (List.mem_range.2 hj)
     simp only [show ops[j]? =some ops[j] by simp [hj]] at this
     rw [List.all_eq_true] at this
     have:=this e (by simpa using he)
     rw [hbd] at this
     simp only [Bool.not_true,Bool.false_or,decide_eq_true_eq] at this
     exact ih e.on this (by omega)
   rw [h] at hm
   simp at hm
theorem frOf_all (T:Trace ip G n os fr σ fr' σ') {L:Nat→Bool} (h: ∀j,j < os.length→L j=true): ∀t,(frOf os fr T.phi L os.length).get t=fr'.get t:=by
 intro t
 have e:fr'.get t=(frOf os fr T.phi (fun _=>true) os.length).get t:=congrArg (fun f:Fr=>f.get t) (T.fn.symm.trans (trace_frs T os.length (Nat.le_refl _)))
 exact (frOf_congr T.phi t os.length (fun j hj _=>by rw [h j hj])).trans e.symm
theorem any_sound (hσ:σ.Lim) (hGc: ∀g,closedL (G g)=true) (hSC:SCallsOk P fm gm G ip n) (hd:drawOk os ops=true) (hck:opersChk P fm gm N ops os ops.toList=true) (T:Trace ip G n os fr σ fr' σ')
  {X:Nat→Prop} {w0:World} {μ0:Mu} {a0:Act}: ∀(fuel:Nat) (listed:Array Bool) (s:Nat) (a:Act) (w:World) (μ:Mu),listed.size=ops.size→unlisted ops (fun j=>listed.getD j false)≤fuel→
  Inv T P fm gm N ops X w0 μ0 a0 (fun j=>listed.getD j false) s a w μ→
  wpAny P .any ops (fun e a' w'=>e= .normal∧∃μ',Out fm N X w0 μ0 a0 fr' σ' a' w' μ'∧GlobOK fm gm G w' X μ'∧∀b,X b→b < w'.heap.size) fuel listed a w:=by
 obtain ⟨hlen,_⟩:=opers_get hck
 have hlen':os.length=ops.size:=by simpa using hlen
 have hback:backward ops=true:=by
  simp only [drawOk,Bool.and_eq_true] at hd
  exact hd.1
 have fin: ∀(listed:Array Bool) (s:Nat) (a:Act) (w:World) (μ:Mu),listed.size=ops.size→Inv T P fm gm N ops X w0 μ0 a0 (fun j=>listed.getD j false) s a w μ→Region.ready .any ops listed= []→
   (Exit.normal:Exit)= .normal∧∃μ',Out fm N X w0 μ0 a0 fr' σ' a w μ'∧GlobOK fm gm G w X μ'∧∀b,X b→b < w.heap.size:=by
  intro listed s a w μ hsz I hr
  have hall:=all_listed hsz hback hr
  have hs:s=os.length:=by
   rcases Nat.lt_or_ge s os.length with h | h
   ·have h1:=(I.next h).2
    have h2:=hall s (by omega)
    have h1':listed.getD s false=false:=h1
    rw [h1'] at h2; cases h2
   ·have:=I.sle; omega
  have hst:T.sts s=σ':=by rw [hs]; exact T.sn
  refine ⟨rfl,μ,⟨⟨I.given.rf.size,fun t=> ?_⟩,by rw [←hst]; exact I.given.rs,I.ext,I.defers⟩,I.given.glob,I.given.out⟩
  rw [←frOf_all T (fun j hj=>hall j (by omega)) t]
  exact I.given.rf.val t
 intro fuel
 induction fuel with
 | zero=>
  intro listed s a w μ hsz hc I
  have hr:Region.ready .any ops listed= []:=by
   cases hr:Region.ready .any ops listed with
   | nil=>rfl
   | cons j l=>
    exfalso
    have hj:j∈Region.ready .any ops listed:=by rw [hr]; simp
    obtain ⟨h0,o,ho,_⟩:=mem_ready.1 hj
    have hlt:j < ops.size:=(Array.getElem?_eq_some_iff.1 ho).1
    have:0 < unlisted ops (fun j=>listed.getD j false):=by
     unfold unlisted
     rw [List.countP_pos_iff]
     refine ⟨j,List.mem_range.2 hlt,?_⟩
     simp [hsz,hlt] at h0 ⊢; exact h0
    omega
  exact ⟨hr,fin listed s a w μ hsz I hr⟩
 | succ fuel ih=>
  intro listed s a w μ hsz hc I
  refine ⟨fin listed s a w μ hsz I,fun i hi=> ?_⟩
  obtain ⟨h0,o,ho,hall⟩:=mem_ready.1 hi
  have hlt:i < ops.size:=(Array.getElem?_eq_some_iff.1 ho).1
  have hun:(fun j=>listed.getD j false) i=false:=by
   simp [hsz,hlt] at h0 ⊢; exact h0
  have hput:(fun j=>(listed.setIfInBounds i true).getD j false)=fun j=>decide (j=i) || listed.getD j false:=by
   funext j
   by_cases hji:j=i
   ·subst hji; simp [hsz,hlt]
   ·rw [getD_set_ne false (Ne.symm hji)]; simp [hji]
  refine inv_step hσ hGc hSC hd hck T I ho hun hall (fun s' a' w' μ' I'=> ?_)
  refine ih _ s' a' w' μ' (by simpa using hsz) ?_ (by rw [hput]; exact I')
  rw [hput]
  have:=unlisted_put (ops:=ops) (L:=fun j=>listed.getD j false) hun hlt
  omega
theorem drawn_ok (hm:P.follows .mixedOrders=true) (hGc: ∀g,closedL (G g)=true):DrawnOk P fm gm G ip drawOk:=by
 intro n N os ops fr fr' σ σ' X w μ a id hSC hd hck hx g
 obtain ⟨T⟩:=hx.trace
 have hσ:σ.Lim:=g.rs.lim
 obtain ⟨hlen,_⟩:=opers_get hck
 have hlen':os.length=ops.size:=by simpa using hlen
 obtain ⟨s,h1,h2,h3,h4⟩:=next_write os 0 (by omega)
 obtain ⟨q1,q2,q3⟩:=trace_le T s h1 h2 h3 (by rw [T.s0]; exact hσ)
 have hb:Below w.heap.size w { w with drawn:=w.drawn+1 }:=⟨rfl,rfl,rfl,Nat.le_refl _,fun _ _=>rfl⟩
 have hxt:=Ext.of_below (μ:=μ) hb
 refine wp_region_any hm (any_sound hσ hGc hSC hd hck T _ _ s a _ μ (by simp) (by unfold unlisted; exact Nat.le_trans (List.countP_le_length) (by simp)) ⟨?_,h2,fun j hj hw=>absurd hw (h3 j (by omega) hj),fun hs=>⟨h4 hs,?_⟩,q3,?_,⟨g.glob.ext hxt,?_,g.out,⟨g.rf.size,fun t=> ?_⟩⟩,hxt,rfl⟩)
 ·intro j o ho hL
  have hlt:j < ops.size:=(Array.getElem?_eq_some_iff.1 ho).1
  simp [hlt] at hL
 ·have:s < ops.size:=by omega
  simp [this]
 ·intro j jo hj hjo hc hL hw
  apply g.rs.born
  obtain ⟨_,k2,_⟩:=trace_le T j (Nat.zero_le j) (by omega) (fun k a b=>h3 k a (by omega)) (by rw [T.s0]; exact hσ)
  rw [T.s0] at k2
  cases hgg:σ.get (T.sts j).next with
  | none=>rfl
  | some y=>have:=hσ _ _ hgg; omega
 ·rw [T.s0] at q1
  exact (g.rs.below hb).le q1 q3
 ·have e:(frOf os fr T.phi (fun j=>(Array.replicate ops.size false).getD j false) os.length).get t=fr.get t:=by
   rw [frOf_stop T.phi t 0 os.length (Nat.zero_le _) (fun j h1 h2 hd=> ?_)]
   ·rfl
   ·have:j < ops.size:=by omega
    simp [this]
  rw [e]
  exact (g.rf.ext hxt).val t
end
end Go.Ab
