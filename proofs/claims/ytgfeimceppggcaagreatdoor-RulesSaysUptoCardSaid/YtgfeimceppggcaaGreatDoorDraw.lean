/- A region of operations answers alike in whatever order the model takes them. Conditions: none. -/
import Derived.Test.YtgfeimceppggcaaGreatDoorRun
set_option linter.unusedVariables false
set_option linter.unusedSimpArgs false
set_option linter.defProp false
set_option linter.unnecessarySimpa false
namespace Go.Ab
open Go.RowKit
def cB.opds:cB->List bq
 | .mv x | .box x | .eqn _ _ x | .un _ x | .conv _ x | .fieldA _ x | .arr _ x | .nilc x | .sdata x | .field _ _ x | .extract x _ | .len _ x=> [x]
 | .load _ x | .loadF _ x=> [x]
 | .boxV x | .loadV _ x=> [x]
 | .new _ | .no=> []
 | .pick c a b=> [c,a,b]
 | .build _ ps=>ps.map fun p=>p.2.2
 | .buildSl _ _ _ _ ps=>ps.map fun p=>p.2
 | .buildA _ _ ps=>ps.map fun p=>p.2
 | .store _ p v | .storeS _ p v=> [p,v]
 | .bin _ x y | .eqb _ x y | .eqs _ _ x y | .append _ _ _ x y | .max2 _ x y | .idxS x y | .idxV _ _ _ x y | .eqp _ x y | .eqa _ _ x y=> [x,y]
 | .idxA _ _ x i=> [x,i]
 | .mkfn _ a c=>a ++c
 | .slice _ x lo hi mx=>x ::(lo.toList ++hi.toList ++mx.toList)
 | .sliceS x lo hi | .sliceA _ _ x lo hi=>x ::(lo.toList ++hi.toList)
 | .call _ f xs=>f ::xs
 | .ext _ xs=>xs
 | .prim _ xs=>xs
def bq.tmps:bq->List Nat
 | .tmp t=> [t]
 | _=> []
def aZ.names (o:aZ):List Nat:=o.op.opds.flatMap bq.tmps ++(match o.guard with | some (t,_)=> [t] | none=> [])
def cB.cls:cB->Nat
 | .load .. | .loadF .. | .sliceA .. | .eqp .. | .storeS .. =>1
 | .conv .ofBytes _=>1
 | .call .strict _ _=>1
 | .call .splitS _ _=>1
 | .box _ | .new _ | .buildSl true .. =>2
 | .store .. | .append .. | .call .. | .prim .. =>3
 | _=>0
def cB.isW:cB->Bool
 | .store .. | .append .. =>true
 | _=>false
def cB.isF:cB->Bool
 | .loadF .. =>true
 | _=>false
def wmeets (p q:cB):Bool:=p.cls == 3 && decide (1<=q.cls) && !(p.isW && q.isF)
def AI (p q:aZ):Bool:=
 (match p.dst with | some d=>q.names.contains d || q.dst == some d | none=>false) ||
 (match q.dst with | some d=>p.names.contains d | none=>false) ||
 wmeets p.op q.op || wmeets q.op p.op
def lz (acc:List Nat) (o:Oper):Nat:=
 o.after.toList.foldl (fun s e=>if Region.binds .any e then s ||| (2 ^ e.on ||| acc.getD e.on 0) else s) 0
def jl:List Oper->List Nat->List Nat
 | [],acc=>acc
 | o ::os,acc=>jl os (acc ++ [lz acc o])
def J6 (ops:Array Oper):List Nat:=jl ops.toList []
def backward (ops:Array Oper):Bool:=(List.range ops.size).all fun j=>match ops[j]? with
 | some o=>o.after.toList.all fun e=> !Region.binds .any e || decide (e.on < j)
 | none=>true
def Bj (ms:List Nat) (os:List aZ):Bool:=(List.range os.length).all fun j=>(List.range j).all fun i=>match os[i]?,os[j]? with
 | some p,some q=>(ms.getD j 0).testBit i || !AI p q
 | _,_=>true
def oq (os:List aZ) (ops:Array Oper):Bool:=backward ops && Bj (J6 ops) os
theorem sC: ∀(l:List Oper) (acc:List Nat),(jl l acc).take acc.length=acc/\(jl l acc).length=acc.length+l.length
 | [],acc=>by simp [jl]
 | o ::l,acc=>by
  obtain ⟨h1,h2⟩:=sC l (acc ++ [lz acc o])
  simp only [jl]
  refine ⟨?_,by rw [h2]; simp; omega⟩
  have:=congrArg (List.take acc.length) h1
  rw [List.take_take] at this
  simpa using this
theorem vg: ∀(l:List Oper) (acc:List Nat) (j:Nat) (o:Oper),l[j]? =some o->
  (jl l acc)[acc.length+j]? =some (lz ((jl l acc).take (acc.length+j)) o)
 | [],acc,j,o,h=>by simp at h
 | x ::l,acc,j,o,h=>by
  simp only [jl]
  cases j with
  | zero=>
   simp only [List.getElem?_cons_zero,ah] at h
   subst h
   obtain ⟨h1,h2⟩:=sC l (acc ++ [lz acc x])
   have e1:(jl l (acc ++ [lz acc x])).take acc.length=acc:=by
    have:=congrArg (List.take acc.length) h1
    rw [List.take_take] at this
    simpa using this
   rw [Nat.add_zero,e1]
   have e2:((jl l (acc ++ [lz acc x])).take (acc ++ [lz acc x]).length)[acc.length]? =(acc ++ [lz acc x])[acc.length]? :=by rw [h1]
   rw [List.getElem?_take,if_pos (by simp)] at e2
   rw [e2]; simp
  | succ j=>
   have:=vg l (acc ++ [lz acc x]) j o (by simpa using h)
   have e:(acc ++ [lz acc x]).length+j=acc.length+(j+1):=by simp; omega
   rw [e] at this
   exact this
theorem yA (acc:List Nat) (i:Nat): ∀(es:List Edge) (s:Nat),
  (es.foldl (fun s e=>if Region.binds .any e then s ||| (2 ^ e.on ||| acc.getD e.on 0) else s) s).testBit i=true->
   s.testBit i=true∨∃e∈es,Region.binds .any e=true/\(e.on=i∨(acc.getD e.on 0).testBit i=true)
 | [],s,h=> .inl h
 | e ::es,s,h=>by
  simp only [List.foldl_cons] at h
  rcases yA acc i es _ h with h | ⟨e',h1,h2⟩
  ·split at h
   ·rename_i hb
    simp only [Nat.testBit_or,Bool.or_eq_true] at h
    rcases h with h | h | h
    ·exact .inl h
    ·rw [Nat.testBit_two_pow] at h
     exact .inr ⟨e,by simp,hb, .inl (by simpa using h)⟩
    ·exact .inr ⟨e,by simp,hb, .inr h⟩
   ·exact .inl h
  ·exact .inr ⟨e',by simp [h1],h2⟩
def Pre (ops:Array Oper) (j i:Nat):Prop:=((J6 ops).getD j 0).testBit i=true
theorem PN {ops:Array Oper} {j i:Nat} {o:Oper} (ho:ops[j]? =some o) (h:Pre ops j i) :
  ∃e∈o.after,Region.binds .any e=true/\(e.on=i∨(e.on < j/\Pre ops e.on i)):=by
 unfold Pre J6 at h
 have hg:=vg ops.toList [] j o (by simpa using ho)
 simp only [List.length_nil,Nat.zero_add] at hg
 rw [a9,hg] at h
 simp only [Option.getD_some,lz] at h
 rcases yA _ i _ _ h with h | ⟨e,h1,h2,h3⟩
 ·simp at h
 ·refine ⟨e,by simpa using h1,h2,?_⟩
  rcases h3 with h3 | h3
  ·exact .inl h3
  ·right
   by_cases aN:e.on < j
   ·refine ⟨aN,?_⟩
    unfold Pre J6
    rw [a9,List.getElem?_take,if_pos aN,←a9] at h3
    exact h3
   ·rw [a9,List.getElem?_take,if_neg aN] at h3
    simp at h3
def Ie (ops:Array Oper) (L:Nat->Bool):Prop:=∀j o,ops[j]? =some o->L j=true->∀e∈o.after,Region.binds .any e=true->L e.on=true
theorem n7 {ops:Array Oper} {L:Nat->Bool} (hL:Ie ops L): ∀(j:Nat) {i:Nat} {o:Oper},ops[j]? =some o->(∀e∈o.after,Region.binds .any e=true->L e.on=true)->Pre ops j i->L i=true:=by
 intro j
 induction j using Nat.strongRecOn with
 | _ j ih=>
  intro i o ho hr h
  obtain ⟨e,h1,h2,h3⟩:=PN ho h
  rcases h3 with rfl | ⟨aN,hp⟩
  ·exact hr e h1 h2
  ·have he:=hr e h1 h2
   cases hoe:ops[e.on]? with
   | none=>
    have:ops.size<=e.on:=by
     rcases Nat.lt_or_ge e.on ops.size with h' | h'
     ·simp [h'] at hoe
     ·exact h'
    have:j < ops.size:=(Array.getElem?_eq_some_iff.1 ho).1
    omega
   | some oe=>exact ih e.on aN hoe (hL e.on oe hoe he) hp
theorem n9 {ms:List Nat} {os:List aZ} (h:Bj ms os=true) {i j:Nat} (hij:i < j) {p q:aZ} (hp:os[i]? =some p) (hq:os[j]? =some q) (hc:AI p q=true) :
  (ms.getD j 0).testBit i=true:=by
 unfold Bj at h
 have hj:j < os.length:=(bA.1 hq).1
 have h1:=bj.1 h j (by simpa using hj)
 have h2:=bj.1 h1 i (by simpa using hij)
 rw [hp,hq] at h2
 simpa [hc] using h2
section
variable {G:Nat->ai} {ip:Nat->Option aq}
theorem val_congr {fr fr':Fr} {x:bq} (h: ∀t∈x.tmps,fr.get t=fr'.get t):val G fr x=val G fr' x:=by
 cases x with
 | tmp t=>exact h t (by simp [bq.tmps])
 | _=>rfl
theorem HK {r:kr} {o:cB} {fr fr':Fr} {σ:ag} (h: ∀x∈o.opds,val G fr x=val G fr' x):bz ip G r o fr σ=bz ip G r o fr' σ:=by
 have hm: ∀(l:List bq),(∀x∈l,val G fr x=val G fr' x)->l.map (val G fr)=l.map (val G fr'):=fun l hl=>List.map_congr_left hl
 have ho: ∀(l:Option bq),(∀x∈l.toList,val G fr x=val G fr' x)->l.map (val G fr)=l.map (val G fr'):=fun l hl=>by
  cases l with
  | none=>rfl
  | some x=>simp [hl x (by simp)]
 cases o with
 | new z=>rfl
 | build z ps=>
  have:(ps.map fun (o,s,x)=>(o,s,val G fr x))=ps.map fun (o,s,x)=>(o,s,val G fr' x):=List.map_congr_left (fun p hp=>by
   obtain ⟨o,s,x⟩:=p
   simp only [cB.opds,List.mem_map] at h
   show (o,s,val G fr x)=(o,s,val G fr' x)
   rw [h x ⟨(o,s,x),hp,rfl⟩])
  simp only [bz,aj,this]
 | buildA sz z ps=>
  have:(ps.map fun (i,x)=>(i*sz,sz,val G fr x))=ps.map fun (i,x)=>(i*sz,sz,val G fr' x):=List.map_congr_left (fun p hp=>by
   obtain ⟨o,x⟩:=p
   simp only [cB.opds,List.mem_map] at h
   show (o*sz,sz,val G fr x)=(o*sz,sz,val G fr' x)
   rw [h x ⟨(o,x),hp,rfl⟩])
  simp only [bz,aj,this]
 | buildSl own sz len z ps=>
  have:(ps.map fun (i,x)=>(i*sz,sz,val G fr x))=ps.map fun (i,x)=>(i*sz,sz,val G fr' x):=List.map_congr_left (fun p hp=>by
   obtain ⟨o,x⟩:=p
   simp only [cB.opds,List.mem_map] at h
   show (o*sz,sz,val G fr x)=(o*sz,sz,val G fr' x)
   rw [h x ⟨(o,x),hp,rfl⟩])
  cases own <;> simp only [bz,aj,this]
 | mkfn f a c=>
  have h1:=hm a (fun x hx=>h x (by simp [cB.opds,hx]))
  have h2:=hm c (fun x hx=>h x (by simp [cB.opds,hx]))
  simp only [bz,aj,h1,h2]
 | slice sz x lo hi mx=>
  have h0:=h x (by simp [cB.opds])
  have h1:=ho lo (fun y hy=>h y (by simp [cB.opds] at hy ⊢; simp [hy]))
  have h2:=ho hi (fun y hy=>h y (by simp [cB.opds] at hy ⊢; simp [hy]))
  have h3:=ho mx (fun y hy=>h y (by simp [cB.opds] at hy ⊢; simp [hy]))
  simp only [bz,aj,h0,h1,h2,h3]
 | sliceS x lo hi=>
  have h0:=h x (by simp [cB.opds])
  have h1:=ho lo (fun y hy=>h y (by simp [cB.opds] at hy ⊢; simp [hy]))
  have h2:=ho hi (fun y hy=>h y (by simp [cB.opds] at hy ⊢; simp [hy]))
  simp only [bz,aj,h0,h1,h2]
 | sliceA n sz x lo hi=>
  have h0:=h x (by simp [cB.opds])
  have h1:=ho lo (fun y hy=>h y (by simp [cB.opds] at hy ⊢; simp [hy]))
  have h2:=ho hi (fun y hy=>h y (by simp [cB.opds] at hy ⊢; simp [hy]))
  simp only [bz,aj,h0,h1,h2]
 | call m f xs=>
  have h0:=h f (by simp [cB.opds])
  have h1:=hm xs (fun x hx=>h x (by simp [cB.opds,hx]))
  cases m <;> simp only [bz,h0,h1]
 | no=>rfl
 | ext k xs=>
  have h1:=hm xs (fun x hx=>h x (by simp [cB.opds,hx]))
  simp only [bz,aj,h1]
 | prim k xs=>
  have h1:=hm xs (fun x hx=>h x (by simp [cB.opds,hx]))
  simp only [bz,h1]
 | conv c x=>
  have h0:=h x (by simp [cB.opds])
  cases c <;> simp only [bz,aj,h0]
 | pick c a b=>simp only [bz,aj,h c (by simp [cB.opds]),h a (by simp [cB.opds]),h b (by simp [cB.opds])]
 | store n p v=>simp only [bz,h p (by simp [cB.opds]),h v (by simp [cB.opds])]
 | storeS n p v=>simp only [bz,h p (by simp [cB.opds]),h v (by simp [cB.opds])]
 | bin op x y=>simp only [bz,aj,h x (by simp [cB.opds]),h y (by simp [cB.opds])]
 | eqb n x y=>simp only [bz,aj,h x (by simp [cB.opds]),h y (by simp [cB.opds])]
 | eqs k n x y=>simp only [bz,aj,h x (by simp [cB.opds]),h y (by simp [cB.opds])]
 | append a b c x y=>simp only [bz,h x (by simp [cB.opds]),h y (by simp [cB.opds])]
 | eqp n x y=>simp only [bz,aj,h x (by simp [cB.opds]),h y (by simp [cB.opds])]
 | eqa m n x y=>simp only [bz,aj,h x (by simp [cB.opds]),h y (by simp [cB.opds])]
 | nilc x=>simp only [bz,aj,h x (by simp [cB.opds])]
 | sdata x=>simp only [bz,aj,h x (by simp [cB.opds])]
 | idxV sz len n x y=>simp only [bz,aj,h x (by simp [cB.opds]),h y (by simp [cB.opds])]
 | arr n x=>simp only [bz,aj,h x (by simp [cB.opds])]
 | max2 n x y=>simp only [bz,aj,h x (by simp [cB.opds]),h y (by simp [cB.opds])]
 | idxS x y=>simp only [bz,aj,h x (by simp [cB.opds]),h y (by simp [cB.opds])]
 | idxA a b x y=>simp only [bz,aj,h x (by simp [cB.opds]),h y (by simp [cB.opds])]
 | mv x=>simp only [bz,aj,h x (by simp [cB.opds])]
 | box x=>simp only [bz,h x (by simp [cB.opds])]
 | load n x=>simp only [bz,aj,h x (by simp [cB.opds])]
 | boxV x=>simp only [bz,aj,h x (by simp [cB.opds])]
 | loadV n x=>simp only [bz,aj,h x (by simp [cB.opds])]
 | loadF n x=>simp only [bz,aj,h x (by simp [cB.opds])]
 | eqn k n x=>simp only [bz,aj,h x (by simp [cB.opds])]
 | un op x=>simp only [bz,aj,h x (by simp [cB.opds])]
 | fieldA n x=>simp only [bz,aj,h x (by simp [cB.opds])]
 | field o n x=>simp only [bz,aj,h x (by simp [cB.opds])]
 | extract x i=>simp only [bz,aj,h x (by simp [cB.opds])]
 | len s x=>simp only [bz,aj,h x (by simp [cB.opds])]
theorem xS {r:kr} {o:aZ} {fr fr':Fr} {σ:ag} (h: ∀t∈o.names,fr.get t=fr'.get t):wanted o.guard fr=wanted o.guard fr'/\bz ip G r o.op fr σ=bz ip G r o.op fr' σ:=by
 constructor
 ·unfold wanted
  cases hg:o.guard with
  | none=>rfl
  | some p=>
   obtain ⟨t,b⟩:=p
   simp only
   rw [h t (by simp [aZ.names,hg])]
 ·refine HK (fun x hx=>val_congr (fun t ht=>h t ?_))
  simp only [aZ.names,List.mem_append,List.mem_flatMap]
  exact .inl ⟨x,hx,ht⟩
def ag.le (σ τ:ag):Prop:=(∀b x,σ.get b=some x->τ.get b=some x)/\(∀b x,τ.get b=some x->σ.get b=some x∨(σ.get b=none/\∃cs,x= .own cs))/\σ.next<=τ.next/\(∀b e,(b,jS.tag e)∈τ.m->(b,jS.tag e)∈σ.m)
theorem ag.le_refl (σ:ag):σ.le σ:=⟨fun _ _ h=>h,fun _ _ h=> .inl h,aE _,fun _ _ h=>h⟩
theorem ag.le_trans {a b c:ag} (h:a.le b) (k:b.le c):a.le c:=by
 refine ⟨fun x y hx=>k.1 x y (h.1 x y hx),fun x y hx=> ?_,Nat.le_trans h.2.2.1 k.2.2.1,fun x y hx=>h.2.2.2 x y (k.2.2.2 x y hx)⟩
 rcases k.2.1 x y hx with h1 | ⟨h1,h2⟩
 ·exact h.2.1 x y h1
 ·right
  refine ⟨?_,h2⟩
  cases ha:a.get x with
  | none=>rfl
  | some z=>have:=h.1 x z ha; rw [h1] at this; simp at this
theorem lI {σ τ:ag} (h:σ.le τ) {b:Nat} {cs:ai} (hc:σ.cells b=some cs):τ.cells b=some cs:=by
 unfold ag.cells at hc ⊢
 cases hg:σ.get b with
 | none=>simp [hg] at hc
 | some x=>rw [h.1 b x hg]; rw [hg] at hc; exact hc
theorem Gt {σ τ:ag} (h:σ.le τ) {p:AV} {n:aD} {v:AV} (hr:ec σ p n=some v):ec τ p n=some v:=by
 unfold ec at hr ⊢
 cases p with
 | ptr b off=>
  simp only at hr ⊢
  cases hc:σ.cells b with
  | none=>simp [hc] at hr
  | some cs=>rw [lI h hc]; rw [hc] at hr; exact hr
 | vptr=>exact hr
 | _=>simp at hr
def ag.fsame (σ τ:ag):Prop:=∀b cs,σ.get b=some (.frz cs)↔τ.get b=some (.frz cs)
theorem ag.fsame.refl (σ:ag):σ.fsame σ:=fun _ _=>Iff.rfl
theorem ag.fsame.trans {a b c:ag} (h:a.fsame b) (k:b.fsame c):a.fsame c:=fun x y=>(h x y).trans (k x y)
theorem ag.fsame.symm {a b:ag} (h:a.fsame b):b.fsame a:=fun x y=>(h x y).symm
theorem Qq {σ τ:ag} (h:σ.le τ):σ.fsame τ:=fun b cs=>⟨fun hb=>h.1 b _ hb,fun hb=>by
 rcases h.2.1 b _ hb with h1 | ⟨_,_,h2⟩
 ·exact h1
 ·simp at h2⟩
theorem qJ {σ τ:ag} (h:σ.fsame τ) {p:AV} {n:aD} {v:AV} (hr:eD σ p n=some v):eD τ p n=some v:=by
 unfold eD at hr ⊢
 split at hr
 ·split at hr
  case h_2=>simp at hr
  rename_i hg
  simp only [(h _ _).1 hg]
  exact hr
 ·exact hr
 ·exact hr
 ·exact hr
 ·simp at hr
 ·split at hr
  case h_2=>simp at hr
  rename_i hg
  simp only [(h _ _).1 hg]
  exact hr
 ·simp at hr
theorem DM {σ τ:ag} (h:σ.le τ) {p:AV} {n:aD} {v:AV} (hr:eD σ p n=some v):eD τ p n=some v:=qJ (Qq h) hr
theorem nF {o:cB} (h:o.cls≠1):o.isF=false:=by
 cases o <;> first | rfl | (simp [cB.cls] at h)
theorem wm {p q:cB} (h:p.cls=3) (h1:1<=q.cls) (hF:q.isF=false):wmeets p q=true:=by simp [wmeets,h,h1,hF]
theorem wm' {p q:cB} (h:p.cls=3) (h1:1<=q.cls) (hF:p.isW=false):wmeets p q=true:=by simp [wmeets,h,h1,hF]
theorem DC {σ τ:ag} (h:σ.le τ) {n sz:Nat} {x v:AV} {lo hi:Option Int} (hr:gR σ n sz x lo hi=some v):gR τ n sz x lo hi=some v:=by
 unfold gR at hr ⊢
 split at hr
 case h_2=>simp at hr
 split at hr
 case isFalse=>simp at hr
 rename_i hc
 rw [if_pos hc]
 cases x with
 | ptr b off=>
  simp only at hr ⊢
  cases hc:σ.cells b with
  | none=>simp [hc] at hr
  | some c=>rw [lI h hc]; rw [hc] at hr; exact hr
 | _=>exact hr
theorem O8 {σ τ:ag} (h:σ.le τ) {sz:Nat} {x:AV} {cs:ai} (hr:rowOf σ sz x=some cs):rowOf τ sz x=some cs:=by
 unfold rowOf at hr ⊢
 cases x with
 | sl b off len j4 cap=>
  simp only at hr ⊢
  split at hr
  ·rename_i hs
   rw [if_pos hs]
   cases hc:σ.cells b with
   | none=>simp [hc] at hr
   | some c=>rw [lI h hc]; rw [hc] at hr; exact hr
  ·simp at hr
 | _=>exact hr
theorem mg {f g:AV->Option AV} (h: ∀x y,f x=some y->g x=some y): ∀ {l m:ai},dt f l=some m->dt g l=some m
 | [],m,hm=>hm
 | a ::l,m,hm=>by
  simp only [dt] at hm ⊢
  cases hf:f a with
  | none=>simp [hf] at hm
  | some b=>
   rw [h a b hf]
   rw [hf] at hm
   simp only at hm ⊢
   cases hl:dt f l with
   | none=>simp [hl] at hm
   | some m'=>rw [mg h hl]; rw [hl] at hm; exact hm
theorem Pc {σ τ:ag} (h:σ.le τ): ∀(d:Nat) (x y:AV),rb σ d x=some y->rb τ d x=some y
 | 0,x,y,hr=>by simp only [rb] at hr ⊢; exact hr
 | d+1,x,y,hr=>by
  have ih:=Pc h d
  simp only [rb] at hr ⊢
  split at hr
  ·rename_i hc; rw [if_pos hc]; exact hr
  ·rename_i hc
   rw [if_neg hc]
   cases x with
   | ptr b off=>
    simp only at hr ⊢
    cases lC:σ.cells b with
    | none=>simp [lC] at hr
    | some cs=>
     rw [lI h lC]; rw [lC] at hr
     simp only at hr ⊢
     cases hm:dt (rb σ d) cs with
     | none=>simp [hm] at hr
     | some m=>rw [mg ih hm]; rw [hm] at hr; exact hr
   | sl b off len sz cap=>
    simp only at hr ⊢
    cases lC:σ.cells b with
    | none=>simp [lC] at hr
    | some cs=>
     rw [lI h lC]; rw [lC] at hr
     simp only at hr ⊢
     split at hr
     ·rename_i aA
      rw [if_pos aA]
      cases hm:dt (rb σ d) ((cs.drop off).take (len*sz)) with
      | none=>simp [hm] at hr
      | some m=>rw [mg ih hm]; rw [hm] at hr; exact hr
     ·simp at hr
   | fn f a c=>
    simp only at hr ⊢
    cases h1:dt (rb σ d) a with
    | none=>simp [h1] at hr
    | some a'=>
     cases h2:dt (rb σ d) c with
     | none=>simp [h1,h2] at hr
     | some c'=>rw [mg ih h1,mg ih h2]; rw [h1,h2] at hr; exact hr
   | agg cs=>
    simp only at hr ⊢
    cases hm:dt (rb σ d) cs with
    | none=>simp [hm] at hr
    | some m=>rw [mg ih hm]; rw [hm] at hr; exact hr
   | tup cs=>
    simp only at hr ⊢
    cases hm:dt (rb σ d) cs with
    | none=>simp [hm] at hr
    | some m=>rw [mg ih hm]; rw [hm] at hr; exact hr
   | _=>simp at hr
theorem sj {r:kr} {ea:Bool} {f:AV} {args:ai} {σ σ' τ:ag} (h:ag.le σ τ) {v:AV} (hd:gv ip r ea true f args σ=some (v,σ')):σ'=σ/\gv ip r ea true f args τ=some (v,τ):=by
 unfold gv at hd ⊢
 split at hd
 case h_2=>simp at hd
 rename_i f' args' h1 h2
 rw [Pc h _ _ _ h1,mg (Pc h bK) h2]
 simp only
 split at hd
 case h_2=>simp at hd
 rename_i r1 σ1 hs
 split at hd
 case h_2=>simp at hd
 rename_i r' hr'
 split at hd
 ·rename_i aA
  simp only [ah,aI] at hd
  obtain ⟨rfl,rfl⟩:=hd
  rw [if_pos aA]
  exact ⟨rfl,rfl⟩
 ·simp at hd
theorem XU {r:kr} {f:AV} {σ τ:ag} (h:ag.le σ τ) (hd:eV ip r f σ=true):eV ip r f τ=true:=by
 unfold eV at hd ⊢
 split at hd
 case h_2=>simp at hd
 rename_i h1 h2
 rw [(sj h h1).2,(sj h h2).2]
 exact hd
theorem wA {r:kr} {o:cB} (hc:o.cls<=1) {fr:Fr} {σ τ σ':ag} {v:AV} (h:σ.le τ) (hd:bz ip G r o fr σ=some (v,σ')):σ'=σ/\bz ip G r o fr τ=some (v,τ):=by
 have bB: ∀ {o:cB},(∀v,aj G o fr σ=some v->aj G o fr τ=some v)->(aj G o fr σ).map (fun v=>(v,σ))=some (v,σ')->σ'=σ/\(aj G o fr τ).map (fun v=>(v,τ))=some (v,τ):=by
  intro o hp hh
  simp only [cp,aI] at hh
  obtain ⟨v',hv,rfl,rfl⟩:=hh
  exact ⟨rfl,by rw [hp _ hv]; rfl⟩
 cases o with
 | box=>simp [cB.cls] at hc
 | new=>simp [cB.cls] at hc
 | store=>simp [cB.cls] at hc
 | storeS n p x=>
  simp only [bz] at hd ⊢
  unfold fN at hd ⊢
  split at hd
  case h_2=>cases hd
  rename_i b off hb
  split at hd
  case h_2=>cases hd
  rename_i cs lC
  split at hd <;> simp only [ah,aI,reduceCtorEq] at hd
  rename_i aA
  obtain ⟨rfl,rfl⟩:=hd
  have ho:(τ.owned b).isSome=true:=by
   obtain ⟨cs',ho⟩:=Option.isSome_iff_exists.1 aA.2.2.2
   have hg:σ.get b=some (.own cs'):=by
    unfold ag.owned at ho
    split at ho
    ·rename_i hh; rw [hh]; rw [br ho]
    ·cases ho
   unfold ag.owned
   rw [h.1 b _ hg]; rfl
  simp only [lI h lC]
  rw [if_pos ⟨aA.1,aA.2.1,aA.2.2.1,ho⟩]
  exact ⟨trivial,rfl⟩
 | append=>simp [cB.cls] at hc
 | prim=>simp [cB.cls] at hc
 | buildSl own sz len z ps=>
  cases own with
  | true=>simp [cB.cls] at hc
  | false=>exact bB (o:= .buildSl false sz len z ps) (fun v hv=>hv) hd
 | load n p=>exact bB (o:= .load n p) (fun v hv=>Gt h hv) hd
 | eqp neg x y=>
  refine bB (o:= .eqp neg x y) (fun v hv=> ?_) hd
  simp only [aj] at hv ⊢
  unfold AE at hv ⊢
  split at hv
  ·split at hv
   ·rename_i hc
    obtain ⟨cs,lC⟩:=Option.isSome_iff_exists.1 hc.2
    rw [if_pos ⟨hc.1,by rw [lI h lC]; rfl⟩]; exact hv
   ·cases hv
  ·cases hv
 | sliceA n sz x lo hi=>
  refine bB (o:= .sliceA n sz x lo hi) (fun v hv=> ?_) hd
  simp only [aj] at hv ⊢
  split at hv
  ·exact DC h hv
  ·simp at hv
 | loadF n p=>exact bB (o:= .loadF n p) (fun v hv=>DM h hv) hd
 | conv c x=>
  cases c with
  | ofBytes=>
   refine bB (o:= .conv .ofBytes x) (fun v hv=> ?_) hd
   simp only [aj] at hv ⊢
   cases hr:rowOf σ 1 (val G fr x) with
   | none=>simp [hr] at hv
   | some cs=>rw [O8 h hr]; rw [hr] at hv; exact hv
  | int k=>exact bB (o:= .conv (.int k) x) (fun v hv=>hv) hd
  | same=>exact bB (o:= .conv .same x) (fun v hv=>hv) hd
  | toBytes=>exact bB (o:= .conv .toBytes x) (fun v hv=>hv) hd
  | flo=>exact bB (o:= .conv .flo x) (fun v hv=>hv) hd
 | call m f xs=>
  cases m with
  | shared=>simp [cB.cls] at hc
  | pure=>simp [cB.cls] at hc
  | strict=>
   obtain ⟨h1,h2⟩:=sj h hd
   exact ⟨h1,h2⟩
  | split=>simp [cB.cls] at hc
  | splitS=>
   simp only [bz] at hd ⊢
   split at hd
   ·rename_i h1
    split at hd <;> simp only [ah,aI,reduceCtorEq] at hd
    rename_i h2
    obtain ⟨rfl,rfl⟩:=hd
    rw [if_pos h1,if_pos (XU h h2)]
    exact ⟨rfl,rfl⟩
   ·rename_i h1
    rw [if_neg h1]
    obtain ⟨h1,h2⟩:=sj h hd
    exact ⟨h1,h2⟩
 | mv x=>exact bB (o:= .mv x) (fun v hv=>hv) hd
 | pick c a b=>exact bB (o:= .pick c a b) (fun v hv=>hv) hd
 | build z ps=>exact bB (o:= .build z ps) (fun v hv=>hv) hd
 | buildA sz z ps=>exact bB (o:= .buildA sz z ps) (fun v hv=>hv) hd
 | boxV x=>exact bB (o:= .boxV x) (fun v hv=>hv) hd
 | loadV n x=>exact bB (o:= .loadV n x) (fun v hv=>hv) hd
 | bin op x y=>exact bB (o:= .bin op x y) (fun v hv=>hv) hd
 | eqb n x y=>exact bB (o:= .eqb n x y) (fun v hv=>hv) hd
 | eqn k n x=>exact bB (o:= .eqn k n x) (fun v hv=>hv) hd
 | eqs k n x y=>exact bB (o:= .eqs k n x y) (fun v hv=>hv) hd
 | un op x=>exact bB (o:= .un op x) (fun v hv=>hv) hd
 | mkfn f a c=>exact bB (o:= .mkfn f a c) (fun v hv=>hv) hd
 | slice sz x lo hi mx=>exact bB (o:= .slice sz x lo hi mx) (fun v hv=>hv) hd
 | sliceS x lo hi=>exact bB (o:= .sliceS x lo hi) (fun v hv=>hv) hd
 | fieldA off x=>exact bB (o:= .fieldA off x) (fun v hv=>hv) hd
 | field off n x=>exact bB (o:= .field off n x) (fun v hv=>hv) hd
 | idxA sz arr x i=>exact bB (o:= .idxA sz arr x i) (fun v hv=>hv) hd
 | idxS x i=>exact bB (o:= .idxS x i) (fun v hv=>hv) hd
 | extract x i=>exact bB (o:= .extract x i) (fun v hv=>hv) hd
 | len s x=>exact bB (o:= .len s x) (fun v hv=>hv) hd
 | eqa m n x y=>exact bB (o:= .eqa m n x y) (fun v hv=>hv) hd
 | nilc x=>exact bB (o:= .nilc x) (fun v hv=>hv) hd
 | sdata x=>exact bB (o:= .sdata x) (fun v hv=>hv) hd
 | idxV sz len n x y=>exact bB (o:= .idxV sz len n x y) (fun v hv=>hv) hd
 | arr n x=>exact bB (o:= .arr n x) (fun v hv=>hv) hd
 | max2 n x y=>exact bB (o:= .max2 n x y) (fun v hv=>hv) hd
 | ext k xs=>exact bB (o:= .ext k xs) (fun v hv=>hv) hd
 | no=>simp [bz,aj] at hd
theorem ot {r:kr} {o:cB} (hc:o.cls=2) {fr:Fr} {σ σ':ag} {v:AV} (hd:bz ip G r o fr σ=some (v,σ')): ∃cs,σ'=σ.alloc cs:=by
 cases o with
 | box x=>
  simp only [bz] at hd
  split at hd <;> simp only [ah,aI,reduceCtorEq] at hd
  exact ⟨_,hd.2.symm⟩
 | new z=>
  simp only [bz,ah,aI] at hd
  exact ⟨_,hd.2.symm⟩
 | buildSl own sz len z ps=>
  cases own with
  | false=>simp [cB.cls] at hc
  | true=>
   simp only [bz] at hd
   split at hd
   case h_2=>simp at hd
   split at hd <;> simp only [ah,aI,reduceCtorEq] at hd
   exact ⟨_,hd.2.symm⟩
 | conv c x=>cases c <;> simp [cB.cls] at hc
 | call m f xs=>cases m <;> simp [cB.cls] at hc
 | _=>simp [cB.cls] at hc
end
end Go.Ab
namespace Go.Ab
open Go.RowKit
section
variable {P:Program} {fm gm:Nat->aD} {G:Nat->ai} {ip:Nat->Option aq}
theorem doOp_n {r:kr} {o:cB} (hc:o.cls=0) {fr:Fr} {σ σ':ag} (τ:ag) {v:AV} (hd:bz ip G r o fr σ=some (v,σ')):σ'=σ/\bz ip G r o fr τ=some (v,τ):=by
 have bB: ∀ {o:cB},(∀v,aj G o fr σ=some v->aj G o fr τ=some v)->(aj G o fr σ).map (fun v=>(v,σ))=some (v,σ')->σ'=σ/\(aj G o fr τ).map (fun v=>(v,τ))=some (v,τ):=by
  intro o hp hh
  simp only [cp,aI] at hh
  obtain ⟨v',hv,rfl,rfl⟩:=hh
  exact ⟨rfl,by rw [hp _ hv]; rfl⟩
 cases o with
 | box=>simp [cB.cls] at hc
 | new=>simp [cB.cls] at hc
 | store=>simp [cB.cls] at hc
 | storeS=>simp [cB.cls] at hc
 | append=>simp [cB.cls] at hc
 | prim=>simp [cB.cls] at hc
 | load=>simp [cB.cls] at hc
 | sliceA=>simp [cB.cls] at hc
 | eqp=>simp [cB.cls] at hc
 | loadF=>simp [cB.cls] at hc
 | call m=>cases m <;> simp [cB.cls] at hc
 | buildSl own sz len z ps=>
  cases own with
  | true=>simp [cB.cls] at hc
  | false=>exact bB (o:= .buildSl false sz len z ps) (fun v hv=>hv) hd
 | conv c x=>
  cases c with
  | ofBytes=>simp [cB.cls] at hc
  | int k=>exact bB (o:= .conv (.int k) x) (fun v hv=>hv) hd
  | same=>exact bB (o:= .conv .same x) (fun v hv=>hv) hd
  | toBytes=>exact bB (o:= .conv .toBytes x) (fun v hv=>hv) hd
  | flo=>exact bB (o:= .conv .flo x) (fun v hv=>hv) hd
 | mv x=>exact bB (o:= .mv x) (fun v hv=>hv) hd
 | pick c a b=>exact bB (o:= .pick c a b) (fun v hv=>hv) hd
 | build z ps=>exact bB (o:= .build z ps) (fun v hv=>hv) hd
 | buildA sz z ps=>exact bB (o:= .buildA sz z ps) (fun v hv=>hv) hd
 | boxV x=>exact bB (o:= .boxV x) (fun v hv=>hv) hd
 | loadV n x=>exact bB (o:= .loadV n x) (fun v hv=>hv) hd
 | bin op x y=>exact bB (o:= .bin op x y) (fun v hv=>hv) hd
 | eqb n x y=>exact bB (o:= .eqb n x y) (fun v hv=>hv) hd
 | eqn k n x=>exact bB (o:= .eqn k n x) (fun v hv=>hv) hd
 | eqs k n x y=>exact bB (o:= .eqs k n x y) (fun v hv=>hv) hd
 | un op x=>exact bB (o:= .un op x) (fun v hv=>hv) hd
 | mkfn f a c=>exact bB (o:= .mkfn f a c) (fun v hv=>hv) hd
 | slice sz x lo hi mx=>exact bB (o:= .slice sz x lo hi mx) (fun v hv=>hv) hd
 | sliceS x lo hi=>exact bB (o:= .sliceS x lo hi) (fun v hv=>hv) hd
 | fieldA off x=>exact bB (o:= .fieldA off x) (fun v hv=>hv) hd
 | field off n x=>exact bB (o:= .field off n x) (fun v hv=>hv) hd
 | idxA sz arr x i=>exact bB (o:= .idxA sz arr x i) (fun v hv=>hv) hd
 | idxS x i=>exact bB (o:= .idxS x i) (fun v hv=>hv) hd
 | extract x i=>exact bB (o:= .extract x i) (fun v hv=>hv) hd
 | len s x=>exact bB (o:= .len s x) (fun v hv=>hv) hd
 | eqa m n x y=>exact bB (o:= .eqa m n x y) (fun v hv=>hv) hd
 | nilc x=>exact bB (o:= .nilc x) (fun v hv=>hv) hd
 | sdata x=>exact bB (o:= .sdata x) (fun v hv=>hv) hd
 | idxV sz len n x y=>exact bB (o:= .idxV sz len n x y) (fun v hv=>hv) hd
 | arr n x=>exact bB (o:= .arr n x) (fun v hv=>hv) hd
 | max2 n x y=>exact bB (o:= .max2 n x y) (fun v hv=>hv) hd
 | ext k xs=>exact bB (o:= .ext k xs) (fun v hv=>hv) hd
 | no=>simp [bz,aj] at hd
section
variable {w:World} {X:Nat->Prop} {μ:Mu} {σ σ' τ:ag} {N:Nat} {fr:Fr} {a:Act} {o:Oper} {v:AV}
theorem PG (vn: ∀g,aB (G g)=true) (g:bF P fm gm G w X μ σ N fr a) {n m:Nat} (tA:fV P fm gm G ip n) (hm:m < n) {io:cB} (gH:io.cls<=1) (hc:aS P fm gm io o.op=true)
  (h:bz ip G (run ip G m) io fr σ=some (v,σ')):KO P fm X μ o a w v:=by
 have bB: ∀ {io:cB},aS P fm gm io o.op=true->(aj G io fr σ).map (fun v=>(v,σ))=some (v,σ')->KO P fm X μ o a w v:=by
  intro io hc h
  simp only [cp,aI] at h
  obtain ⟨v',hv,rfl,rfl⟩:=h
  exact .of_yld (JT g hc hv)
 cases io with
 | box x=>simp [cB.cls] at gH
 | new z=>simp [cB.cls] at gH
 | store n p x=>simp [cB.cls] at gH
 | storeS n p x=>exact Ef g hc (by simpa [bz] using h)
 | append=>simp [cB.cls] at gH
 | prim=>simp [cB.cls] at gH
 | buildSl own sz len z ps=>
  cases own with
  | false=>exact bB hc h
  | true=>simp [cB.cls] at gH
 | call sh f xs=>
  cases sh with
  | shared=>simp [cB.cls] at gH
  | pure=>simp [cB.cls] at gH
  | strict=>
   rcases kK g tA hm (fun w' X' hb hX=>ml vn g.glob w' X' hb hX) hc h with ⟨h1,_⟩ | ⟨h1,_⟩
   ·exact h1
   ·simp at h1
  | split=>simp [cB.cls] at gH
  | splitS=>
   simp only [bz] at h
   split at h
   ·rename_i h1
    split at h <;> simp only [ah,aI,reduceCtorEq] at h
    rename_i h2
    obtain ⟨rfl,rfl⟩:=h
    exact (GU g tA hm (fun w' X' hb hX=>ml vn g.glob w' X' hb hX) hc h1 h2).weaken (fun _ _ hr=>Fk hr)
   ·rcases kK g tA hm (fun w' X' hb hX=>ml vn g.glob w' X' hb hX) hc h with ⟨h1,_⟩ | ⟨h1,_⟩
    ·exact h1
    ·simp at h1
 | _=>exact bB hc h
theorem MO (g:bF P fm gm G w X μ τ N fr a) {io:cB} (gH:io.cls=2) (hc:aS P fm gm io o.op=true) {r:kr} (h:bz ip G r io fr σ=some (v,σ')) :
  ∃cs cv arr e,σ'=σ.alloc cs/\(execOp a.eval o).run P w= .ok (.value cv) (w.alloc (.cells arr e))/\cs.length<=arr.size/\(∀j,j < cs.length->RV fm w X μ (cs.getD j .undef) (arr.getD j Go.undef))/\
   ∀(w':World) (μ':Mu),μ' σ.next= .at w.heap.size 0 true->w'.heap[w.heap.size]? =some (.cells arr e (0,0))->RV fm w' X μ' v cv:=by
 obtain ⟨dst,op,type,pos,after,guard⟩:=o
 cases io with
 | box x=>
  simp only [bz] at h
  split at h <;> simp only [ah,aI,reduceCtorEq] at h
  rename_i hk
  obtain ⟨rfl,rfl⟩:=h
  simp only [aS] at hc
  split at hc
  case h_2=>simp at hc
  rename_i el x'
  obtain ⟨hl,hr⟩:=(a8 g.glob g.rf hc).cells hk
  exact ⟨_, .pointer (some ⟨w.heap.size,0+0,none⟩),_,el,rfl,rfl,Nat.le_of_eq hl,fun j _=>hr j,fun w' μ' h1 _=> .ptr _ _ _ _ _ h1⟩
 | new z=>
  simp only [bz,ah,aI] at h
  obtain ⟨rfl,rfl⟩:=h
  simp only [aS] at hc
  split at hc
  case h_2=>simp at hc
  rename_i t
  obtain ⟨zv,Ob,Dj⟩:=jy (P:=P) (fm:=fm) (w:=w) (X:=X) (μ:=μ) hc
  refine ⟨_, .pointer (some ⟨w.heap.size,0+0,none⟩),zv.cells,t,rfl,?_,Nat.le_of_eq Dj.1,fun j _=>Dj.2 j,fun w' μ' h1 _=> .ptr _ _ _ _ _ h1⟩
  simp [execOp,Instr.alloc,Ob,newVar,newRow]
 | buildSl own sz len z ps=>
  cases own with
  | false=>simp [cB.cls] at gH
  | true=>
   simp only [bz] at h
   split at h
   case h_2=>simp at h
   rename_i cs Ht
   split at h <;> simp only [ah,aI,reduceCtorEq] at h
   rename_i hz
   obtain ⟨rfl,rfl⟩:=h
   have kU:=hc
   simp only [aS] at hc
   split at hc
   case h_2=>simp at hc
   rename_i t cE lq
   have hex:execOp a.eval ⟨dst, .buildSlice t cE lq,type,pos,after,guard⟩=(do pure (.value (←Instr.buildSlice t cE (lq.map fun (i,x)=>(i,a.eval x))))):=by
    simp only [execOp]
   obtain ⟨e,qE,h1,h2,h3⟩:=pM (w:=w) (X:=X) (μ:=μ) g.glob g.rf kU hz.1 Ht
   have hlen:cs.length=len*sz:=by rw [oi _ _ _ Ht,gS,hz.1]
   have eA:qE.size=len*sz:=by rw [←h2.1,hlen]
   refine ⟨cs,_,qE,e,rfl,?_,Nat.le_of_eq h2.1,fun j _=>h2.2 j,fun w' μ' k1 k2=>RV.sl σ.next 0 len sz (some len) w.heap.size 0 len true qE e (0,0) k1 k2 aa (aE _) (.inr rfl)⟩
   rw [hex]
   simp only [Sem.run_bind,h1]
   rfl
 | conv c x=>cases c <;> simp [cB.cls] at gH
 | call m f xs=>cases m <;> simp [cB.cls] at gH
 | _=>simp [cB.cls] at gH
theorem XV (hS:RS (fm:=fm) τ w X μ) (hX: ∀b,X b->b < w.heap.size) {b:Nat} {cs:ai} {arr:Array Value} (e:TypeId) (hb:τ.get b=some (.own cs)) (zz:μ b= .unborn) (hl:cs.length<=arr.size)
  (hr: ∀j,j < cs.length->RV fm w X μ (cs.getD j .undef) (arr.getD j Go.undef)) :
  Ext w μ (w.alloc (.cells arr e)) (μ.bind b (.at w.heap.size 0 true))/\RS (fm:=fm) τ (w.alloc (.cells arr e)) X (μ.bind b (.at w.heap.size 0 true)):=by
 have gh:Ext w μ (w.alloc (.cells arr e)) (μ.bind b (.at w.heap.size 0 true)):=by
  refine ⟨rfl,rfl,rfl,by simp,fun blk hb _=>il w _ hb,fun blk ar el fz hb=>⟨ar,fz,?_,rfl⟩,fun b' blk base hm=> ?_,fun b' blk base o hm=> ?_,fun b' hm=> ?_⟩
  ·have aN:blk < w.heap.size:=by
    rcases Nat.lt_or_ge blk w.heap.size with h' | h'
    ·exact h'
    ·simp [Array.getElem?_eq_none h'] at hb
   show (w.heap.push _)[blk]? =_
   rw [il w _ aN]; exact hb
  ·by_cases h:b'=b
   ·subst h; simp [Mu.bind] at hm; right; omega
   ·simp [Mu.bind,h] at hm; exact .inl ⟨b',base,hm⟩
  ·have h:b'≠b:=by rintro rfl; rw [zz] at hm; simp at hm
   right; exact ⟨o,by simp [Mu.bind,h,hm]⟩
  ·have h:b'≠b:=by rintro rfl; rw [zz] at hm; simp at hm
   simp [Mu.bind,h,hm]
 refine ⟨gh,?_⟩
 refine ⟨fun b' blk base o hm=> ?_,fun b' blk base hm=> ?_,fun b' blk base hm=> ?_,fun b1 b2 blk base bZ hm dZ=> ?_,fun b' blk base o hm=> ?_,fun b' nu=> ?_,hS.lim,fun b' nu=> ?_,fun b' hm=> ?_,
  hS.tys.step (fun _ _ h=>h) (aE _) (fun b' _ _ o _ hu h=>⟨o,by
   have fX:b'≠b:=by rintro rfl; exact hu zz
   simpa [Mu.bind,fX] using h⟩) gh⟩
 ·by_cases h:b'=b
  ·simp [Mu.bind,h] at hm; simp; omega
  ·simp [Mu.bind,h] at hm; have:=hS.lt b' blk base o hm; simp; omega
 ·by_cases h:b'=b
  ·simp [Mu.bind,h] at hm
   intro hx
   have:=hX _ hx
   omega
  ·simp [Mu.bind,h] at hm; exact hS.far b' blk base hm
 ·by_cases h:b'=b
  ·simp [Mu.bind,h] at hm
  ·simp [Mu.bind,h] at hm
   exact rF gh (hS.lt b' blk base false hm) (hS.frz b' blk base hm)
 ·by_cases h:b1=b <;> by_cases h':b2=b
  ·rw [h,h']
  ·simp [Mu.bind,h,h'] at hm dZ; have:=hS.lt b2 blk bZ true dZ; omega
  ·simp [Mu.bind,h,h'] at hm dZ; have:=hS.lt b1 blk base true hm; omega
  ·simp [Mu.bind,h,h'] at hm dZ; exact hS.inj b1 b2 blk base bZ hm dZ
 ·by_cases h:b'=b
  ·simp [Mu.bind,h] at hm
   obtain ⟨rfl,rfl,rfl⟩:=hm
   subst h
   refine ⟨cs,arr,e,hb,heap_alloc_new w _,by omega,fun j hj=> ?_⟩
   rw [Nat.zero_add]
   exact (hr j hj).ext gh
  ·have dZ:μ b'= .at blk base o:=by simpa [Mu.bind,h] using hm
   obtain ⟨cs',arr',e',h1,h2,h3,h4⟩:=hS.cells b' blk base o dZ
   refine ⟨cs',arr',e',h1,?_,h3,fun j hj=>(h4 j hj).ext gh⟩
   show (w.heap.push _)[blk]? =_
   rw [il w _ (hS.lt b' blk base o dZ)]; exact h2
 ·have h:b'≠b:=by rintro rfl; rw [hb] at nu; simp at nu
  simp [Mu.bind,h,hS.born b' nu]
 ·have h:b'≠b:=by rintro rfl; rw [hb] at nu; simp at nu
  simp [Mu.bind,h,hS.gone b' nu]
 ·by_cases h:b'=b
  ·simp [Mu.bind,h] at hm
  ·exact hS.dead b' (by simpa [Mu.bind,h] using hm)
theorem RS.le (hS:RS (fm:=fm) σ w X μ) (h:σ.le τ) (Xa: ∀b x,τ.get b=some x->b < τ.next):RS (fm:=fm) τ w X μ:=by
 refine ⟨hS.lt,hS.far,hS.frz,hS.inj,fun b blk base o hm=> ?_,fun b hb=> ?_,Xa,fun b hb=> ?_,fun b hm=> ?_,hS.tys.step h.2.2.2 h.2.2.1 (fun _ _ _ o _ _ h=>⟨o,h⟩) (Ext.refl _ _)⟩
 ·obtain ⟨cs,arr,e,h1,h2⟩:=hS.cells b blk base o hm
  exact ⟨cs,arr,e,h.1 _ _ h1,h2⟩
 ·apply hS.born
  cases hg:σ.get b with
  | none=>rfl
  | some x=>have:=h.1 b x hg; rw [hb] at this; simp at this
 ·rcases h.2.1 b _ hb with h1 | ⟨_,cs,h1⟩
  ·exact hS.gone b h1
  ·simp at h1
 ·have h1:=hS.dead b hm
  cases hg:σ.get b with
  | none=>have:=hS.born b hg; rw [hm] at this; simp at this
  | some x=>
   simp only [ag.cells,hg] at h1
   simp only [ag.cells,h.1 b x hg]
   exact h1
end
structure Trace (ip:Nat->Option aq) (G:Nat->ai) (n:Nat) (os:List aZ) (fr:Fr) (σ:ag) (fr':Fr) (σ':ag) where
 frs:Nat->Fr
 sts:Nat->ag
 phi:Nat->AV
 f0:frs 0=fr
 s0:sts 0=σ
 fn:frs os.length=fr'
 sn:sts os.length=σ'
 put: ∀i io,os[i]? =some io->frs (i+1)=(frs i).put io.dst (phi i)
 step: ∀i io,os[i]? =some io->(wanted io.guard (frs i)=some false/\phi i= .tup []/\sts (i+1)=sts i)∨
  (wanted io.guard (frs i)=some true/\∃m,m < n/\bz ip G (run ip G m) io.op (frs i) (sts i)=some (phi i,sts (i+1)))
theorem nM.trace {n:Nat} {os:List aZ} {fr fr':Fr} {σ σ':ag} (h:nM ip G n os fr σ fr' σ'):Nonempty (Trace ip G n os fr σ fr' σ'):=by
 induction h with
 | nil fr σ=>exact ⟨⟨fun _=>fr,fun _=>σ,fun _=> .undef,rfl,rfl,rfl,rfl,fun i io h=>by simp at h,fun i io h=>by simp at h⟩⟩
 | step o os fr fr' σ σ1 σ' v m hm hw hd _ ih=>
  obtain ⟨t⟩:=ih
  refine ⟨⟨fun i=>match i with | 0=>fr | i+1=>t.frs i,fun i=>match i with | 0=>σ | i+1=>t.sts i,fun i=>match i with | 0=>v | i+1=>t.phi i,rfl,rfl,t.fn,t.sn,fun i io h=> ?_,fun i io h=> ?_⟩⟩
  ·cases i with
   | zero=>simp only [List.getElem?_cons_zero,ah] at h; subst h; exact t.f0
   | succ i=>exact t.put i io (by simpa using h)
  ·cases i with
   | zero=>
    simp only [List.getElem?_cons_zero,ah] at h
    subst h
    right
    refine ⟨hw,m,hm,?_⟩
    show bz ip G (run ip G m) o.op fr σ=some (v,t.sts 0)
    rw [t.s0]; exact hd
   | succ i=>exact t.step i io (by simpa using h)
 | skip o os fr fr' σ σ' hw _ ih=>
  obtain ⟨t⟩:=ih
  refine ⟨⟨fun i=>match i with | 0=>fr | i+1=>t.frs i,fun i=>match i with | 0=>σ | i+1=>t.sts i,fun i=>match i with | 0=> .tup [] | i+1=>t.phi i,rfl,rfl,t.fn,t.sn,fun i io h=> ?_,fun i io h=> ?_⟩⟩
  ·cases i with
   | zero=>simp only [List.getElem?_cons_zero,ah] at h; subst h; exact t.f0
   | succ i=>exact t.put i io (by simpa using h)
  ·cases i with
   | zero=>
    simp only [List.getElem?_cons_zero,ah] at h
    subst h
    left
    exact ⟨hw,rfl,t.s0⟩
   | succ i=>exact t.step i io (by simpa using h)
end
end Go.Ab
namespace Go.Ab
open Go.RowKit
section
variable {P:Program} {fm gm:Nat->aD} {G:Nat->ai} {ip:Nat->Option aq}
variable {n N:Nat} {os:List aZ} {ops:Array Oper} {fr fr':Fr} {σ σ':ag}
def pH (os:List aZ) (j:Nat):aD:=(os[j]?).bind (·.dst)
def lE (os:List aZ) (fr:Fr) (phi:Nat->AV) (L:Nat->Bool):Nat->Fr
 | 0=>fr
 | k+1=>if L k then (lE os fr phi L k).put (pH os k) (phi k) else lE os fr phi L k
theorem pV (fr:Fr) (dst:aD) (v:AV) (t:Nat):(fr.put dst v).get t=if dst=some t then v else fr.get t:=by
 cases dst with
 | none=>simp [Fr.put]
 | some d=>
  simp only [Fr.put,Fr.get,jD,ah]
  by_cases h:d=t
  ·rw [if_pos h,if_pos h]; rfl
  ·rw [if_neg h,if_neg h]
theorem oh (phi:Nat->AV) {L L':Nat->Bool} (t:Nat): ∀(k:Nat),(∀j,j < k->pH os j=some t->L j=L' j)->(lE os fr phi L k).get t=(lE os fr phi L' k).get t
 | 0,_=>rfl
 | k+1,h=>by
  have ih:=oh phi t k (fun j hj hd=>h j aa hd)
  simp only [lE]
  by_cases hd:pH os k=some t
  ·rw [h k aa hd]
   split
   ·rw [pV,pV,if_pos hd,if_pos hd]
   ·exact ih
  ·split <;> split <;> (try simp only [pV,if_neg hd]) <;> exact ih
theorem qd (phi:Nat->AV) {L:Nat->Bool} (t:Nat) (i:Nat): ∀(k:Nat),i<=k->(∀j,i<=j->j < k->pH os j=some t->L j=false)->(lE os fr phi L k).get t=(lE os fr phi L i).get t
 | 0,h,_=>by
  have:i=0:=by omega
  subst this; rfl
 | k+1,h,hh=>by
  by_cases hik:i=k+1
  ·subst hik; rfl
  ·have ih:=qd phi t i k aa (fun j h1 h2 hd=>hh j h1 aa hd)
   simp only [lE]
   split
   ·rename_i hl
    have hd:pH os k≠some t:=fun hd=>by rw [hh k aa aa hd] at hl; simp at hl
    rw [pV,if_neg hd]; exact ih
   ·exact ih
theorem tH (T:Trace ip G n os fr σ fr' σ'): ∀(k:Nat),k<=os.length->T.frs k=lE os fr T.phi (fun _=>true) k
 | 0,_=>T.f0
 | k+1,h=>by
  have hk:k < os.length:=by omega
  have h1:=T.put k os[k] (bo hk)
  rw [h1,tH T k aa]
  simp [lE,pH,bo hk]
theorem pY: ∀ {os:List aZ} {l:List Oper},eG P fm gm N ops os l=true->os.length=l.length/\∀(i:Nat) (io:aZ),os[i]? =some io->∃o:Oper,l[i]? =some o/\su P fm gm N ops io o=true
 | [], [],_=>⟨rfl,fun i io h=>by simp at h⟩
 | io ::os,o ::l,h=>by
  simp only [eG,ak] at h
  obtain ⟨h1,h2⟩:=pY h.2
  refine ⟨by simp [h1],fun i x hx=> ?_⟩
  cases i with
  | zero=>simp only [List.getElem?_cons_zero,ah] at hx; subst hx; exact ⟨o,rfl,h.1⟩
  | succ i=>exact h2 i x (by simpa using hx)
 | [],_ ::_,h=>by simp [eG] at h
 | _ ::_, [],h=>by simp [eG] at h
def ag.Lim (σ:ag):Prop:=∀b x,σ.get b=some x->b < σ.next
theorem ik {σ:ag} (h:σ.Lim) (cs:ai):(σ.alloc cs).Lim:=by
 intro b x hb
 rw [cT] at hb
 show b < σ.next+1
 by_cases Aq:b=σ.next
 ·omega
 ·rw [if_neg Aq] at hb; have:=h b x hb; omega
theorem mh {σ:ag} (h:σ.Lim) {b0:Nat} {y:jS} (E5:b0 < σ.next):(σ.set b0 y).Lim:=by
 intro b x hb
 rw [df] at hb
 show b < σ.next
 by_cases Aq:b=b0
 ·omega
 ·rw [if_neg Aq] at hb; exact h b x hb
theorem Hc {σ:ag} (h:σ.Lim):σ.freeze.Lim:=by
 intro b x hb
 rw [jK] at hb
 cases hg:σ.get b with
 | none=>simp [hg] at hb
 | some y=>exact h b y hg
theorem jF {σ:ag} (h:σ.Lim) {b:Nat} {cs:ai} (ho:σ.owned b=some cs):b < σ.next:=by
 unfold ag.owned at ho
 cases hg:σ.get b with
 | none=>simp [hg] at ho
 | some y=>exact h b y hg
theorem vh {σ:ag} (h:σ.Lim) (b0:Nat):(σ.freeze1 b0).Lim:=by
 unfold ag.freeze1
 split
 ·rename_i cs hg
  exact mh h (h _ _ hg)
 ·exact h
theorem EE {σ:ag} (h:σ.Lim) (v:AV):(σ.freezeV v).Lim:=by
 unfold ag.freezeV
 split
 ·exact vh h _
 ·exact vh h _
 ·exact h
theorem sI {fr:Fr}: ∀(ts:List Nat) {σ:ag},σ.Lim->(ke fr ts σ).Lim
 | [],_,h=>h
 | t ::ts,_,h=>sI ts (EE h (fr.get t))
theorem kd {σ:ag} (h:σ.Lim) (cs:ai):σ.fsame (σ.alloc cs):=by
 intro b c
 rw [cT]
 by_cases hb:b=σ.next
 ·subst hb
  rw [if_pos rfl]
  constructor
  ·intro hg; exact absurd (h _ _ hg) (Nat.lt_irrefl _)
  ·intro hg; simp at hg
 ·rw [if_neg hb]
theorem Ar {σ:ag} {b0:Nat} {y:jS} {cs:ai} (ho:σ.owned b0=some cs) (hy: ∀c,y≠ .frz c):σ.fsame (σ.set b0 y):=by
 intro b c
 rw [df]
 by_cases hb:b=b0
 ·subst hb
  rw [if_pos rfl]
  constructor
  ·intro hg; simp [ag.owned,hg] at ho
  ·intro hg; simp only [ah] at hg; exact absurd hg (hy c)
 ·rw [if_neg hb]
theorem s5 {σ:ag} {sz bytes n:Nat} {x:AV} {new:ai} {y:AV×ag} (hl:σ.Lim) (h:aJ σ sz bytes x new n=some y):σ.fsame y.2:=by
 unfold aJ at h
 split at h
 ·simp at h
 ·split at h
  case isFalse=>simp at h
  split at h
  ·split at h <;> simp only [ah,reduceCtorEq] at h
   subst h; exact .refl _
  ·split at h <;> simp only [ah] at h <;> subst h
   ·exact .refl _
   ·exact kd hl _
  ·split at h
   ·simp only [ah] at h; subst h; exact .refl _
   split at h
   case isFalse=>simp at h
   split at h <;> simp only [ah,reduceCtorEq] at h
   subst h; exact kd hl _
  ·split at h
   case isFalse=>simp at h
   split at h
   case h_2=>simp at h
   rename_i ho
   split at h
   ·simp only [ah] at h; subst h; exact .refl _
   ·split at h <;> simp only [ah,reduceCtorEq] at h
    subst h
    exact (Ar ho (fun c=>by simp)).trans (kd (mh hl (jF hl ho)) _)
  ·split at h
   ·simp only [ah] at h; subst h; exact .refl _
   split at h
   case isFalse=>simp at h
   split at h <;> simp only [ah,reduceCtorEq] at h
   subst h; exact kd hl _
  ·simp at h
theorem M3 {r:kr} {o:cB} (hW:o.isW=true) {fr:Fr} {σ:ag} {x:AV×ag} (hl:σ.Lim) (h:bz ip G r o fr σ=some x):σ.fsame x.2:=by
 cases o with
 | store n p v=>
  simp only [bz] at h
  split at h
  case h_2=>simp at h
  split at h
  case h_2=>simp at h
  rename_i ho
  split at h <;> simp only [ah,reduceCtorEq] at h
  subst h
  exact Ar ho (fun c=>by simp)
 | append sz bytes str p q=>
  simp only [bz] at h
  split at h
  ·split at h
   case h_2=>simp at h
   split at h
   case isFalse=>simp at h
   exact s5 hl h
  ·split at h
   case h_2=>simp at h
   exact s5 hl h
 | _=>simp [cB.isW] at hW
def Ib (r:kr):Prop:=∀k fr σ x,σ.Lim->r k fr σ=some x->x.2.Lim
theorem zR {r:kr} (hr:Ib r) {f:AV} {args:ai} {σ:ag} {x:AV×ag} (hl:σ.Lim) (h:dj ip r f args σ=some x):x.2.Lim:=by
 unfold dj at h
 cases f with
 | fn id first caps=>
  simp only at h
  cases hF:ip id with
  | none=>simp [hF] at h
  | some F=>
   simp only [hF] at h
   cases Kj:r [.code F.body] (eW (first ++args ++caps)) σ with
   | none=>rw [Kj] at h; simp at h
   | some y=>
    rw [Kj] at h
    obtain ⟨rL,σ1⟩:=y
    simp only at h
    split at h <;> simp only [ah,reduceCtorEq] at h
    subst h
    exact hr _ _ _ _ hl Kj
 | _=>simp at h
theorem tY {r:kr} {ea st:Bool} {f:AV} {args:ai} {σ:ag} {x:AV×ag} (hl:σ.Lim) (h:gv ip r ea st f args σ=some x):x.2.Lim:=by
 unfold gv at h
 split at h
 case h_2=>simp at h
 split at h
 case h_2=>simp at h
 split at h
 case h_2=>simp at h
 split at h
 ·simp only [ah] at h; subst h; exact hl
 ·split at h <;> simp only [ah,reduceCtorEq] at h
  subst h; exact Hc hl
theorem lM {σ:ag} {sz bytes n:Nat} {x:AV} {new:ai} {y:AV×ag} (hl:σ.Lim) (h:aJ σ sz bytes x new n=some y):y.2.Lim:=by
 unfold aJ at h
 split at h
 ·simp at h
 ·split at h
  case isFalse=>simp at h
  split at h
  ·split at h <;> simp only [ah,reduceCtorEq] at h
   subst h; exact hl
  ·split at h <;> simp only [ah] at h <;> subst h
   ·exact hl
   ·exact ik hl _
  ·split at h
   ·simp only [ah] at h; subst h; exact hl
   split at h
   case isFalse=>simp at h
   split at h <;> simp only [ah,reduceCtorEq] at h
   subst h; exact ik hl _
  ·split at h
   case isFalse=>simp at h
   split at h
   case h_2=>simp at h
   rename_i ho
   split at h
   ·simp only [ah] at h; subst h; exact hl
   ·split at h <;> simp only [ah,reduceCtorEq] at h
    subst h
    exact ik (mh hl (jF hl ho)) _
  ·split at h
   ·simp only [ah] at h; subst h; exact hl
   split at h
   case isFalse=>simp at h
   split at h <;> simp only [ah,reduceCtorEq] at h
   subst h; exact ik hl _
  ·simp at h
theorem Bu {σ:ag} (h:σ.Lim) {b0 e:Nat} (E5:b0 < σ.next):(σ.addTag b0 e).Lim:=by
 intro b x hb
 show b < σ.next
 unfold ag.get ag.addTag at hb
 rw [pg] at hb
 cases hl:look σ.m b with
 | some y=>exact h b y hl
 | none=>
  rw [hl] at hb
  simp only [look] at hb
  split at hb
  ·rename_i e; rw [←e]; exact E5
  ·cases hb
theorem vC {σ:ag} {sz bytes n:Nat} {x:AV} {new:ai} {y:AV×ag} (hn: ¬n=0) (h:aJ σ sz bytes x new n=some y):σ.next < y.2.next:=by
 unfold aJ at h
 split at h
 ·cases h
 split at h
 case isFalse=>cases h
 split at h
 ·(try rw [if_neg hn] at h); cases h
 ·try rw [if_neg hn] at h
  simp only [ah] at h; subst h; exact aR _
 ·try rw [if_neg hn] at h
  split at h
  case isFalse=>cases h
  split at h <;> simp only [ah,reduceCtorEq] at h
  subst h; exact aR _
 ·split at h
  case isFalse=>cases h
  split at h
  case h_2=>cases h
  try rw [if_neg hn] at h
  split at h
  case isFalse=>cases h
  simp only [ah] at h; subst h; exact aR _
 ·try rw [if_neg hn] at h
  split at h
  case isFalse=>cases h
  split at h <;> simp only [ah,reduceCtorEq] at h
  subst h; exact aR _
 ·cases h
theorem EF {σ:ag} {e sz bytes n:Nat} {x:AV} {new:ai} {y:AV×ag} (hl:σ.Lim) (h:jt σ e sz bytes x new n=some y):y.2.Lim:=by
 unfold jt at h
 split at h
 ·cases h
 rename_i hn
 split at h
 ·obtain ⟨⟨v,τ⟩,h2,h3⟩:=cp.1 h
  rw [←h3]; exact Bu (lM hl h2) (vC hn h2)
 ·split at h
  case isFalse=>cases h
  obtain ⟨⟨v,τ⟩,h2,h3⟩:=cp.1 h
  rw [←h3]; exact Bu (lM hl h2) (vC hn h2)
 ·cases h
theorem PM {σ:ag} {k:AT} {xs:ai} {y:AV×ag} (hl:σ.Lim) (h:gG k σ xs=some y):y.2.Lim:=by
 unfold gG at h
 split at h
 ·unfold yh at h
  split at h
  case h_2=>simp at h
  split at h
  ·split at h
   ·exact lM hl h
   ·simp at h
  ·split at h
   case h_2=>simp at h
   split at h
   case h_2=>simp at h
   rename_i ho _
   split at h <;> simp only [ah,reduceCtorEq] at h
   subst h
   exact ik (mh hl (jF hl ho)) _
 ·unfold j7 at h
  split at h
  case isFalse=>simp at h
  split at h <;> simp only [ah] at h <;> subst h
  ·exact hl
  ·exact ik hl _
 ·unfold oD at h
  split at h
  ·simp only [ah] at h; subst h; exact hl
  ·simp only [ah] at h; subst h; exact hl
  ·simp only [ah] at h; subst h; exact hl
  ·split at h
   case h_2=>simp at h
   rename_i ho
   split at h <;> simp only [ah,reduceCtorEq] at h
   subst h
   exact mh hl (jF hl ho)
  ·simp at h
 ·unfold jN at h
  split at h
  case h_2=>simp at h
  split at h
  ·split at h
   ·simp at h
   simp only [ah] at h; subst h; exact hl
  ·split at h
   case h_2=>simp at h
   split at h
   case h_2=>simp at h
   rename_i ho
   split at h <;> simp only [ah,reduceCtorEq] at h
   subst h
   exact mh hl (jF hl ho)
 ·split at h <;> simp only [ah,reduceCtorEq] at h
  subst h
  exact Bu (ik hl _) (aR _)
 ·split at h
  case isFalse=>simp at h
  exact EF hl h
 ·split at h
  case h_2=>simp at h
  split at h
  ·simp at h
  exact EF hl h
 ·unfold rh at h
  split at h <;> simp only [ah,reduceCtorEq] at h
  subst h
  exact ik hl _
 ·unfold yO at h
  split at h
  case h_2=>simp at h
  split at h
  case isFalse=>simp at h
  split at h
  case h_2=>simp at h
  split at h <;> simp only [ah,reduceCtorEq] at h
  subst h; exact hl
 ·unfold qS at h
  split at h
  case h_2=>simp at h
  split at h
  case isFalse=>simp at h
  split at h
  case h_2=>simp at h
  rename_i ho
  split at h
  case isFalse=>simp at h
  split at h <;> simp only [ah,reduceCtorEq] at h
  subst h
  exact mh hl (jF hl ho)
 ·simp at h
theorem Fp {r:kr} (hr:Ib r) {o:cB} {fr:Fr} {σ:ag} {x:AV×ag} (hl:σ.Lim) (h:bz ip G r o fr σ=some x):x.2.Lim:=by
 by_cases rK:o.cls<=1
 ·obtain ⟨v,σ'⟩:=x
  rw [(wA rK (ag.le_refl _) h).1]; exact hl
 by_cases rJ:o.cls=2
 ·obtain ⟨v,σ'⟩:=x
  obtain ⟨cs,rfl⟩:=ot rJ h
  exact ik hl cs
 cases o with
 | store n p v=>
  simp only [bz] at h
  split at h
  case h_2=>simp at h
  split at h
  case h_2=>simp at h
  rename_i ho
  split at h <;> simp only [ah,reduceCtorEq] at h
  subst h
  exact mh hl (jF hl ho)
 | append sz bytes str p q=>
  simp only [bz] at h
  split at h
  ·split at h
   case h_2=>simp at h
   split at h
   case isFalse=>simp at h
   exact lM hl h
  ·split at h
   case h_2=>simp at h
   exact lM hl h
 | prim k xs=>exact PM hl h
 | call m f xs=>
  cases m with
  | shared=>exact zR hr hl h
  | pure=>exact tY hl h
  | strict=>exact tY hl h
  | split=>
   simp only [bz] at h
   split at h
   ·split at h <;> simp only [ah,reduceCtorEq] at h
    subst h; exact hl
   ·exact zR hr hl h
  | splitS=>
   simp only [bz] at h
   split at h
   ·split at h <;> simp only [ah,reduceCtorEq] at h
    subst h; exact hl
   ·exact tY hl h
 | buildSl own=>cases own <;> simp [cB.cls] at rK rJ
 | conv c=>cases c <;> simp [cB.cls] at rK
 | _=>simp [cB.cls] at rK rJ
theorem Jz: ∀n,Ib (run ip G n)
 | 0=>by intro k fr σ x _ h; simp [run] at h
 | n+1=>by
  have ih:=Jz n
  intro k fr σ x hl h
  cases k with
  | nil=>simp only [run,ah] at h; subst h; exact hl
  | cons it k=>
   cases it with
   | inBlock id=>rw [run] at h; exact ih _ _ _ _ hl h
   | inLoop l c=>rw [run] at h; exact ih _ _ _ _ hl h
   | ops l=>
    cases l with
    | nil=>rw [run] at h; exact ih _ _ _ _ hl h
    | cons o os=>
     rw [run] at h
     split at h
     ·split at h
      case h_2=>simp at h
      rename_i v σ' hd
      exact ih _ _ _ _ (Fp ih hl hd) h
     ·exact ih _ _ _ _ hl h
     ·simp at h
   | code c=>
    cases c with
    | stop=>simp [run] at h
    | skip=>rw [run] at h; exact ih _ _ _ _ hl h
    | region ops=>rw [run] at h; exact ih _ _ _ _ hl h
    | seq a b=>rw [run] at h; exact ih _ _ _ _ hl h
    | cond c a b=>
     rw [run] at h
     split at h
     ·exact ih _ _ _ _ hl h
     ·simp at h
    | block id c=>rw [run] at h; exact ih _ _ _ _ hl h
    | loop l c=>rw [run] at h; exact ih _ _ _ _ hl h
    | keep l c=>rw [run] at h; exact ih _ _ _ _ hl h
    | arity m c=>
     rw [run] at h
     split at h
     ·exact ih _ _ _ _ hl h
     ·simp at h
    | frz l c=>rw [run] at h; exact ih _ _ _ _ (sI l hl) h
    | exit id=>
     rw [run] at h
     split at h
     ·exact ih _ _ _ _ hl h
     ·simp at h
    | ret=>simp only [run,ah] at h; subst h; exact hl
theorem gB (T:Trace ip G n os fr σ fr' σ') (h:σ.Lim): ∀k,k<=os.length->(T.sts k).Lim
 | 0,_=>by rw [T.s0]; exact h
 | k+1,hk=>by
  have ih:=gB T h k aa
  rcases T.step k _ (bo (by omega:k < os.length)) with ⟨_,_,e⟩ | ⟨_,m,_,hd⟩
  ·rw [e]; exact ih
  ·exact Fp (Jz m) ih hd
def writes (os:List aZ) (j:Nat):Prop:=∃io,os[j]? =some io/\io.op.cls=3
theorem jZ (T:Trace ip G n os fr σ fr' σ') {i:Nat}: ∀(k:Nat),i<=k->k<=os.length->(∀j,i<=j->j < k->¬writes os j)->(∀b x,(T.sts i).get b=some x->b < (T.sts i).next)->
  (T.sts i).le (T.sts k)/\(T.sts i).next<=(T.sts k).next/\∀b x,(T.sts k).get b=some x->b < (T.sts k).next:=by
 intro k
 induction k with
 | zero=>
  intro h _ _ hl; have:i=0:=by omega
  subst this; exact ⟨ag.le_refl _,aE _,hl⟩
 | succ k ih=>
  intro h hk hw hl
  by_cases hik:i=k+1
  ·subst hik; exact ⟨ag.le_refl _,aE _,hl⟩
  ·obtain ⟨h1,h2,h3⟩:=ih aa aa (fun j a b=>hw j a aa) hl
   have Xc:k < os.length:=by omega
   have Ao:=bo Xc
   have same:T.sts (k+1)=T.sts k->(T.sts i).le (T.sts (k+1))/\(T.sts i).next<=(T.sts (k+1)).next/\∀b x,(T.sts (k+1)).get b=some x->b < (T.sts (k+1)).next:=fun e=>by rw [e]; exact ⟨h1,h2,h3⟩
   rcases T.step k os[k] Ao with ⟨_,_,e⟩ | ⟨_,m,hm,hd⟩
   ·exact same e
   ·have hnw:os[k].op.cls≠3:=fun hc=>hw k aa aa ⟨os[k],Ao,hc⟩
    by_cases rK:os[k].op.cls<=1
    ·exact same (wA rK (ag.le_refl _) hd).1
    ·have rJ:os[k].op.cls=2:=by
      have:os[k].op.cls<=3:=by
       cases BB:os[k].op <;> simp [cB.cls]
       all_goals (split <;> omega)
      omega
     obtain ⟨cs,e⟩:=ot rJ hd
     have Al:(T.sts k).get (T.sts k).next=none:=by
      cases hg:(T.sts k).get (T.sts k).next with
      | none=>rfl
      | some x=>exact absurd (h3 _ _ hg) (Nat.lt_irrefl _)
     refine ⟨ag.le_trans h1 ?_,by rw [e]; show _<=(T.sts k).next+1; omega,fun b x hb=> ?_⟩
     ·rw [e]
      refine ⟨fun b x hb=> ?_,fun b x hb=> ?_,Nat.le_succ _,fun _ _ h=>mem_push (fun _=>by simp) h⟩
      ·rw [cT,if_neg]
       ·exact hb
       ·rintro rfl; rw [Al] at hb; simp at hb
      ·rw [cT] at hb
       by_cases Aq:b=(T.sts k).next
       ·rw [if_pos Aq] at hb
        simp only [ah] at hb
        exact .inr ⟨by rw [Aq]; exact Al,cs,hb.symm⟩
       ·rw [if_neg Aq] at hb; exact .inl hb
     ·rw [e] at hb ⊢
      rw [cT] at hb
      show b < (T.sts k).next+1
      by_cases Aq:b=(T.sts k).next
      ·omega
      ·rw [if_neg Aq] at hb; have:=h3 b x hb; omega
theorem uW (T:Trace ip G n os fr σ fr' σ') (Xa: ∀k,k<=os.length->(T.sts k).Lim) {i:Nat}: ∀(k:Nat),i<=k->k<=os.length->
  (∀(j:Nat) (jo:aZ),i<=j->j < k->os[j]? =some jo->jo.op.cls=3->jo.op.isW=true)->(T.sts i).fsame (T.sts k):=by
 intro k
 induction k with
 | zero=>
  intro h _ _; have:i=0:=by omega
  subst this; exact .refl _
 | succ k ih=>
  intro h hk hw
  by_cases hik:i=k+1
  ·subst hik; exact .refl _
  ·have h1:=ih aa aa (fun j jo a b=>hw j jo a aa)
   have Xc:k < os.length:=by omega
   have Ao:=bo Xc
   refine h1.trans ?_
   rcases T.step k os[k] Ao with ⟨_,_,e⟩ | ⟨_,m,hm,hd⟩
   ·rw [e]; exact .refl _
   ·by_cases rK:os[k].op.cls<=1
    ·rw [(wA rK (ag.le_refl _) hd).1]; exact .refl _
    by_cases rJ:os[k].op.cls=2
    ·obtain ⟨cs,e⟩:=ot rJ hd
     rw [e]; exact kd (Xa k aa) cs
    ·have vO:os[k].op.cls=3:=by
      have:os[k].op.cls<=3:=by
       cases BB:os[k].op <;> simp [cB.cls]
       all_goals (split <;> omega)
      omega
     exact M3 (hw k _ aa aa Ao vO) (Xa k aa) hd
structure Inv (T:Trace ip G n os fr σ fr' σ') (P:Program) (fm gm:Nat->aD) (N:Nat) (ops:Array Oper) (X:Nat->Prop) (w0:World) (μ0:Mu) (a0:Act) (L:Nat->Bool) (s:Nat) (a:Act) (w:World) (μ:Mu):Prop where
 listed:Ie ops L
 sle:s<=os.length
 done: ∀j,j < s->writes os j->L j=true
 next:s < os.length->writes os s/\L s=false
 lim: ∀b x,(T.sts s).get b=some x->b < (T.sts s).next
 un: ∀(j:Nat) (io:aZ),j < s->os[j]? =some io->io.op.cls=2->L j=false->wanted io.guard (T.frs j)=some true->μ ((T.sts j).next)= .unborn
 given:bF P fm gm G w X μ (T.sts s) N (lE os fr T.phi L os.length) a
 ext:Ext w0 μ0 w μ
 defers:a.defers=a0.defers
theorem cq {p q:aZ}:AI p q=true↔((∃d,p.dst=some d/\(d∈q.names∨q.dst=some d))∨(∃d,q.dst=some d/\d∈p.names)∨wmeets p.op q.op=true∨wmeets q.op p.op=true):=by
 unfold AI
 simp only [Bool.or_eq_true]
 constructor
 ·rintro (((h | h) | h) | h)
  ·left
   cases hp:p.dst with
   | none=>simp [hp] at h
   | some d=>rw [hp] at h; simp at h; exact ⟨d,rfl,h⟩
  ·right; left
   cases hq:q.dst with
   | none=>simp [hq] at h
   | some d=>simp [hq] at h; exact ⟨d,rfl,h⟩
  ·exact .inr (.inr (.inl h))
  ·exact .inr (.inr (.inr h))
 ·rintro (⟨d,hd,h⟩ | ⟨d,hd,h⟩ | h | h)
  ·left; left; left; simp [hd,h]
  ·left; left; right; simp [hd,h]
  ·left; right; exact h
  ·right; exact h
theorem xV (os:List aZ) (i:Nat) (hi:i<=os.length): ∃s,i<=s/\s<=os.length/\(∀j,i<=j->j < s->¬writes os j)/\(s < os.length->writes os s):=by
 induction h:os.length - i generalizing i with
 | zero=>exact ⟨i,aE _,hi,fun j a b=>by omega,fun h'=>by omega⟩
 | succ d ih=>
  by_cases hw:writes os i
  ·exact ⟨i,aE _,hi,fun j a b=>by omega,fun _=>hw⟩
  ·obtain ⟨s,h1,h2,h3,h4⟩:=ih (i+1) aa aa
   refine ⟨s,by omega,h2,fun j a b=> ?_,h4⟩
   by_cases hj:j=i
   ·subst hj; exact hw
   ·exact h3 j aa b
theorem QC (hσ:σ.Lim) (vn: ∀g,aB (G g)=true) (tA:fV P fm gm G ip n) (hd:oq os ops=true) (Oi:eG P fm gm N ops os ops.toList=true) (T:Trace ip G n os fr σ fr' σ')
  {X:Nat->Prop} {w0:World} {μ0:Mu} {a0:Act} {L:Nat->Bool} {s:Nat} {a:Act} {w:World} {μ:Mu} (I:Inv T P fm gm N ops X w0 μ0 a0 L s a w μ)
  {i:Nat} {o:Oper} (ho:ops[i]? =some o) (zz:L i=false) (hr: ∀e∈o.after,Region.binds .any e=true->L e.on=true) {Q:Exit->Act->World->Prop} {K:Act->World->Prop}
  (hK: ∀(s':Nat) (a':Act) (w':World) (μ':Mu),Inv T P fm gm N ops X w0 μ0 a0 (fun j=>decide (j=i) || L j) s' a' w' μ'->K a' w') :
  wpOp P ops Q i K a w:=by
 obtain ⟨hlen,dy⟩:=pY Oi
 have sL:os.length=ops.size:=by simpa using hlen
 simp only [oq,ak] at hd
 have hisz:i < ops.size:=(Array.getElem?_eq_some_iff.1 ho).1
 have Ao:os[i]? =some (os[i]'(by omega)):=bo aa
 generalize os[i]'(by omega)=io at Ao
 obtain ⟨o',ho',BB⟩:=dy i io Ao
 have hoo:o'=o:=by
  have:ops.toList[i]? =some o:=by simpa using ho
  rw [this] at ho'
  simpa using ho'.symm
 subst hoo
 simp only [su,ak,beq_iff_eq] at BB
 obtain ⟨⟨⟨EY,hN⟩,hg⟩,hopc⟩:=BB
 have hdN: ∀d,o'.dst=some d->d < N:=by
  intro d Ug
  rw [Ug] at hN
  simpa using hN
 have Ng: ∀(j:Nat) (jo:aZ),j < i->os[j]? =some jo->AI jo io=true->L j=true:=fun j jo hj jq gH=>
  n7 I.listed i ho hr (n9 hd.2 hj jq Ao gH)
 have Q2: ∀(j:Nat) (jo:aZ),i < j->os[j]? =some jo->AI io jo=true->L j=false:=by
  intro j jo hj jq gH
  cases hLj:L j with
  | false=>rfl
  | true=>
   have hjs:j < ops.size:=by have:=(bA.1 jq).1; omega
   have hoj:ops[j]? =some ops[j]:=by simp [hjs]
   have:=n7 I.listed j hoj (fun e he hb=>I.listed j _ hoj hLj e he hb) (n9 hd.2 hj Ao jq gH)
   rw [zz] at this; simp at this
 have QK: ∀t∈io.names,(lE os fr T.phi L os.length).get t=(T.frs i).get t:=by
  intro t ht
  rw [tH T i aa]
  rw [qd T.phi t i os.length aa (fun j h1 h2 E0=> ?_)]
  ·refine oh T.phi t i (fun j hj E0=> ?_)
   unfold pH at E0
   cases jq:os[j]? with
   | none=>simp [jq] at E0
   | some jo=>
    simp only [jq,Option.bind_some] at E0
    exact Ng j jo hj jq (cq.2 (.inl ⟨t,E0, .inl ht⟩))
  ·by_cases Hr:j=i
   ·subst Hr; exact zz
   ·unfold pH at E0
    cases jq:os[j]? with
    | none=>simp [jq] at E0
    | some jo=>
     simp only [jq,Option.bind_some] at E0
     exact Q2 j jo aa jq (cq.2 (.inr (.inl ⟨t,E0,ht⟩)))
 have yx: ∀j,j≠i->(decide (j=i) || L j)=L j:=fun j hj=>by simp [hj]
 have QR: ∀t,(lE os fr T.phi (fun j=>decide (j=i) || L j) os.length).get t=((lE os fr T.phi L os.length).put io.dst (T.phi i)).get t:=by
  intro t
  rw [pV]
  by_cases hdt:io.dst=some t
  ·rw [if_pos hdt]
   rw [qd T.phi t (i+1) os.length aa (fun j h1 h2 E0=> ?_)]
   ·simp only [lE]
    rw [if_pos (by simp),pV,if_pos (by simp [pH,Ao,hdt])]
   ·rw [yx j aa]
    unfold pH at E0
    cases jq:os[j]? with
    | none=>simp [jq] at E0
    | some jo=>
     simp only [jq,Option.bind_some] at E0
     exact Q2 j jo aa jq (cq.2 (.inl ⟨t,hdt, .inr E0⟩))
  ·rw [if_neg hdt]
   refine oh T.phi t os.length (fun j hj E0=> ?_)
   have:j≠i:=by rintro rfl; simp [pH,Ao] at E0; exact hdt E0
   exact yx j this
 have EU:Ie ops (fun j=>decide (j=i) || L j):=by
  intro j oj hoj hLj e he hb
  simp only [Bool.or_eq_true,cD] at hLj ⊢
  rcases hLj with rfl | hLj
  ·rw [ho] at hoj
   simp only [ah] at hoj
   subst hoj
   exact .inr (hr e he hb)
  ·exact .inr (I.listed j oj hoj hLj e he hb)
 obtain ⟨Kh,hdc⟩:=xS (G:=G) (ip:=ip) (r:=fun _ _ _=>none) (o:=io) (σ:= .empty) QK
 have hdc': ∀(r:kr) (τ:ag),bz ip G r io.op (lE os fr T.phi L os.length) τ=bz ip G r io.op (T.frs i) τ:=fun r τ=>(xS (G:=G) (ip:=ip) (r:=r) (o:=io) (σ:=τ) QK).2
 have keep:io.op.cls≠3->∀(a':Act) (w':World) (μ':Mu),(∀(j:Nat) (jo:aZ),j < s->os[j]? =some jo->jo.op.cls=2->j≠i->L j=false->wanted jo.guard (T.frs j)=some true->μ' ((T.sts j).next)= .unborn)->
   dM fm gm G w' X μ'->RS (fm:=fm) (T.sts s) w' X μ'->(∀b,X b->b < w'.heap.size)->RF (fm:=fm) N ((lE os fr T.phi L os.length).put io.dst (T.phi i)) a'.tmps w' X μ'->Ext w0 μ0 w' μ'->a'.defers=a0.defers->
   Inv T P fm gm N ops X w0 μ0 a0 (fun j=>decide (j=i) || L j) s a' w' μ':=by
  intro vO a' w' μ' hu zo hrs hx M4 he hdf
  refine ⟨EU,I.sle,fun j hj hw=>by simp [I.done j hj hw],fun hs=> ?_,I.lim,fun j jo hj jq hc hLj hw=> ?_,⟨zo,hrs,hx,⟨M4.size,fun t=>by rw [QR]; exact M4.val t⟩⟩,he,hdf⟩
  ·obtain ⟨h1,h2⟩:=I.next hs
   refine ⟨h1,?_⟩
   have:s≠i:=by
    rintro rfl
    obtain ⟨jo,jq,hc⟩:=h1
    rw [Ao] at jq
    simp only [ah] at jq
    subst jq
    exact vO hc
   simp [this,h2]
  ·simp only [Bool.or_eq_false_iff,decide_eq_false_iff_not] at hLj
   exact hu j jo hj jq hc hLj.1 hLj.2 hw
 have sN: ∀(v:Value),(a.put o'.dst v).defers=a.defers:=fun v=>by cases o'.dst <;> rfl
 have his:io.op.cls≠3->1<=io.op.cls->io.op.isF=false->i < s/\∀j,i<=j->j < s->¬writes os j:=by
  intro vO rK hF
  have h1:i < s:=by
   rcases Nat.lt_or_ge i s with h | h
   ·exact h
   ·exfalso
    have hs:s < os.length:=by omega
    obtain ⟨⟨jo,jq,hc⟩,hLs⟩:=I.next hs
    have hsi:s≠i:=by
     rintro rfl
     rw [Ao] at jq
     simp only [ah] at jq
     subst jq; exact vO hc
    have:=Ng s jo aa jq (cq.2 (.inr (.inr (.inl (wm hc rK hF)))))
    rw [hLs] at this; simp at this
  refine ⟨h1,fun j hj hjs hw=> ?_⟩
  have hLj:=I.done j hjs hw
  obtain ⟨jo,jq,hc⟩:=hw
  by_cases Hr:j=i
  ·subst Hr
   rw [Ao] at jq
   simp only [ah] at jq
   subst jq; exact vO hc
  ·have:=Q2 j jo aa jq (cq.2 (.inr (.inr (.inr (wm hc rK hF)))))
   rw [hLj] at this; simp at this
 have nowr: ∀(j:Nat) (jo:aZ),j < s->os[j]? =some jo->jo.op.cls=2->L j=false->∀k,j<=k->k < s->¬writes os k:=by
  intro j jo hj jq hc hLj k h1 h2 hw
  have hLk:=I.done k h2 hw
  obtain ⟨ko,hko,Oi⟩:=hw
  have hjk:j≠k:=by
   rintro rfl
   rw [jq] at hko
   simp only [ah] at hko
   subst hko; omega
  have hks:k < ops.size:=by have:=(bA.1 hko).1; omega
  have zA:ops[k]? =some ops[k]:=by simp [hks]
  have:=n7 I.listed k zA (fun e he hb=>I.listed k _ zA hLk e he hb) (n9 hd.2 (by omega:j < k) jq hko (cq.2 (.inr (.inr (.inr (wm Oi aa (nF aa)))))))
  rw [hLj] at this; simp at this
 have wrote:io.op.cls=3->∀(a':Act) (w':World) (μ':Mu),dM fm gm G w' X μ'->RS (fm:=fm) (T.sts (i+1)) w' X μ'->(∀b,X b->b < w'.heap.size)->
   RF (fm:=fm) N ((lE os fr T.phi L os.length).put io.dst (T.phi i)) a'.tmps w' X μ'->Ext w0 μ0 w' μ'->a'.defers=a0.defers->
   ∃s',Inv T P fm gm N ops X w0 μ0 a0 (fun j=>decide (j=i) || L j) s' a' w' μ':=by
  intro vO a' w' μ' zo hrs hx M4 he hdf
  obtain ⟨s',h1,h2,h3,h4⟩:=xV os (i+1) aa
  obtain ⟨q1,q2,q3⟩:=jZ T s' h1 h2 h3 (gB T hσ (i+1) aa)
  have hwi:writes os i:=⟨io,Ao,vO⟩
  have hlow: ∀j,j < i->writes os j->L j=true:=by
   intro j hj hw
   obtain ⟨jo,jq,hc⟩:=hw
   exact Ng j jo hj jq (cq.2 (.inr (.inr (.inl (wm hc aa (nF aa))))))
  refine ⟨s',EU,h2,fun j hj hw=> ?_,fun hs=>⟨h4 hs,?_⟩,q3,fun j jo hj jq hc hLj hw=> ?_,⟨zo,hrs.le q1 q3,hx,⟨M4.size,fun t=>by rw [QR]; exact M4.val t⟩⟩,he,hdf⟩
  ·by_cases Hr:j=i
   ·simp [Hr]
   ·by_cases aN:j < i
    ·simp [hlow j aN hw]
    ·exact absurd hw (h3 j aa hj)
  ·obtain ⟨jo,jq,hc⟩:=h4 hs
   rw [yx s' aa]
   exact Q2 s' jo aa jq (cq.2 (.inr (.inr (.inl (wm vO aa (nF aa))))))
  ·simp only [Bool.or_eq_false_iff,decide_eq_false_iff_not] at hLj
   have Hr:i < j:=by
    rcases Nat.lt_or_ge i j with h' | h'
    ·exact h'
    ·exfalso
     have aN:j < i:=by omega
     have:=Ng j jo aN jq (cq.2 (.inr (.inr (.inr (wm vO aa (nF aa))))))
     rw [hLj.2] at this; simp at this
   have Xe:j<=os.length:=by have:=(bA.1 jq).1; omega
   obtain ⟨_,k2,_⟩:=jZ T j (by omega:i+1<=j) Xe (fun k a b=>h3 k a aa) (gB T hσ (i+1) aa)
   apply hrs.born
   cases Oh:(T.sts (i+1)).get (T.sts j).next with
   | none=>rfl
   | some y=>have:=gB T hσ (i+1) aa _ _ Oh; omega
 have hieq:io.op.cls=3->i=s:=by
  intro vO
  rcases Nat.lt_trichotomy i s with h | h | h
  ·have:=I.done i h ⟨io,Ao,vO⟩
   rw [zz] at this; simp at this
  ·exact h
  ·exfalso
   obtain ⟨⟨jo,jq,hc⟩,hLs⟩:=I.next aa
   have:=Ng s jo h jq (cq.2 (.inr (.inr (.inl (wm hc aa (nF aa))))))
   rw [hLs] at this; simp at this
 unfold wpOp
 simp only [ho]
 rcases T.step i io Ao with ⟨hw,hphi,tr⟩ | ⟨hw,m,hm,hdo⟩
 ·
  have yl:=kL I.given.rf hg (Kh.trans hw)
  simp only [yl,aX,if_false]
  have rf':RF (fm:=fm) N ((lE os fr T.phi L os.length).put io.dst (T.phi i)) (a.put o'.dst Go.undef).tmps w X μ:=by
   rw [hphi,EY]; exact I.given.rf.put hdN Jx
  by_cases vO:io.op.cls=3
  ·have:=hieq vO
   obtain ⟨s',hI⟩:=wrote vO (a.put o'.dst Go.undef) w μ I.given.glob (by rw [tr,this]; exact I.given.rs) I.given.out rf' I.ext ((sN _).trans I.defers)
   exact hK s' _ _ _ hI
  ·exact hK s _ _ _ (keep vO _ w μ (fun j jo h1 h2 h3 _ h5 h6=>I.un j jo h1 h2 h3 h5 h6) I.given.glob I.given.rs I.given.out rf' I.ext ((sN _).trans I.defers))
 ·
  have yl:=kL I.given.rf hg (Kh.trans hw)
  simp only [yl,if_true]
  left
  have quiet:io.op.cls<=1->bz ip G (run ip G m) io.op (T.frs i) (T.sts s)=some (T.phi i,T.sts s)->o'.wp P a w K Q:=by
   intro rK Xm
   rw [←hdc'] at Xm
   refine PG vn I.given tA hm rK hopc Xm K Q (fun cv w' h1 h2=> ?_)
   have hx:=Ext.of_below (μ:=μ) h2
   exact hK s _ _ _ (keep aa _ w' μ (fun j jo h1 h2 h3 _ h5 h6=>I.un j jo h1 h2 h3 h5 h6) (I.given.glob.ext hx) (I.given.rs.below h2) (fun b hb=>Nat.lt_of_lt_of_le (I.given.out b hb) h2.size)
    (by rw [EY]; exact (I.given.rf.ext hx).put hdN h1) (I.ext.trans hx) ((sN _).trans I.defers))
  by_cases kU:io.op.cls=0
  ·exact quiet aa (doOp_n kU (T.sts s) hdo).2
  by_cases hF:io.op.isF=true
  ·have rK:io.op.cls=1:=by
    by_cases h:io.op.cls=1
    ·exact h
    ·rw [nF h] at hF; simp at hF
   have hfs:(T.sts i).fsame (T.sts s):=by
    rcases Nat.lt_or_ge i s with h | h
    ·refine uW T (gB T hσ) s aa I.sle (fun j jo h1 h2 jq hcj=> ?_)
     cases hW:jo.op.isW with
     | true=>rfl
     | false=>
      have hLj:=I.done j h2 ⟨jo,jq,hcj⟩
      by_cases Hr:j=i
      ·subst Hr
       rw [Ao] at jq
       simp only [ah] at jq
       subst jq; omega
      ·have:=Q2 j jo aa jq (cq.2 (.inr (.inr (.inr (wm' hcj aa hW)))))
       rw [hLj] at this; simp at this
    ·refine (uW T (gB T hσ) i h aa (fun j jo h1 h2 jq hcj=> ?_)).symm
     cases hW:jo.op.isW with
     | true=>rfl
     | false=>
      have hLj:=Ng j jo h2 jq (cq.2 (.inr (.inr (.inl (wm' hcj aa hW)))))
      obtain ⟨⟨so,hso,lC⟩,hLs⟩:=I.next aa
      by_cases hjs:j=s
      ·subst hjs; rw [hLs] at hLj; simp at hLj
      ·have hjo':ops[j]? =some (ops[j]'(by omega)):=by simp
       have:=n7 I.listed j hjo' (fun e he hb=>I.listed j _ hjo' hLj e he hb) (n9 hd.2 (by omega:s < j) hso jq (cq.2 (.inr (.inr (.inl (wm lC aa (nF aa)))))))
       rw [hLs] at this; simp at this
   refine quiet aa ?_
   cases BB:io.op with
   | loadF n x=>
    rw [BB] at hdo
    simp only [bz,aj,cp,aI] at hdo ⊢
    obtain ⟨v',hv,rfl,_⟩:=hdo
    exact ⟨_,qJ hfs hv,rfl,trivial⟩
   | _=>rw [BB] at hF; simp [cB.isF] at hF
  simp only [Bool.not_eq_true] at hF
  by_cases rK:io.op.cls=1
  ·obtain ⟨aN,hnw⟩:=his aa aa hF
   obtain ⟨q1,_,_⟩:=jZ T s aa I.sle hnw (gB T hσ i aa)
   exact quiet aa (wA aa q1 hdo).2
  by_cases rJ:io.op.cls=2
  ·obtain ⟨aN,hnw⟩:=his aa aa hF
   have QW:=hdo
   rw [←hdc'] at QW
   obtain ⟨cs,cv,arr,e,hal,dH,hle,um,zy⟩:=MO I.given rJ hopc QW
   obtain ⟨q1,q2,_⟩:=jZ T s (by omega:i+1<=s) I.sle (fun j a b=>hnw j aa b) (gB T hσ (i+1) aa)
   have hb:(T.sts s).get (T.sts i).next=some (.own cs):=by
    apply q1.1
    rw [hal,cT,if_pos rfl]
   have hunb:=I.un i io aN Ao rJ zz hw
   obtain ⟨x1,x2⟩:=XV I.given.rs I.given.out e hb hunb hle um
   unfold Oper.wp
   rw [dH]
   refine hK s _ _ _ (keep aa _ _ (μ.bind (T.sts i).next (.at w.heap.size 0 true)) (fun j jo h1 h2 h3 Hr h5 h6=> ?_) (I.given.glob.ext x1) x2 (fun b hb=>Nat.lt_of_lt_of_le (I.given.out b hb) x1.size)
    (by rw [EY]; exact (I.given.rf.ext x1).put hdN (zy _ _ (by simp [Mu.bind]) (heap_alloc_new w _))) (I.ext.trans x1) ((sN _).trans I.defers))
   have fX:(T.sts j).next≠(T.sts i).next:=by
    rcases Nat.lt_or_ge i j with hij | hij
    ·obtain ⟨_,k2,_⟩:=jZ T j (by omega:i+1<=j) (by have:=I.sle; omega) (fun k a b=>hnw k aa aa) (gB T hσ (i+1) aa)
     rw [hal] at k2
     have:(T.sts i).next+1<=(T.sts j).next:=k2
     omega
    ·have hjlt:j < i:=by omega
     have hnj:=nowr j jo h1 h2 h3 h5
     rcases T.step j jo h2 with ⟨hw',_,_⟩ | ⟨_,m',_,Xm⟩
     ·rw [h6] at hw'; simp at hw'
     ·obtain ⟨cs',hal'⟩:=ot h3 Xm
      obtain ⟨_,k2,_⟩:=jZ T i (by omega:j+1<=i) aa (fun k a b=>hnj k aa aa) (gB T hσ (j+1) aa)
      rw [hal'] at k2
      have:(T.sts j).next+1<=(T.sts i).next:=k2
      omega
   simp [Mu.bind,fX,I.un j jo h1 h2 h3 h5 h6]
  ·have vO:io.op.cls=3:=by
    have:io.op.cls<=3:=by
     cases BB:io.op <;> simp [cB.cls]
     all_goals (split <;> omega)
    omega
   have his:=hieq vO
   have QW:=hdo
   rw [his,←his,←hdc'] at QW
   have Xk:bF P fm gm G w X μ (T.sts i) N (lE os fr T.phi L os.length) a:=by rw [his]; exact I.given
   refine Kw vn Xk tA hm hopc QW K Q (fun cv w' μ' h1 h2 h3=> ?_)
   obtain ⟨s',hI⟩:=wrote vO (a.put o'.dst cv) w' μ' (I.given.glob.ext h2) h3 (fun b hb=>Nat.lt_of_lt_of_le (I.given.out b hb) h2.size)
    (by rw [EY]; exact (I.given.rf.ext h2).put hdN h1) (I.ext.trans h2) ((sN _).trans I.defers)
   exact hK s' _ _ _ hI
end
end Go.Ab
namespace Go.Ab
open Go.RowKit
section
variable {P:Program} {fm gm:Nat->aD} {G:Nat->ai} {ip:Nat->Option aq}
variable {n N:Nat} {os:List aZ} {ops:Array Oper} {fr fr':Fr} {σ σ':ag}
def mX (ops:Array Oper) (L:Nat->Bool):Nat:=(List.range ops.size).countP (fun j=> !L j)
theorem HQ (L:Nat->Bool) (i:Nat) (zz:L i=false): ∀(m:Nat),i < m->(List.range m).countP (fun j=> !(decide (j=i) || L j))+1=(List.range m).countP (fun j=> !L j):=by
 intro m
 induction m with
 | zero=>intro h; omega
 | succ m ih=>
  intro h
  rw [List.range_succ,List.countP_append,List.countP_append]
  by_cases hm:m=i
  ·subst hm
   have:(List.range m).countP (fun j=> !(decide (j=m) || L j))=(List.range m).countP (fun j=> !L j):=by
    apply List.countP_congr
    intro x hx
    have:x≠m:=by have:=List.mem_range.1 hx; omega
    simp [this]
   rw [this]
   simp [zz]
  ·have:=ih aa
   have e:([m].countP fun j=> !(decide (j=i) || L j))= [m].countP fun j=> !L j:=by simp [hm]
   rw [e]
   omega
theorem A2 {L:Nat->Bool} {i:Nat} (zz:L i=false) (hi:i < ops.size):mX ops (fun j=>decide (j=i) || L j)+1=mX ops L:=
 HQ L i zz ops.size hi
theorem H2 {listed:Array Bool} (eA:listed.size=ops.size) (hb:backward ops=true) (h:Region.ready .any ops listed= []): ∀j,j < ops.size->listed.getD j false=true:=by
 intro j
 induction j using Nat.strongRecOn with
 | _ j ih=>
  intro hj
  cases hl:listed.getD j false with
  | true=>rfl
  | false=>
   exfalso
   have hm:j∈Region.ready .any ops listed:=by
    refine mem_ready.2 ⟨?_,ops[j],by simp [hj],fun e he hbd=> ?_⟩
    ·simp [eA,hj] at hl ⊢; exact hl
    ·unfold backward at hb
     rw [bj] at hb
     have:=hb j (List.mem_range.2 hj)
     simp only [show ops[j]? =some ops[j] by simp [hj]] at this
     rw [bj] at this
     have:=this e (by simpa using he)
     rw [hbd] at this
     simp only [Bool.not_true,Bool.false_or,cD] at this
     exact ih e.on this aa
   rw [h] at hm
   simp at hm
theorem RT (T:Trace ip G n os fr σ fr' σ') {L:Nat->Bool} (h: ∀j,j < os.length->L j=true): ∀t,(lE os fr T.phi L os.length).get t=fr'.get t:=by
 intro t
 have e:fr'.get t=(lE os fr T.phi (fun _=>true) os.length).get t:=congrArg (fun f:Fr=>f.get t) (T.fn.symm.trans (tH T os.length (aE _)))
 exact (oh T.phi t os.length (fun j hj _=>by rw [h j hj])).trans e.symm
theorem NU (hσ:σ.Lim) (vn: ∀g,aB (G g)=true) (tA:fV P fm gm G ip n) (hd:oq os ops=true) (Oi:eG P fm gm N ops os ops.toList=true) (T:Trace ip G n os fr σ fr' σ')
  {X:Nat->Prop} {w0:World} {μ0:Mu} {a0:Act}: ∀(fuel:Nat) (listed:Array Bool) (s:Nat) (a:Act) (w:World) (μ:Mu),listed.size=ops.size->mX ops (fun j=>listed.getD j false)<=fuel->
  Inv T P fm gm N ops X w0 μ0 a0 (fun j=>listed.getD j false) s a w μ->
  wpAny P .any ops (fun e a' w'=>e= .normal/\∃μ',Out fm N X w0 μ0 a0 fr' σ' a' w' μ'/\dM fm gm G w' X μ'/\∀b,X b->b < w'.heap.size) fuel listed a w:=by
 obtain ⟨hlen,_⟩:=pY Oi
 have sL:os.length=ops.size:=by simpa using hlen
 have E3:backward ops=true:=by
  simp only [oq,ak] at hd
  exact hd.1
 have fin: ∀(listed:Array Bool) (s:Nat) (a:Act) (w:World) (μ:Mu),listed.size=ops.size->Inv T P fm gm N ops X w0 μ0 a0 (fun j=>listed.getD j false) s a w μ->Region.ready .any ops listed= []->
   (Exit.normal:Exit)= .normal/\∃μ',Out fm N X w0 μ0 a0 fr' σ' a w μ'/\dM fm gm G w X μ'/\∀b,X b->b < w.heap.size:=by
  intro listed s a w μ eA I hr
  have hall:=H2 eA E3 hr
  have hs:s=os.length:=by
   rcases Nat.lt_or_ge s os.length with h | h
   ·have h1:=(I.next h).2
    have h2:=hall s aa
    have E9:listed.getD s false=false:=h1
    rw [E9] at h2; cases h2
   ·have:=I.sle; omega
  have tr:T.sts s=σ':=by rw [hs]; exact T.sn
  refine ⟨rfl,μ,⟨⟨I.given.rf.size,fun t=> ?_⟩,by rw [←tr]; exact I.given.rs,I.ext,I.defers⟩,I.given.glob,I.given.out⟩
  rw [←RT T (fun j hj=>hall j aa) t]
  exact I.given.rf.val t
 intro fuel
 induction fuel with
 | zero=>
  intro listed s a w μ eA hc I
  have hr:Region.ready .any ops listed= []:=by
   cases hr:Region.ready .any ops listed with
   | nil=>rfl
   | cons j l=>
    exfalso
    have hj:j∈Region.ready .any ops listed:=by rw [hr]; simp
    obtain ⟨h0,o,ho,_⟩:=mem_ready.1 hj
    have aN:j < ops.size:=(Array.getElem?_eq_some_iff.1 ho).1
    have:0 < mX ops (fun j=>listed.getD j false):=by
     unfold mX
     rw [List.countP_pos_iff]
     refine ⟨j,List.mem_range.2 aN,?_⟩
     simp [eA,aN] at h0 ⊢; exact h0
    omega
  exact ⟨hr,fin listed s a w μ eA I hr⟩
 | succ fuel ih=>
  intro listed s a w μ eA hc I
  refine ⟨fin listed s a w μ eA I,fun i hi=> ?_⟩
  obtain ⟨h0,o,ho,hall⟩:=mem_ready.1 hi
  have aN:i < ops.size:=(Array.getElem?_eq_some_iff.1 ho).1
  have zz:(fun j=>listed.getD j false) i=false:=by
   simp [eA,aN] at h0 ⊢; exact h0
  have ka:(fun j=>(listed.setIfInBounds i true).getD j false)=fun j=>decide (j=i) || listed.getD j false:=by
   funext j
   by_cases Hr:j=i
   ·subst Hr; simp [eA,aN]
   ·rw [getD_set_ne false (Ne.symm Hr)]; simp [Hr]
  refine QC hσ vn tA hd Oi T I ho zz hall (fun s' a' w' μ' I'=> ?_)
  refine ih _ s' a' w' μ' (by simpa using eA) ?_ (by rw [ka]; exact I')
  rw [ka]
  have:=A2 (ops:=ops) (L:=fun j=>listed.getD j false) zz aN
  omega
theorem Sy (hm:P.follows .mixedOrders=true) (vn: ∀g,aB (G g)=true):xt P fm gm G ip oq:=by
 intro n N os ops fr fr' σ σ' X w μ a id tA hd Oi hx g
 obtain ⟨T⟩:=hx.trace
 have hσ:σ.Lim:=g.rs.lim
 obtain ⟨hlen,_⟩:=pY Oi
 have sL:os.length=ops.size:=by simpa using hlen
 obtain ⟨s,h1,h2,h3,h4⟩:=xV os 0 aa
 obtain ⟨q1,q2,q3⟩:=jZ T s h1 h2 h3 (by rw [T.s0]; exact hσ)
 have hb:Below w.heap.size w { w with drawn:=w.drawn+1 }:=⟨rfl,rfl,rfl,aE _,fun _ _=>rfl⟩
 have hxt:=Ext.of_below (μ:=μ) hb
 refine wp_region_any hm (NU hσ vn tA hd Oi T _ _ s a _ μ (by simp) (by unfold mX; exact Nat.le_trans (List.countP_le_length) (by simp)) ⟨?_,h2,fun j hj hw=>absurd hw (h3 j aa hj),fun hs=>⟨h4 hs,?_⟩,q3,?_,⟨g.glob.ext hxt,?_,g.out,⟨g.rf.size,fun t=> ?_⟩⟩,hxt,rfl⟩)
 ·intro j o ho hL
  have aN:j < ops.size:=(Array.getElem?_eq_some_iff.1 ho).1
  simp [aN] at hL
 ·have:s < ops.size:=by omega
  simp [this]
 ·intro j jo hj jq hc hL hw
  apply g.rs.born
  obtain ⟨_,k2,_⟩:=jZ T j (Nat.zero_le j) aa (fun k a b=>h3 k a aa) (by rw [T.s0]; exact hσ)
  rw [T.s0] at k2
  cases Oh:σ.get (T.sts j).next with
  | none=>rfl
  | some y=>have:=hσ _ _ Oh; omega
 ·rw [T.s0] at q1
  exact (g.rs.below hb).le q1 q3
 ·have e:(lE os fr T.phi (fun j=>(Array.replicate ops.size false).getD j false) os.length).get t=fr.get t:=by
   rw [qd T.phi t 0 os.length (Nat.zero_le _) (fun j h1 h2 hd=> ?_)]
   ·rfl
   ·have:j < ops.size:=by omega
    simp [this]
  rw [e]
  exact (g.rf.ext hxt).val t
end
end Go.Ab
