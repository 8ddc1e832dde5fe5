/- A region of operations answers alike in whatever order the model takes them. Conditions: none. -/
import Derived.Test.YtgfeimceppggcaaGreatDoorRun
set_option linter.unusedVariables false
set_option linter.unusedSimpArgs false
set_option linter.defProp false
set_option linter.unnecessarySimpa false
namespace Go.Ab
open Go.RowKit
def cG.opds:cG->List bB
 | .mv x | .box x | .eqn _ _ x | .un _ x | .conv _ x | .fieldA _ x | .arr _ x | .nilc x | .sdata x | .field _ _ x | .extract x _ | .len _ x=> [x]
 | .load _ x | .loadF _ x=> [x]
 | .boxV x | .loadV _ x=> [x]
 | .new _ | .no=> []
 | .pick c a b=> [c,a,b]
 | .build _ ps=>ps.map fun p=>p.2.2
 | .buildSl _ _ _ _ ps=>ps.map fun p=>p.2
 | .buildA _ _ ps=>ps.map fun p=>p.2
 | .store _ p v | .storeS _ p v=> [p,v]
 | .bin _ x y | .eqb _ x y | .eqs _ _ x y | .append _ _ _ x y | .max2 _ x y | .idxS x y | .idxV _ _ _ x y | .eqp _ x y | .eqa _ _ x y=> [x,y]
 | .idxA _ _ x i=> [x,i]
 | .mkfn _ a c=>a ++c
 | .slice _ x lo hi mx=>x ::(lo.toList ++hi.toList ++mx.toList)
 | .sliceS x lo hi | .sliceA _ _ x lo hi=>x ::(lo.toList ++hi.toList)
 | .call _ f xs=>f ::xs
 | .ext _ xs=>xs
 | .prim _ xs=>xs
def bB.tmps:bB->List Nat
 | .tmp t=> [t]
 | _=> []
def a8.names (o:a8):List Nat:=o.op.opds.flatMap bB.tmps ++(match o.guard with | some (t,_)=> [t] | none=> [])
def cG.cls:cG->Nat
 | .load .. | .loadF .. | .sliceA .. | .eqp .. | .storeS .. =>1
 | .conv .ofBytes _=>1
 | .call .strict _ _=>1
 | .call .splitS _ _=>1
 | .box _ | .new _ | .buildSl true .. =>2
 | .store .. | .append .. | .call .. | .prim .. =>3
 | _=>0
def cG.isW:cG->Bool
 | .store .. | .append .. =>true
 | _=>false
def cG.isF:cG->Bool
 | .loadF .. =>true
 | _=>false
def wmeets (p q:cG):Bool:=p.cls == 3 && decide (1<=q.cls) && !(p.isW && q.isF)
def Cd (p q:a8):Bool:=
 (match p.dst with | some d=>q.names.contains d || q.dst == some d | none=>false) ||
 (match q.dst with | some d=>p.names.contains d | none=>false) ||
 wmeets p.op q.op || wmeets q.op p.op
def l8 (acc:List Nat) (o:Oper):Nat:=
 o.after.toList.foldl (fun s e=>if Region.binds .any e then s ||| (2 ^ e.on ||| acc.getD e.on 0) else s) 0
def jF:List Oper->List Nat->List Nat
 | [],acc=>acc
 | o ::os,acc=>jF os (acc ++ [l8 acc o])
def Mi (ops:Array Oper):List Nat:=jF ops.toList []
def backward (ops:Array Oper):Bool:=(List.range ops.size).all fun j=>match ops[j]? with
 | some o=>o.after.toList.all fun e=> !Region.binds .any e || decide (e.on < j)
 | none=>true
def CR (ms:List Nat) (os:List a8):Bool:=(List.range os.length).all fun j=>(List.range j).all fun i=>match os[i]?,os[j]? with
 | some p,some q=>(ms.getD j 0).testBit i || !Cd p q
 | _,_=>true
def oU (os:List a8) (ops:Array Oper):Bool:=backward ops && CR (Mi ops) os
theorem tG: ∀(l:List Oper) (acc:List Nat),(jF l acc).take acc.length=acc/\(jF l acc).length=acc.length+l.length
 | [],acc=>by simp [jF]
 | o ::l,acc=>by
  obtain ⟨h1,h2⟩:=tG l (acc ++ [l8 acc o])
  simp only [jF]
  refine ⟨?_,by rw [h2]; simp; omega⟩
  have:=congrArg (List.take acc.length) h1
  rw [List.take_take] at this
  simpa using this
theorem wj: ∀(l:List Oper) (acc:List Nat) (j:Nat) (o:Oper),l[j]? =some o->
  (jF l acc)[acc.length+j]? =some (l8 ((jF l acc).take (acc.length+j)) o)
 | [],acc,j,o,h=>by simp at h
 | x ::l,acc,j,o,h=>by
  simp only [jF]
  cases j with
  | zero=>
   simp only [List.getElem?_cons_zero,ah] at h
   subst h
   obtain ⟨h1,h2⟩:=tG l (acc ++ [l8 acc x])
   have e1:(jF l (acc ++ [l8 acc x])).take acc.length=acc:=by
    have:=congrArg (List.take acc.length) h1
    rw [List.take_take] at this
    simpa using this
   rw [Nat.add_zero,e1]
   have e2:((jF l (acc ++ [l8 acc x])).take (acc ++ [l8 acc x]).length)[acc.length]? =(acc ++ [l8 acc x])[acc.length]? :=by rw [h1]
   rw [List.getElem?_take,if_pos (by simp)] at e2
   rw [e2]; simp
  | succ j=>
   have:=wj l (acc ++ [l8 acc x]) j o (by simpa using h)
   have e:(acc ++ [l8 acc x]).length+j=acc.length+(j+1):=by simp; omega
   rw [e] at this
   exact this
theorem zO (acc:List Nat) (i:Nat): ∀(es:List Edge) (s:Nat),
  (es.foldl (fun s e=>if Region.binds .any e then s ||| (2 ^ e.on ||| acc.getD e.on 0) else s) s).testBit i=true->
   s.testBit i=true∨∃e∈es,Region.binds .any e=true/\(e.on=i∨(acc.getD e.on 0).testBit i=true)
 | [],s,h=> .inl h
 | e ::es,s,h=>by
  simp only [List.foldl_cons] at h
  rcases zO acc i es _ h with h | ⟨e',h1,h2⟩
  ·split at h
   ·rename_i hb
    simp only [Nat.testBit_or,Bool.or_eq_true] at h
    rcases h with h | h | h
    ·exact .inl h
    ·rw [Nat.testBit_two_pow] at h
     exact .inr ⟨e,by simp,hb, .inl (by simpa using h)⟩
    ·exact .inr ⟨e,by simp,hb, .inr h⟩
   ·exact .inl h
  ·exact .inr ⟨e',by simp [h1],h2⟩
def Pre (ops:Array Oper) (j i:Nat):Prop:=((Mi ops).getD j 0).testBit i=true
theorem Sf {ops:Array Oper} {j i:Nat} {o:Oper} (ho:ops[j]? =some o) (h:Pre ops j i) :
  ∃e∈o.after,Region.binds .any e=true/\(e.on=i∨(e.on < j/\Pre ops e.on i)):=by
 unfold Pre Mi at h
 have hg:=wj ops.toList [] j o (by simpa using ho)
 simp only [List.length_nil,Nat.zero_add] at hg
 rw [bc,hg] at h
 simp only [Option.getD_some,l8] at h
 rcases zO _ i _ _ h with h | ⟨e,h1,h2,h3⟩
 ·simp at h
 ·refine ⟨e,by simpa using h1,h2,?_⟩
  rcases h3 with h3 | h3
  ·exact .inl h3
  ·right
   by_cases aR:e.on < j
   ·refine ⟨aR,?_⟩
    unfold Pre Mi
    rw [bc,List.getElem?_take,if_pos aR,←bc] at h3
    exact h3
   ·rw [bc,List.getElem?_take,if_neg aR] at h3
    simp at h3
def Ki (ops:Array Oper) (L:Nat->Bool):Prop:=∀j o,ops[j]? =some o->L j=true->∀e∈o.after,Region.binds .any e=true->L e.on=true
theorem oI {ops:Array Oper} {L:Nat->Bool} (hL:Ki ops L): ∀(j:Nat) {i:Nat} {o:Oper},ops[j]? =some o->(∀e∈o.after,Region.binds .any e=true->L e.on=true)->Pre ops j i->L i=true:=by
 intro j
 induction j using Nat.strongRecOn with
 | _ j ih=>
  intro i o ho hr h
  obtain ⟨e,h1,h2,h3⟩:=Sf ho h
  rcases h3 with rfl | ⟨aR,hp⟩
  ·exact hr e h1 h2
  ·have he:=hr e h1 h2
   cases hoe:ops[e.on]? with
   | none=>
    have:ops.size<=e.on:=by
     rcases Nat.lt_or_ge e.on ops.size with h' | h'
     ·simp [h'] at hoe
     ·exact h'
    have:j < ops.size:=(Array.getElem?_eq_some_iff.1 ho).1
    omega
   | some oe=>exact ih e.on aR hoe (hL e.on oe hoe he) hp
theorem oJ {ms:List Nat} {os:List a8} (h:CR ms os=true) {i j:Nat} (hij:i < j) {p q:a8} (hp:os[i]? =some p) (hq:os[j]? =some q) (hc:Cd p q=true) :
  (ms.getD j 0).testBit i=true:=by
 unfold CR at h
 have hj:j < os.length:=(bI.1 hq).1
 have h1:=bG.1 h j (by simpa using hj)
 have h2:=bG.1 h1 i (by simpa using hij)
 rw [hp,hq] at h2
 simpa [hc] using h2
section
variable {G:Nat->ai} {ip:Nat->Option au}
theorem val_congr {fr fr':Fr} {x:bB} (h: ∀t∈x.tmps,fr.get t=fr'.get t):val G fr x=val G fr' x:=by
 cases x with
 | tmp t=>exact h t (by simp [bB.tmps])
 | _=>rfl
theorem JV {r:kN} {o:cG} {fr fr':Fr} {σ:ag} (h: ∀x∈o.opds,val G fr x=val G fr' x):bH ip G r o fr σ=bH ip G r o fr' σ:=by
 have hm: ∀(l:List bB),(∀x∈l,val G fr x=val G fr' x)->l.map (val G fr)=l.map (val G fr'):=fun l hl=>List.map_congr_left hl
 have ho: ∀(l:Option bB),(∀x∈l.toList,val G fr x=val G fr' x)->l.map (val G fr)=l.map (val G fr'):=fun l hl=>by
  cases l with
  | none=>rfl
  | some x=>simp [hl x (by simp)]
 cases o with
 | new z=>rfl
 | build z ps=>
  have:(ps.map fun (o,s,x)=>(o,s,val G fr x))=ps.map fun (o,s,x)=>(o,s,val G fr' x):=List.map_congr_left (fun p hp=>by
   obtain ⟨o,s,x⟩:=p
   simp only [cG.opds,List.mem_map] at h
   show (o,s,val G fr x)=(o,s,val G fr' x)
   rw [h x ⟨(o,s,x),hp,rfl⟩])
  simp only [bH,aj,this]
 | buildA sz z ps=>
  have:(ps.map fun (i,x)=>(i*sz,sz,val G fr x))=ps.map fun (i,x)=>(i*sz,sz,val G fr' x):=List.map_congr_left (fun p hp=>by
   obtain ⟨o,x⟩:=p
   simp only [cG.opds,List.mem_map] at h
   show (o*sz,sz,val G fr x)=(o*sz,sz,val G fr' x)
   rw [h x ⟨(o,x),hp,rfl⟩])
  simp only [bH,aj,this]
 | buildSl own sz len z ps=>
  have:(ps.map fun (i,x)=>(i*sz,sz,val G fr x))=ps.map fun (i,x)=>(i*sz,sz,val G fr' x):=List.map_congr_left (fun p hp=>by
   obtain ⟨o,x⟩:=p
   simp only [cG.opds,List.mem_map] at h
   show (o*sz,sz,val G fr x)=(o*sz,sz,val G fr' x)
   rw [h x ⟨(o,x),hp,rfl⟩])
  cases own <;> simp only [bH,aj,this]
 | mkfn f a c=>
  have h1:=hm a (fun x hx=>h x (by simp [cG.opds,hx]))
  have h2:=hm c (fun x hx=>h x (by simp [cG.opds,hx]))
  simp only [bH,aj,h1,h2]
 | slice sz x lo hi mx=>
  have h0:=h x (by simp [cG.opds])
  have h1:=ho lo (fun y hy=>h y (by simp [cG.opds] at hy ⊢; simp [hy]))
  have h2:=ho hi (fun y hy=>h y (by simp [cG.opds] at hy ⊢; simp [hy]))
  have h3:=ho mx (fun y hy=>h y (by simp [cG.opds] at hy ⊢; simp [hy]))
  simp only [bH,aj,h0,h1,h2,h3]
 | sliceS x lo hi=>
  have h0:=h x (by simp [cG.opds])
  have h1:=ho lo (fun y hy=>h y (by simp [cG.opds] at hy ⊢; simp [hy]))
  have h2:=ho hi (fun y hy=>h y (by simp [cG.opds] at hy ⊢; simp [hy]))
  simp only [bH,aj,h0,h1,h2]
 | sliceA n sz x lo hi=>
  have h0:=h x (by simp [cG.opds])
  have h1:=ho lo (fun y hy=>h y (by simp [cG.opds] at hy ⊢; simp [hy]))
  have h2:=ho hi (fun y hy=>h y (by simp [cG.opds] at hy ⊢; simp [hy]))
  simp only [bH,aj,h0,h1,h2]
 | call m f xs=>
  have h0:=h f (by simp [cG.opds])
  have h1:=hm xs (fun x hx=>h x (by simp [cG.opds,hx]))
  cases m <;> simp only [bH,h0,h1]
 | no=>rfl
 | ext k xs=>
  have h1:=hm xs (fun x hx=>h x (by simp [cG.opds,hx]))
  simp only [bH,aj,h1]
 | prim k xs=>
  have h1:=hm xs (fun x hx=>h x (by simp [cG.opds,hx]))
  simp only [bH,h1]
 | conv c x=>
  have h0:=h x (by simp [cG.opds])
  cases c <;> simp only [bH,aj,h0]
 | pick c a b=>simp only [bH,aj,h c (by simp [cG.opds]),h a (by simp [cG.opds]),h b (by simp [cG.opds])]
 | store n p v=>simp only [bH,h p (by simp [cG.opds]),h v (by simp [cG.opds])]
 | storeS n p v=>simp only [bH,h p (by simp [cG.opds]),h v (by simp [cG.opds])]
 | bin op x y=>simp only [bH,aj,h x (by simp [cG.opds]),h y (by simp [cG.opds])]
 | eqb n x y=>simp only [bH,aj,h x (by simp [cG.opds]),h y (by simp [cG.opds])]
 | eqs k n x y=>simp only [bH,aj,h x (by simp [cG.opds]),h y (by simp [cG.opds])]
 | append a b c x y=>simp only [bH,h x (by simp [cG.opds]),h y (by simp [cG.opds])]
 | eqp n x y=>simp only [bH,aj,h x (by simp [cG.opds]),h y (by simp [cG.opds])]
 | eqa m n x y=>simp only [bH,aj,h x (by simp [cG.opds]),h y (by simp [cG.opds])]
 | nilc x=>simp only [bH,aj,h x (by simp [cG.opds])]
 | sdata x=>simp only [bH,aj,h x (by simp [cG.opds])]
 | idxV sz len n x y=>simp only [bH,aj,h x (by simp [cG.opds]),h y (by simp [cG.opds])]
 | arr n x=>simp only [bH,aj,h x (by simp [cG.opds])]
 | max2 n x y=>simp only [bH,aj,h x (by simp [cG.opds]),h y (by simp [cG.opds])]
 | idxS x y=>simp only [bH,aj,h x (by simp [cG.opds]),h y (by simp [cG.opds])]
 | idxA a b x y=>simp only [bH,aj,h x (by simp [cG.opds]),h y (by simp [cG.opds])]
 | mv x=>simp only [bH,aj,h x (by simp [cG.opds])]
 | box x=>simp only [bH,h x (by simp [cG.opds])]
 | load n x=>simp only [bH,aj,h x (by simp [cG.opds])]
 | boxV x=>simp only [bH,aj,h x (by simp [cG.opds])]
 | loadV n x=>simp only [bH,aj,h x (by simp [cG.opds])]
 | loadF n x=>simp only [bH,aj,h x (by simp [cG.opds])]
 | eqn k n x=>simp only [bH,aj,h x (by simp [cG.opds])]
 | un op x=>simp only [bH,aj,h x (by simp [cG.opds])]
 | fieldA n x=>simp only [bH,aj,h x (by simp [cG.opds])]
 | field o n x=>simp only [bH,aj,h x (by simp [cG.opds])]
 | extract x i=>simp only [bH,aj,h x (by simp [cG.opds])]
 | len s x=>simp only [bH,aj,h x (by simp [cG.opds])]
theorem zb {r:kN} {o:a8} {fr fr':Fr} {σ:ag} (h: ∀t∈o.names,fr.get t=fr'.get t):wanted o.guard fr=wanted o.guard fr'/\bH ip G r o.op fr σ=bH ip G r o.op fr' σ:=by
 constructor
 ·unfold wanted
  cases hg:o.guard with
  | none=>rfl
  | some p=>
   obtain ⟨t,b⟩:=p
   simp only
   rw [h t (by simp [a8.names,hg])]
 ·refine JV (fun x hx=>val_congr (fun t ht=>h t ?_))
  simp only [a8.names,lB,List.mem_flatMap]
  exact .inl ⟨x,hx,ht⟩
def ag.le (σ τ:ag):Prop:=(∀b x,σ.get b=some x->τ.get b=some x)/\(∀b x,τ.get b=some x->σ.get b=some x∨(σ.get b=none/\∃cs,x= .own cs))/\σ.next<=τ.next/\(∀b e,(b,jP.tag e)∈τ.m->(b,jP.tag e)∈σ.m)
theorem ag.le_refl (σ:ag):σ.le σ:=⟨fun _ _ h=>h,fun _ _ h=> .inl h,aD _,fun _ _ h=>h⟩
theorem ag.le_trans {a b c:ag} (h:a.le b) (k:b.le c):a.le c:=by
 refine ⟨fun x y hx=>k.1 x y (h.1 x y hx),fun x y hx=> ?_,Nat.le_trans h.2.2.1 k.2.2.1,fun x y hx=>h.2.2.2 x y (k.2.2.2 x y hx)⟩
 rcases k.2.1 x y hx with h1 | ⟨h1,h2⟩
 ·exact h.2.1 x y h1
 ·right
  refine ⟨?_,h2⟩
  cases ha:a.get x with
  | none=>rfl
  | some z=>have:=h.1 x z ha; rw [h1] at this; simp at this
theorem mq {σ τ:ag} (h:σ.le τ) {b:Nat} {cs:ai} (hc:σ.cells b=some cs):τ.cells b=some cs:=by
 unfold ag.cells at hc ⊢
 cases hg:σ.get b with
 | none=>simp [hg] at hc
 | some x=>rw [h.1 b x hg]; rw [hg] at hc; exact hc
theorem IB {σ τ:ag} (h:σ.le τ) {p:AV} {n:aA} {v:AV} (hr:fh σ p n=some v):fh τ p n=some v:=by
 unfold fh at hr ⊢
 cases p with
 | ptr b off=>
  simp only at hr ⊢
  cases hc:σ.cells b with
  | none=>simp [hc] at hr
  | some cs=>rw [mq h hc]; rw [hc] at hr; exact hr
 | vptr=>exact hr
 | _=>simp at hr
def ag.fsame (σ τ:ag):Prop:=∀b cs,σ.get b=some (.frz cs)↔τ.get b=some (.frz cs)
theorem ag.fsame.refl (σ:ag):σ.fsame σ:=fun _ _=>Iff.rfl
theorem ag.fsame.trans {a b c:ag} (h:a.fsame b) (k:b.fsame c):a.fsame c:=fun x y=>(h x y).trans (k x y)
theorem ag.fsame.symm {a b:ag} (h:a.fsame b):b.fsame a:=fun x y=>(h x y).symm
theorem SO {σ τ:ag} (h:σ.le τ):σ.fsame τ:=fun b cs=>⟨fun hb=>h.1 b _ hb,fun hb=>by
 rcases h.2.1 b _ hb with h1 | ⟨_,_,h2⟩
 ·exact h1
 ·simp at h2⟩
theorem rU {σ τ:ag} (h:σ.fsame τ) {p:AV} {n:aA} {v:AV} (hr:eE σ p n=some v):eE τ p n=some v:=by
 unfold eE at hr ⊢
 split at hr
 ·split at hr
  case h_2=>simp at hr
  rename_i hg
  simp only [(h _ _).1 hg]
  exact hr
 ·exact hr
 ·exact hr
 ·exact hr
 ·simp at hr
 ·split at hr
  case h_2=>simp at hr
  rename_i hg
  simp only [(h _ _).1 hg]
  exact hr
 ·simp at hr
theorem Fl {σ τ:ag} (h:σ.le τ) {p:AV} {n:aA} {v:AV} (hr:eE σ p n=some v):eE τ p n=some v:=rU (SO h) hr
theorem nF {o:cG} (h:o.cls≠1):o.isF=false:=by
 cases o <;> first | rfl | (simp [cG.cls] at h)
theorem wm {p q:cG} (h:p.cls=3) (h1:1<=q.cls) (hF:q.isF=false):wmeets p q=true:=by simp [wmeets,h,h1,hF]
theorem wm' {p q:cG} (h:p.cls=3) (h1:1<=q.cls) (hF:p.isW=false):wmeets p q=true:=by simp [wmeets,h,h1,hF]
theorem Fb {σ τ:ag} (h:σ.le τ) {n sz:Nat} {x v:AV} {lo hi:Option Int} (hr:eQ σ n sz x lo hi=some v):eQ τ n sz x lo hi=some v:=by
 unfold eQ at hr ⊢
 split at hr
 case h_2=>simp at hr
 split at hr
 case isFalse=>simp at hr
 rename_i hc
 rw [if_pos hc]
 cases x with
 | ptr b off=>
  simp only at hr ⊢
  cases hc:σ.cells b with
  | none=>simp [hc] at hr
  | some c=>rw [mq h hc]; rw [hc] at hr; exact hr
 | _=>exact hr
theorem Ri {σ τ:ag} (h:σ.le τ) {sz:Nat} {x:AV} {cs:ai} (hr:rowOf σ sz x=some cs):rowOf τ sz x=some cs:=by
 unfold rowOf at hr ⊢
 cases x with
 | sl b off len kl cap=>
  simp only at hr ⊢
  split at hr
  ·rename_i hs
   rw [if_pos hs]
   cases hc:σ.cells b with
   | none=>simp [hc] at hr
   | some c=>rw [mq h hc]; rw [hc] at hr; exact hr
  ·simp at hr
 | _=>exact hr
theorem mP {f g:AV->Option AV} (h: ∀x y,f x=some y->g x=some y): ∀ {l m:ai},cS f l=some m->cS g l=some m
 | [],m,hm=>hm
 | a ::l,m,hm=>by
  simp only [cS] at hm ⊢
  cases hf:f a with
  | none=>simp [hf] at hm
  | some b=>
   rw [h a b hf]
   rw [hf] at hm
   simp only at hm ⊢
   cases hl:cS f l with
   | none=>simp [hl] at hm
   | some m'=>rw [mP h hl]; rw [hl] at hm; exact hm
theorem Rn {σ τ:ag} (h:σ.le τ): ∀(d:Nat) (x y:AV),rb σ d x=some y->rb τ d x=some y
 | 0,x,y,hr=>by simp only [rb] at hr ⊢; exact hr
 | d+1,x,y,hr=>by
  have ih:=Rn h d
  simp only [rb] at hr ⊢
  split at hr
  ·rename_i hc; rw [if_pos hc]; exact hr
  ·rename_i hc
   rw [if_neg hc]
   cases x with
   | ptr b off=>
    simp only at hr ⊢
    cases ma:σ.cells b with
    | none=>simp [ma] at hr
    | some cs=>
     rw [mq h ma]; rw [ma] at hr
     simp only at hr ⊢
     cases hm:cS (rb σ d) cs with
     | none=>simp [hm] at hr
     | some m=>rw [mP ih hm]; rw [hm] at hr; exact hr
   | sl b off len sz cap=>
    simp only at hr ⊢
    cases ma:σ.cells b with
    | none=>simp [ma] at hr
    | some cs=>
     rw [mq h ma]; rw [ma] at hr
     simp only at hr ⊢
     split at hr
     ·rename_i aK
      rw [if_pos aK]
      cases hm:cS (rb σ d) ((cs.drop off).take (len*sz)) with
      | none=>simp [hm] at hr
      | some m=>rw [mP ih hm]; rw [hm] at hr; exact hr
     ·simp at hr
   | fn f a c=>
    simp only at hr ⊢
    cases h1:cS (rb σ d) a with
    | none=>simp [h1] at hr
    | some a'=>
     cases h2:cS (rb σ d) c with
     | none=>simp [h1,h2] at hr
     | some c'=>rw [mP ih h1,mP ih h2]; rw [h1,h2] at hr; exact hr
   | agg cs=>
    simp only at hr ⊢
    cases hm:cS (rb σ d) cs with
    | none=>simp [hm] at hr
    | some m=>rw [mP ih hm]; rw [hm] at hr; exact hr
   | tup cs=>
    simp only at hr ⊢
    cases hm:cS (rb σ d) cs with
    | none=>simp [hm] at hr
    | some m=>rw [mP ih hm]; rw [hm] at hr; exact hr
   | _=>simp at hr
theorem tr {r:kN} {ea:Bool} {f:AV} {args:ai} {σ σ' τ:ag} (h:ag.le σ τ) {v:AV} (hd:gO ip r ea true f args σ=some (v,σ')):σ'=σ/\gO ip r ea true f args τ=some (v,τ):=by
 unfold gO at hd ⊢
 split at hd
 case h_2=>simp at hd
 rename_i f' args' h1 h2
 rw [Rn h _ _ _ h1,mP (Rn h bJ) h2]
 simp only
 split at hd
 case h_2=>simp at hd
 rename_i r1 σ1 hs
 split at hd
 case h_2=>simp at hd
 rename_i r' hr'
 split at hd
 ·rename_i aK
  simp only [ah,aL] at hd
  obtain ⟨rfl,rfl⟩:=hd
  rw [if_pos aK]
  exact ⟨rfl,rfl⟩
 ·simp at hd
theorem ZD {r:kN} {f:AV} {σ τ:ag} (h:ag.le σ τ) (hd:fU ip r f σ=true):fU ip r f τ=true:=by
 unfold fU at hd ⊢
 split at hd
 case h_2=>simp at hd
 rename_i h1 h2
 rw [(tr h h1).2,(tr h h2).2]
 exact hd
theorem xE {r:kN} {o:cG} (hc:o.cls<=1) {fr:Fr} {σ τ σ':ag} {v:AV} (h:σ.le τ) (hd:bH ip G r o fr σ=some (v,σ')):σ'=σ/\bH ip G r o fr τ=some (v,τ):=by
 have bK: ∀ {o:cG},(∀v,aj G o fr σ=some v->aj G o fr τ=some v)->(aj G o fr σ).map (fun v=>(v,σ))=some (v,σ')->σ'=σ/\(aj G o fr τ).map (fun v=>(v,τ))=some (v,τ):=by
  intro o hp hh
  simp only [cH,aL] at hh
  obtain ⟨v',hv,rfl,rfl⟩:=hh
  exact ⟨rfl,by rw [hp _ hv]; rfl⟩
 cases o with
 | box=>simp [cG.cls] at hc
 | new=>simp [cG.cls] at hc
 | store=>simp [cG.cls] at hc
 | storeS n p x=>
  simp only [bH] at hd ⊢
  unfold gp at hd ⊢
  split at hd
  case h_2=>cases hd
  rename_i b off hb
  split at hd
  case h_2=>cases hd
  rename_i cs ma
  split at hd <;> simp only [ah,aL,reduceCtorEq] at hd
  rename_i aK
  obtain ⟨rfl,rfl⟩:=hd
  have ho:(τ.owned b).isSome=true:=by
   obtain ⟨cs',ho⟩:=Option.isSome_iff_exists.1 aK.2.2.2
   have hg:σ.get b=some (.own cs'):=by
    unfold ag.owned at ho
    split at ho
    ·rename_i hh; rw [hh]; rw [bT ho]
    ·cases ho
   unfold ag.owned
   rw [h.1 b _ hg]; rfl
  simp only [mq h ma]
  rw [if_pos ⟨aK.1,aK.2.1,aK.2.2.1,ho⟩]
  exact ⟨trivial,rfl⟩
 | append=>simp [cG.cls] at hc
 | prim=>simp [cG.cls] at hc
 | buildSl own sz len z ps=>
  cases own with
  | true=>simp [cG.cls] at hc
  | false=>exact bK (o:= .buildSl false sz len z ps) (fun v hv=>hv) hd
 | load n p=>exact bK (o:= .load n p) (fun v hv=>IB h hv) hd
 | eqp neg x y=>
  refine bK (o:= .eqp neg x y) (fun v hv=> ?_) hd
  simp only [aj] at hv ⊢
  unfold B7 at hv ⊢
  split at hv
  ·split at hv
   ·rename_i hc
    obtain ⟨cs,ma⟩:=Option.isSome_iff_exists.1 hc.2
    rw [if_pos ⟨hc.1,by rw [mq h ma]; rfl⟩]; exact hv
   ·cases hv
  ·cases hv
 | sliceA n sz x lo hi=>
  refine bK (o:= .sliceA n sz x lo hi) (fun v hv=> ?_) hd
  simp only [aj] at hv ⊢
  split at hv
  ·exact Fb h hv
  ·simp at hv
 | loadF n p=>exact bK (o:= .loadF n p) (fun v hv=>Fl h hv) hd
 | conv c x=>
  cases c with
  | ofBytes=>
   refine bK (o:= .conv .ofBytes x) (fun v hv=> ?_) hd
   simp only [aj] at hv ⊢
   cases hr:rowOf σ 1 (val G fr x) with
   | none=>simp [hr] at hv
   | some cs=>rw [Ri h hr]; rw [hr] at hv; exact hv
  | int k=>exact bK (o:= .conv (.int k) x) (fun v hv=>hv) hd
  | same=>exact bK (o:= .conv .same x) (fun v hv=>hv) hd
  | toBytes=>exact bK (o:= .conv .toBytes x) (fun v hv=>hv) hd
  | flo=>exact bK (o:= .conv .flo x) (fun v hv=>hv) hd
 | call m f xs=>
  cases m with
  | shared=>simp [cG.cls] at hc
  | pure=>simp [cG.cls] at hc
  | strict=>
   obtain ⟨h1,h2⟩:=tr h hd
   exact ⟨h1,h2⟩
  | split=>simp [cG.cls] at hc
  | splitS=>
   simp only [bH] at hd ⊢
   split at hd
   ·rename_i h1
    split at hd <;> simp only [ah,aL,reduceCtorEq] at hd
    rename_i h2
    obtain ⟨rfl,rfl⟩:=hd
    rw [if_pos h1,if_pos (ZD h h2)]
    exact ⟨rfl,rfl⟩
   ·rename_i h1
    rw [if_neg h1]
    obtain ⟨h1,h2⟩:=tr h hd
    exact ⟨h1,h2⟩
 | mv x=>exact bK (o:= .mv x) (fun v hv=>hv) hd
 | pick c a b=>exact bK (o:= .pick c a b) (fun v hv=>hv) hd
 | build z ps=>exact bK (o:= .build z ps) (fun v hv=>hv) hd
 | buildA sz z ps=>exact bK (o:= .buildA sz z ps) (fun v hv=>hv) hd
 | boxV x=>exact bK (o:= .boxV x) (fun v hv=>hv) hd
 | loadV n x=>exact bK (o:= .loadV n x) (fun v hv=>hv) hd
 | bin op x y=>exact bK (o:= .bin op x y) (fun v hv=>hv) hd
 | eqb n x y=>exact bK (o:= .eqb n x y) (fun v hv=>hv) hd
 | eqn k n x=>exact bK (o:= .eqn k n x) (fun v hv=>hv) hd
 | eqs k n x y=>exact bK (o:= .eqs k n x y) (fun v hv=>hv) hd
 | un op x=>exact bK (o:= .un op x) (fun v hv=>hv) hd
 | mkfn f a c=>exact bK (o:= .mkfn f a c) (fun v hv=>hv) hd
 | slice sz x lo hi mx=>exact bK (o:= .slice sz x lo hi mx) (fun v hv=>hv) hd
 | sliceS x lo hi=>exact bK (o:= .sliceS x lo hi) (fun v hv=>hv) hd
 | fieldA off x=>exact bK (o:= .fieldA off x) (fun v hv=>hv) hd
 | field off n x=>exact bK (o:= .field off n x) (fun v hv=>hv) hd
 | idxA sz arr x i=>exact bK (o:= .idxA sz arr x i) (fun v hv=>hv) hd
 | idxS x i=>exact bK (o:= .idxS x i) (fun v hv=>hv) hd
 | extract x i=>exact bK (o:= .extract x i) (fun v hv=>hv) hd
 | len s x=>exact bK (o:= .len s x) (fun v hv=>hv) hd
 | eqa m n x y=>exact bK (o:= .eqa m n x y) (fun v hv=>hv) hd
 | nilc x=>exact bK (o:= .nilc x) (fun v hv=>hv) hd
 | sdata x=>exact bK (o:= .sdata x) (fun v hv=>hv) hd
 | idxV sz len n x y=>exact bK (o:= .idxV sz len n x y) (fun v hv=>hv) hd
 | arr n x=>exact bK (o:= .arr n x) (fun v hv=>hv) hd
 | max2 n x y=>exact bK (o:= .max2 n x y) (fun v hv=>hv) hd
 | ext k xs=>exact bK (o:= .ext k xs) (fun v hv=>hv) hd
 | no=>simp [bH,aj] at hd
theorem oV {r:kN} {o:cG} (hc:o.cls=2) {fr:Fr} {σ σ':ag} {v:AV} (hd:bH ip G r o fr σ=some (v,σ')): ∃cs,σ'=σ.alloc cs:=by
 cases o with
 | box x=>
  simp only [bH] at hd
  split at hd <;> simp only [ah,aL,reduceCtorEq] at hd
  exact ⟨_,hd.2.symm⟩
 | new z=>
  simp only [bH,ah,aL] at hd
  exact ⟨_,hd.2.symm⟩
 | buildSl own sz len z ps=>
  cases own with
  | false=>simp [cG.cls] at hc
  | true=>
   simp only [bH] at hd
   split at hd
   case h_2=>simp at hd
   split at hd <;> simp only [ah,aL,reduceCtorEq] at hd
   exact ⟨_,hd.2.symm⟩
 | conv c x=>cases c <;> simp [cG.cls] at hc
 | call m f xs=>cases m <;> simp [cG.cls] at hc
 | _=>simp [cG.cls] at hc
end
end Go.Ab
namespace Go.Ab
open Go.RowKit
section
variable {P:Program} {fm gm:Nat->aA} {G:Nat->ai} {ip:Nat->Option au}
theorem doOp_n {r:kN} {o:cG} (hc:o.cls=0) {fr:Fr} {σ σ':ag} (τ:ag) {v:AV} (hd:bH ip G r o fr σ=some (v,σ')):σ'=σ/\bH ip G r o fr τ=some (v,τ):=by
 have bK: ∀ {o:cG},(∀v,aj G o fr σ=some v->aj G o fr τ=some v)->(aj G o fr σ).map (fun v=>(v,σ))=some (v,σ')->σ'=σ/\(aj G o fr τ).map (fun v=>(v,τ))=some (v,τ):=by
  intro o hp hh
  simp only [cH,aL] at hh
  obtain ⟨v',hv,rfl,rfl⟩:=hh
  exact ⟨rfl,by rw [hp _ hv]; rfl⟩
 cases o with
 | box=>simp [cG.cls] at hc
 | new=>simp [cG.cls] at hc
 | store=>simp [cG.cls] at hc
 | storeS=>simp [cG.cls] at hc
 | append=>simp [cG.cls] at hc
 | prim=>simp [cG.cls] at hc
 | load=>simp [cG.cls] at hc
 | sliceA=>simp [cG.cls] at hc
 | eqp=>simp [cG.cls] at hc
 | loadF=>simp [cG.cls] at hc
 | call m=>cases m <;> simp [cG.cls] at hc
 | buildSl own sz len z ps=>
  cases own with
  | true=>simp [cG.cls] at hc
  | false=>exact bK (o:= .buildSl false sz len z ps) (fun v hv=>hv) hd
 | conv c x=>
  cases c with
  | ofBytes=>simp [cG.cls] at hc
  | int k=>exact bK (o:= .conv (.int k) x) (fun v hv=>hv) hd
  | same=>exact bK (o:= .conv .same x) (fun v hv=>hv) hd
  | toBytes=>exact bK (o:= .conv .toBytes x) (fun v hv=>hv) hd
  | flo=>exact bK (o:= .conv .flo x) (fun v hv=>hv) hd
 | mv x=>exact bK (o:= .mv x) (fun v hv=>hv) hd
 | pick c a b=>exact bK (o:= .pick c a b) (fun v hv=>hv) hd
 | build z ps=>exact bK (o:= .build z ps) (fun v hv=>hv) hd
 | buildA sz z ps=>exact bK (o:= .buildA sz z ps) (fun v hv=>hv) hd
 | boxV x=>exact bK (o:= .boxV x) (fun v hv=>hv) hd
 | loadV n x=>exact bK (o:= .loadV n x) (fun v hv=>hv) hd
 | bin op x y=>exact bK (o:= .bin op x y) (fun v hv=>hv) hd
 | eqb n x y=>exact bK (o:= .eqb n x y) (fun v hv=>hv) hd
 | eqn k n x=>exact bK (o:= .eqn k n x) (fun v hv=>hv) hd
 | eqs k n x y=>exact bK (o:= .eqs k n x y) (fun v hv=>hv) hd
 | un op x=>exact bK (o:= .un op x) (fun v hv=>hv) hd
 | mkfn f a c=>exact bK (o:= .mkfn f a c) (fun v hv=>hv) hd
 | slice sz x lo hi mx=>exact bK (o:= .slice sz x lo hi mx) (fun v hv=>hv) hd
 | sliceS x lo hi=>exact bK (o:= .sliceS x lo hi) (fun v hv=>hv) hd
 | fieldA off x=>exact bK (o:= .fieldA off x) (fun v hv=>hv) hd
 | field off n x=>exact bK (o:= .field off n x) (fun v hv=>hv) hd
 | idxA sz arr x i=>exact bK (o:= .idxA sz arr x i) (fun v hv=>hv) hd
 | idxS x i=>exact bK (o:= .idxS x i) (fun v hv=>hv) hd
 | extract x i=>exact bK (o:= .extract x i) (fun v hv=>hv) hd
 | len s x=>exact bK (o:= .len s x) (fun v hv=>hv) hd
 | eqa m n x y=>exact bK (o:= .eqa m n x y) (fun v hv=>hv) hd
 | nilc x=>exact bK (o:= .nilc x) (fun v hv=>hv) hd
 | sdata x=>exact bK (o:= .sdata x) (fun v hv=>hv) hd
 | idxV sz len n x y=>exact bK (o:= .idxV sz len n x y) (fun v hv=>hv) hd
 | arr n x=>exact bK (o:= .arr n x) (fun v hv=>hv) hd
 | max2 n x y=>exact bK (o:= .max2 n x y) (fun v hv=>hv) hd
 | ext k xs=>exact bK (o:= .ext k xs) (fun v hv=>hv) hd
 | no=>simp [bH,aj] at hd
section
variable {w:World} {X:Nat->Prop} {μ:Mu} {σ σ' τ:ag} {N:Nat} {fr:Fr} {a:Act} {o:Oper} {v:AV}
theorem R6 (wx: ∀g,ay (G g)=true) (g:bO P fm gm G w X μ σ N fr a) {n m:Nat} (uM:gF P fm gm G ip n) (hm:m < n) {io:cG} (gh:io.cls<=1) (hc:aS P fm gm io o.op=true)
  (h:bH ip G (run ip G m) io fr σ=some (v,σ')):M4 P fm X μ o a w v:=by
 have bK: ∀ {io:cG},aS P fm gm io o.op=true->(aj G io fr σ).map (fun v=>(v,σ))=some (v,σ')->M4 P fm X μ o a w v:=by
  intro io hc h
  simp only [cH,aL] at h
  obtain ⟨v',hv,rfl,rfl⟩:=h
  exact .of_yld (LZ g hc hv)
 cases io with
 | box x=>simp [cG.cls] at gh
 | new z=>simp [cG.cls] at gh
 | store n p x=>simp [cG.cls] at gh
 | storeS n p x=>exact FD g hc (by simpa [bH] using h)
 | append=>simp [cG.cls] at gh
 | prim=>simp [cG.cls] at gh
 | buildSl own sz len z ps=>
  cases own with
  | false=>exact bK hc h
  | true=>simp [cG.cls] at gh
 | call sh f xs=>
  cases sh with
  | shared=>simp [cG.cls] at gh
  | pure=>simp [cG.cls] at gh
  | strict=>
   rcases lf g uM hm (fun w' X' hb hX=>mT wx g.glob w' X' hb hX) hc h with ⟨h1,_⟩ | ⟨h1,_⟩
   ·exact h1
   ·simp at h1
  | split=>simp [cG.cls] at gh
  | splitS=>
   simp only [bH] at h
   split at h
   ·rename_i h1
    split at h <;> simp only [ah,aL,reduceCtorEq] at h
    rename_i h2
    obtain ⟨rfl,rfl⟩:=h
    exact (I5 g uM hm (fun w' X' hb hX=>mT wx g.glob w' X' hb hX) hc h1 h2).weaken (fun _ _ hr=>Hr hr)
   ·rcases lf g uM hm (fun w' X' hb hX=>mT wx g.glob w' X' hb hX) hc h with ⟨h1,_⟩ | ⟨h1,_⟩
    ·exact h1
    ·simp at h1
 | _=>exact bK hc h
theorem O1 (g:bO P fm gm G w X μ τ N fr a) {io:cG} (gh:io.cls=2) (hc:aS P fm gm io o.op=true) {r:kN} (h:bH ip G r io fr σ=some (v,σ')) :
  ∃cs cv arr e,σ'=σ.alloc cs/\(execOp a.eval o).run P w= .ok (.value cv) (w.alloc (.cells arr e))/\cs.length<=arr.size/\(∀j,j < cs.length->RV fm w X μ (cs.getD j .undef) (arr.getD j Go.undef))/\
   ∀(w':World) (μ':Mu),μ' σ.next= .at w.heap.size 0 true->w'.heap[w.heap.size]? =some (.cells arr e (0,0))->RV fm w' X μ' v cv:=by
 obtain ⟨dst,op,type,pos,after,guard⟩:=o
 cases io with
 | box x=>
  simp only [bH] at h
  split at h <;> simp only [ah,aL,reduceCtorEq] at h
  rename_i hk
  obtain ⟨rfl,rfl⟩:=h
  simp only [aS] at hc
  split at hc
  case h_2=>simp at hc
  rename_i el x'
  obtain ⟨hl,hr⟩:=(bj g.glob g.rf hc).cells hk
  exact ⟨_, .pointer (some ⟨w.heap.size,0+0,none⟩),_,el,rfl,rfl,Nat.le_of_eq hl,fun j _=>hr j,fun w' μ' h1 _=> .ptr _ _ _ _ _ h1⟩
 | new z=>
  simp only [bH,ah,aL] at h
  obtain ⟨rfl,rfl⟩:=h
  simp only [aS] at hc
  split at hc
  case h_2=>simp at hc
  rename_i t
  obtain ⟨zv,Ga,BH⟩:=jV (P:=P) (fm:=fm) (w:=w) (X:=X) (μ:=μ) hc
  refine ⟨_, .pointer (some ⟨w.heap.size,0+0,none⟩),zv.cells,t,rfl,?_,Nat.le_of_eq BH.1,fun j _=>BH.2 j,fun w' μ' h1 _=> .ptr _ _ _ _ _ h1⟩
  simp [execOp,Instr.alloc,Ga,newVar,newRow]
 | buildSl own sz len z ps=>
  cases own with
  | false=>simp [cG.cls] at gh
  | true=>
   simp only [bH] at h
   split at h
   case h_2=>simp at h
   rename_i cs JB
   split at h <;> simp only [ah,aL,reduceCtorEq] at h
   rename_i hz
   obtain ⟨rfl,rfl⟩:=h
   have lF:=hc
   simp only [aS] at hc
   split at hc
   case h_2=>simp at hc
   rename_i t cI lY
   have hex:execOp a.eval ⟨dst, .buildSlice t cI lY,type,pos,after,guard⟩=(do pure (.value (←Instr.buildSlice t cI (lY.map fun (i,x)=>(i,a.eval x))))):=by
    simp only [execOp]
   obtain ⟨e,rN,h1,h2,h3⟩:=qy (w:=w) (X:=X) (μ:=μ) g.glob g.rf lF hz.1 JB
   have hlen:cs.length=len*sz:=by rw [oS _ _ _ JB,il,hz.1]
   have fb:rN.size=len*sz:=by rw [←h2.1,hlen]
   refine ⟨cs,_,rN,e,rfl,?_,Nat.le_of_eq h2.1,fun j _=>h2.2 j,fun w' μ' k1 k2=>RV.sl σ.next 0 len sz (some len) w.heap.size 0 len true rN e (0,0) k1 k2 aa (aD _) (.inr rfl)⟩
   rw [hex]
   simp only [Sem.run_bind,h1]
   rfl
 | conv c x=>cases c <;> simp [cG.cls] at gh
 | call m f xs=>cases m <;> simp [cG.cls] at gh
 | _=>simp [cG.cls] at gh
theorem ZE (hS:RS (fm:=fm) τ w X μ) (hX: ∀b,X b->b < w.heap.size) {b:Nat} {cs:ai} {arr:Array Value} (e:TypeId) (hb:τ.get b=some (.own cs)) (AU:μ b= .unborn) (hl:cs.length<=arr.size)
  (hr: ∀j,j < cs.length->RV fm w X μ (cs.getD j .undef) (arr.getD j Go.undef)) :
  Ext w μ (w.alloc (.cells arr e)) (μ.bind b (.at w.heap.size 0 true))/\RS (fm:=fm) τ (w.alloc (.cells arr e)) X (μ.bind b (.at w.heap.size 0 true)):=by
 have gM:Ext w μ (w.alloc (.cells arr e)) (μ.bind b (.at w.heap.size 0 true)):=by
  refine ⟨rfl,rfl,rfl,by simp,fun blk hb _=>iH w _ hb,fun blk ar el fz hb=>⟨ar,fz,?_,rfl⟩,fun b' blk base hm=> ?_,fun b' blk base o hm=> ?_,fun b' hm=> ?_⟩
  ·have aR:blk < w.heap.size:=by
    rcases Nat.lt_or_ge blk w.heap.size with h' | h'
    ·exact h'
    ·simp [Array.getElem?_eq_none h'] at hb
   show (w.heap.push _)[blk]? =_
   rw [iH w _ aR]; exact hb
  ·by_cases h:b'=b
   ·subst h; simp [Mu.bind] at hm; right; omega
   ·simp [Mu.bind,h] at hm; exact .inl ⟨b',base,hm⟩
  ·have h:b'≠b:=by rintro rfl; rw [AU] at hm; simp at hm
   right; exact ⟨o,by simp [Mu.bind,h,hm]⟩
  ·have h:b'≠b:=by rintro rfl; rw [AU] at hm; simp at hm
   simp [Mu.bind,h,hm]
 refine ⟨gM,?_⟩
 refine ⟨fun b' blk base o hm=> ?_,fun b' blk base hm=> ?_,fun b' blk base hm=> ?_,fun b1 b2 blk base cm hm fe=> ?_,fun b' blk base o hm=> ?_,fun b' nJ=> ?_,hS.lim,fun b' nJ=> ?_,fun b' hm=> ?_,
  hS.tys.step (fun _ _ h=>h) (aD _) (fun b' _ _ o _ hu h=>⟨o,by
   have fV:b'≠b:=by rintro rfl; exact hu AU
   simpa [Mu.bind,fV] using h⟩) gM⟩
 ·by_cases h:b'=b
  ·simp [Mu.bind,h] at hm; simp; omega
  ·simp [Mu.bind,h] at hm; have:=hS.lt b' blk base o hm; simp; omega
 ·by_cases h:b'=b
  ·simp [Mu.bind,h] at hm
   intro hx
   have:=hX _ hx
   omega
  ·simp [Mu.bind,h] at hm; exact hS.far b' blk base hm
 ·by_cases h:b'=b
  ·simp [Mu.bind,h] at hm
  ·simp [Mu.bind,h] at hm
   exact sM gM (hS.lt b' blk base false hm) (hS.frz b' blk base hm)
 ·by_cases h:b1=b <;> by_cases h':b2=b
  ·rw [h,h']
  ·simp [Mu.bind,h,h'] at hm fe; have:=hS.lt b2 blk cm true fe; omega
  ·simp [Mu.bind,h,h'] at hm fe; have:=hS.lt b1 blk base true hm; omega
  ·simp [Mu.bind,h,h'] at hm fe; exact hS.inj b1 b2 blk base cm hm fe
 ·by_cases h:b'=b
  ·simp [Mu.bind,h] at hm
   obtain ⟨rfl,rfl,rfl⟩:=hm
   subst h
   refine ⟨cs,arr,e,hb,heap_alloc_new w _,by omega,fun j hj=> ?_⟩
   rw [Nat.zero_add]
   exact (hr j hj).ext gM
  ·have fe:μ b'= .at blk base o:=by simpa [Mu.bind,h] using hm
   obtain ⟨cs',arr',e',h1,h2,h3,h4⟩:=hS.cells b' blk base o fe
   refine ⟨cs',arr',e',h1,?_,h3,fun j hj=>(h4 j hj).ext gM⟩
   show (w.heap.push _)[blk]? =_
   rw [iH w _ (hS.lt b' blk base o fe)]; exact h2
 ·have h:b'≠b:=by rintro rfl; rw [hb] at nJ; simp at nJ
  simp [Mu.bind,h,hS.born b' nJ]
 ·have h:b'≠b:=by rintro rfl; rw [hb] at nJ; simp at nJ
  simp [Mu.bind,h,hS.gone b' nJ]
 ·by_cases h:b'=b
  ·simp [Mu.bind,h] at hm
  ·exact hS.dead b' (by simpa [Mu.bind,h] using hm)
theorem RS.le (hS:RS (fm:=fm) σ w X μ) (h:σ.le τ) (Y0: ∀b x,τ.get b=some x->b < τ.next):RS (fm:=fm) τ w X μ:=by
 refine ⟨hS.lt,hS.far,hS.frz,hS.inj,fun b blk base o hm=> ?_,fun b hb=> ?_,Y0,fun b hb=> ?_,fun b hm=> ?_,hS.tys.step h.2.2.2 h.2.2.1 (fun _ _ _ o _ _ h=>⟨o,h⟩) (Ext.refl _ _)⟩
 ·obtain ⟨cs,arr,e,h1,h2⟩:=hS.cells b blk base o hm
  exact ⟨cs,arr,e,h.1 _ _ h1,h2⟩
 ·apply hS.born
  cases hg:σ.get b with
  | none=>rfl
  | some x=>have:=h.1 b x hg; rw [hb] at this; simp at this
 ·rcases h.2.1 b _ hb with h1 | ⟨_,cs,h1⟩
  ·exact hS.gone b h1
  ·simp at h1
 ·have h1:=hS.dead b hm
  cases hg:σ.get b with
  | none=>have:=hS.born b hg; rw [hm] at this; simp at this
  | some x=>
   simp only [ag.cells,hg] at h1
   simp only [ag.cells,h.1 b x hg]
   exact h1
end
structure Trace (ip:Nat->Option au) (G:Nat->ai) (n:Nat) (os:List a8) (fr:Fr) (σ:ag) (fr':Fr) (σ':ag) where
 frs:Nat->Fr
 sts:Nat->ag
 phi:Nat->AV
 f0:frs 0=fr
 s0:sts 0=σ
 fn:frs os.length=fr'
 sn:sts os.length=σ'
 put: ∀i io,os[i]? =some io->frs (i+1)=(frs i).put io.dst (phi i)
 step: ∀i io,os[i]? =some io->(wanted io.guard (frs i)=some false/\phi i= .tup []/\sts (i+1)=sts i)∨
  (wanted io.guard (frs i)=some true/\∃m,m < n/\bH ip G (run ip G m) io.op (frs i) (sts i)=some (phi i,sts (i+1)))
theorem oi.trace {n:Nat} {os:List a8} {fr fr':Fr} {σ σ':ag} (h:oi ip G n os fr σ fr' σ'):Nonempty (Trace ip G n os fr σ fr' σ'):=by
 induction h with
 | nil fr σ=>exact ⟨⟨fun _=>fr,fun _=>σ,fun _=> .undef,rfl,rfl,rfl,rfl,fun i io h=>by simp at h,fun i io h=>by simp at h⟩⟩
 | step o os fr fr' σ σ1 σ' v m hm hw hd _ ih=>
  obtain ⟨t⟩:=ih
  refine ⟨⟨fun i=>match i with | 0=>fr | i+1=>t.frs i,fun i=>match i with | 0=>σ | i+1=>t.sts i,fun i=>match i with | 0=>v | i+1=>t.phi i,rfl,rfl,t.fn,t.sn,fun i io h=> ?_,fun i io h=> ?_⟩⟩
  ·cases i with
   | zero=>simp only [List.getElem?_cons_zero,ah] at h; subst h; exact t.f0
   | succ i=>exact t.put i io (by simpa using h)
  ·cases i with
   | zero=>
    simp only [List.getElem?_cons_zero,ah] at h
    subst h
    right
    refine ⟨hw,m,hm,?_⟩
    show bH ip G (run ip G m) o.op fr σ=some (v,t.sts 0)
    rw [t.s0]; exact hd
   | succ i=>exact t.step i io (by simpa using h)
 | skip o os fr fr' σ σ' hw _ ih=>
  obtain ⟨t⟩:=ih
  refine ⟨⟨fun i=>match i with | 0=>fr | i+1=>t.frs i,fun i=>match i with | 0=>σ | i+1=>t.sts i,fun i=>match i with | 0=> .tup [] | i+1=>t.phi i,rfl,rfl,t.fn,t.sn,fun i io h=> ?_,fun i io h=> ?_⟩⟩
  ·cases i with
   | zero=>simp only [List.getElem?_cons_zero,ah] at h; subst h; exact t.f0
   | succ i=>exact t.put i io (by simpa using h)
  ·cases i with
   | zero=>
    simp only [List.getElem?_cons_zero,ah] at h
    subst h
    left
    exact ⟨hw,rfl,t.s0⟩
   | succ i=>exact t.step i io (by simpa using h)
end
end Go.Ab
namespace Go.Ab
open Go.RowKit
section
variable {P:Program} {fm gm:Nat->aA} {G:Nat->ai} {ip:Nat->Option au}
variable {n N:Nat} {os:List a8} {ops:Array Oper} {fr fr':Fr} {σ σ':ag}
def qq (os:List a8) (j:Nat):aA:=(os[j]?).bind (·.dst)
def mc (os:List a8) (fr:Fr) (phi:Nat->AV) (L:Nat->Bool):Nat->Fr
 | 0=>fr
 | k+1=>if L k then (mc os fr phi L k).put (qq os k) (phi k) else mc os fr phi L k
theorem qF (fr:Fr) (dst:aA) (v:AV) (t:Nat):(fr.put dst v).get t=if dst=some t then v else fr.get t:=by
 cases dst with
 | none=>simp [Fr.put]
 | some d=>
  simp only [Fr.put,Fr.get,j5,ah]
  by_cases h:d=t
  ·rw [if_pos h,if_pos h]; rfl
  ·rw [if_neg h,if_neg h]
theorem oQ (phi:Nat->AV) {L L':Nat->Bool} (t:Nat): ∀(k:Nat),(∀j,j < k->qq os j=some t->L j=L' j)->(mc os fr phi L k).get t=(mc os fr phi L' k).get t
 | 0,_=>rfl
 | k+1,h=>by
  have ih:=oQ phi t k (fun j hj hd=>h j aa hd)
  simp only [mc]
  by_cases hd:qq os k=some t
  ·rw [h k aa hd]
   split
   ·rw [qF,qF,if_pos hd,if_pos hd]
   ·exact ih
  ·split <;> split <;> (try simp only [qF,if_neg hd]) <;> exact ih
theorem qT (phi:Nat->AV) {L:Nat->Bool} (t:Nat) (i:Nat): ∀(k:Nat),i<=k->(∀j,i<=j->j < k->qq os j=some t->L j=false)->(mc os fr phi L k).get t=(mc os fr phi L i).get t
 | 0,h,_=>by
  have:i=0:=by omega
  subst this; rfl
 | k+1,h,hh=>by
  by_cases Y4:i=k+1
  ·subst Y4; rfl
  ·have ih:=qT phi t i k aa (fun j h1 h2 hd=>hh j h1 aa hd)
   simp only [mc]
   split
   ·rename_i hl
    have hd:qq os k≠some t:=fun hd=>by rw [hh k aa aa hd] at hl; simp at hl
    rw [qF,if_neg hd]; exact ih
   ·exact ih
theorem uQ (T:Trace ip G n os fr σ fr' σ'): ∀(k:Nat),k<=os.length->T.frs k=mc os fr T.phi (fun _=>true) k
 | 0,_=>T.f0
 | k+1,h=>by
  have hk:k < os.length:=by omega
  have h1:=T.put k os[k] (bx hk)
  rw [h1,uQ T k aa]
  simp [mc,qq,bx hk]
theorem qJ: ∀ {os:List a8} {l:List Oper},fB P fm gm N ops os l=true->os.length=l.length/\∀(i:Nat) (io:a8),os[i]? =some io->∃o:Oper,l[i]? =some o/\tA P fm gm N ops io o=true
 | [], [],_=>⟨rfl,fun i io h=>by simp at h⟩
 | io ::os,o ::l,h=>by
  simp only [fB,ak] at h
  obtain ⟨h1,h2⟩:=qJ h.2
  refine ⟨by simp [h1],fun i x hx=> ?_⟩
  cases i with
  | zero=>simp only [List.getElem?_cons_zero,ah] at hx; subst hx; exact ⟨o,rfl,h.1⟩
  | succ i=>exact h2 i x (by simpa using hx)
 | [],_ ::_,h=>by simp [fB] at h
 | _ ::_, [],h=>by simp [fB] at h
def ag.Lim (σ:ag):Prop:=∀b x,σ.get b=some x->b < σ.next
theorem iF {σ:ag} (h:σ.Lim) (cs:ai):(σ.alloc cs).Lim:=by
 intro b x hb
 rw [cW] at hb
 show b < σ.next+1
 by_cases AK:b=σ.next
 ·omega
 ·rw [if_neg AK] at hb; have:=h b x hb; omega
theorem mQ {σ:ag} (h:σ.Lim) {b0:Nat} {y:jP} (Gv:b0 < σ.next):(σ.set b0 y).Lim:=by
 intro b x hb
 rw [dr] at hb
 show b < σ.next
 by_cases AK:b=b0
 ·omega
 ·rw [if_neg AK] at hb; exact h b x hb
theorem Jp {σ:ag} (h:σ.Lim):σ.freeze.Lim:=by
 intro b x hb
 rw [ka] at hb
 cases hg:σ.get b with
 | none=>simp [hg] at hb
 | some y=>exact h b y hg
theorem j7 {σ:ag} (h:σ.Lim) {b:Nat} {cs:ai} (ho:σ.owned b=some cs):b < σ.next:=by
 unfold ag.owned at ho
 cases hg:σ.get b with
 | none=>simp [hg] at ho
 | some y=>exact h b y hg
theorem wk {σ:ag} (h:σ.Lim) (b0:Nat):(σ.freeze1 b0).Lim:=by
 unfold ag.freeze1
 split
 ·rename_i cs hg
  exact mQ h (h _ _ hg)
 ·exact h
theorem F2 {σ:ag} (h:σ.Lim) (v:AV):(σ.freezeV v).Lim:=by
 unfold ag.freezeV
 split
 ·exact wk h _
 ·exact wk h _
 ·exact h
theorem tO {fr:Fr}: ∀(ts:List Nat) {σ:ag},σ.Lim->(kH fr ts σ).Lim
 | [],_,h=>h
 | t ::ts,_,h=>tO ts (F2 h (fr.get t))
theorem kG {σ:ag} (h:σ.Lim) (cs:ai):σ.fsame (σ.alloc cs):=by
 intro b c
 rw [cW]
 by_cases hb:b=σ.next
 ·subst hb
  rw [if_pos rfl]
  constructor
  ·intro hg; exact absurd (h _ _ hg) (Nat.lt_irrefl _)
  ·intro hg; simp at hg
 ·rw [if_neg hb]
theorem BR {σ:ag} {b0:Nat} {y:jP} {cs:ai} (ho:σ.owned b0=some cs) (hy: ∀c,y≠ .frz c):σ.fsame (σ.set b0 y):=by
 intro b c
 rw [dr]
 by_cases hb:b=b0
 ·subst hb
  rw [if_pos rfl]
  constructor
  ·intro hg; simp [ag.owned,hg] at ho
  ·intro hg; simp only [ah] at hg; exact absurd hg (hy c)
 ·rw [if_neg hb]
theorem ur {σ:ag} {sz bytes n:Nat} {x:AV} {new:ai} {y:AV×ag} (hl:σ.Lim) (h:aF σ sz bytes x new n=some y):σ.fsame y.2:=by
 unfold aF at h
 split at h
 ·simp at h
 ·split at h
  case isFalse=>simp at h
  split at h
  ·split at h <;> simp only [ah,reduceCtorEq] at h
   subst h; exact .refl _
  ·split at h <;> simp only [ah] at h <;> subst h
   ·exact .refl _
   ·exact kG hl _
  ·split at h
   ·simp only [ah] at h; subst h; exact .refl _
   split at h
   case isFalse=>simp at h
   split at h <;> simp only [ah,reduceCtorEq] at h
   subst h; exact kG hl _
  ·split at h
   case isFalse=>simp at h
   split at h
   case h_2=>simp at h
   rename_i ho
   split at h
   ·simp only [ah] at h; subst h; exact .refl _
   ·split at h <;> simp only [ah,reduceCtorEq] at h
    subst h
    exact (BR ho (fun c=>by simp)).trans (kG (mQ hl (j7 hl ho)) _)
  ·split at h
   ·simp only [ah] at h; subst h; exact .refl _
   split at h
   case isFalse=>simp at h
   split at h <;> simp only [ah,reduceCtorEq] at h
   subst h; exact kG hl _
  ·simp at h
theorem Pf {r:kN} {o:cG} (hW:o.isW=true) {fr:Fr} {σ:ag} {x:AV×ag} (hl:σ.Lim) (h:bH ip G r o fr σ=some x):σ.fsame x.2:=by
 cases o with
 | store n p v=>
  simp only [bH] at h
  split at h
  case h_2=>simp at h
  split at h
  case h_2=>simp at h
  rename_i ho
  split at h <;> simp only [ah,reduceCtorEq] at h
  subst h
  exact BR ho (fun c=>by simp)
 | append sz bytes str p q=>
  simp only [bH] at h
  split at h
  ·split at h
   case h_2=>simp at h
   split at h
   case isFalse=>simp at h
   exact ur hl h
  ·split at h
   case h_2=>simp at h
   exact ur hl h
 | _=>simp [cG.isW] at hW
def Kg (r:kN):Prop:=∀k fr σ x,σ.Lim->r k fr σ=some x->x.2.Lim
theorem Bj {r:kN} (hr:Kg r) {f:AV} {args:ai} {σ:ag} {x:AV×ag} (hl:σ.Lim) (h:dd ip r f args σ=some x):x.2.Lim:=by
 unfold dd at h
 cases f with
 | fn id first caps=>
  simp only at h
  cases hF:ip id with
  | none=>simp [hF] at h
  | some F=>
   simp only [hF] at h
   cases My:r [.code F.body] (fK (first ++args ++caps)) σ with
   | none=>rw [My] at h; simp at h
   | some y=>
    rw [My] at h
    obtain ⟨sP,σ1⟩:=y
    simp only at h
    split at h <;> simp only [ah,reduceCtorEq] at h
    subst h
    exact hr _ _ _ _ hl My
 | _=>simp at h
theorem ve {r:kN} {ea st:Bool} {f:AV} {args:ai} {σ:ag} {x:AV×ag} (hl:σ.Lim) (h:gO ip r ea st f args σ=some x):x.2.Lim:=by
 unfold gO at h
 split at h
 case h_2=>simp at h
 split at h
 case h_2=>simp at h
 split at h
 case h_2=>simp at h
 split at h
 ·simp only [ah] at h; subst h; exact hl
 ·split at h <;> simp only [ah,reduceCtorEq] at h
  subst h; exact Jp hl
theorem mr {σ:ag} {sz bytes n:Nat} {x:AV} {new:ai} {y:AV×ag} (hl:σ.Lim) (h:aF σ sz bytes x new n=some y):y.2.Lim:=by
 unfold aF at h
 split at h
 ·simp at h
 ·split at h
  case isFalse=>simp at h
  split at h
  ·split at h <;> simp only [ah,reduceCtorEq] at h
   subst h; exact hl
  ·split at h <;> simp only [ah] at h <;> subst h
   ·exact hl
   ·exact iF hl _
  ·split at h
   ·simp only [ah] at h; subst h; exact hl
   split at h
   case isFalse=>simp at h
   split at h <;> simp only [ah,reduceCtorEq] at h
   subst h; exact iF hl _
  ·split at h
   case isFalse=>simp at h
   split at h
   case h_2=>simp at h
   rename_i ho
   split at h
   ·simp only [ah] at h; subst h; exact hl
   ·split at h <;> simp only [ah,reduceCtorEq] at h
    subst h
    exact iF (mQ hl (j7 hl ho)) _
  ·split at h
   ·simp only [ah] at h; subst h; exact hl
   split at h
   case isFalse=>simp at h
   split at h <;> simp only [ah,reduceCtorEq] at h
   subst h; exact iF hl _
  ·simp at h
theorem C1 {σ:ag} (h:σ.Lim) {b0 e:Nat} (Gv:b0 < σ.next):(σ.addTag b0 e).Lim:=by
 intro b x hb
 show b < σ.next
 unfold ag.get ag.addTag at hb
 rw [qa] at hb
 cases hl:look σ.m b with
 | some y=>exact h b y hl
 | none=>
  rw [hl] at hb
  simp only [look] at hb
  split at hb
  ·rename_i e; rw [←e]; exact Gv
  ·cases hb
theorem wK {σ:ag} {sz bytes n:Nat} {x:AV} {new:ai} {y:AV×ag} (hn: ¬n=0) (h:aF σ sz bytes x new n=some y):σ.next < y.2.next:=by
 unfold aF at h
 split at h
 ·cases h
 split at h
 case isFalse=>cases h
 split at h
 ·(try rw [if_neg hn] at h); cases h
 ·try rw [if_neg hn] at h
  simp only [ah] at h; subst h; exact aV _
 ·try rw [if_neg hn] at h
  split at h
  case isFalse=>cases h
  split at h <;> simp only [ah,reduceCtorEq] at h
  subst h; exact aV _
 ·split at h
  case isFalse=>cases h
  split at h
  case h_2=>cases h
  try rw [if_neg hn] at h
  split at h
  case isFalse=>cases h
  simp only [ah] at h; subst h; exact aV _
 ·try rw [if_neg hn] at h
  split at h
  case isFalse=>cases h
  split at h <;> simp only [ah,reduceCtorEq] at h
  subst h; exact aV _
 ·cases h
theorem F3 {σ:ag} {e sz bytes n:Nat} {x:AV} {new:ai} {y:AV×ag} (hl:σ.Lim) (h:jO σ e sz bytes x new n=some y):y.2.Lim:=by
 unfold jO at h
 split at h
 ·cases h
 rename_i hn
 split at h
 ·obtain ⟨⟨v,τ⟩,h2,h3⟩:=cH.1 h
  rw [←h3]; exact C1 (mr hl h2) (wK hn h2)
 ·split at h
  case isFalse=>cases h
  obtain ⟨⟨v,τ⟩,h2,h3⟩:=cH.1 h
  rw [←h3]; exact C1 (mr hl h2) (wK hn h2)
 ·cases h
theorem Se {σ:ag} {k:Ar} {xs:ai} {y:AV×ag} (hl:σ.Lim) (h:gv k σ xs=some y):y.2.Lim:=by
 unfold gv at h
 split at h
 ·unfold jJ at h
  split at h
  case h_2=>simp at h
  split at h
  ·split at h
   ·exact mr hl h
   ·simp at h
  ·split at h
   case h_2=>simp at h
   split at h
   case h_2=>simp at h
   rename_i ho _
   split at h <;> simp only [ah,reduceCtorEq] at h
   subst h
   exact iF (mQ hl (j7 hl ho)) _
 ·unfold jG at h
  split at h
  case isFalse=>simp at h
  split at h <;> simp only [ah] at h <;> subst h
  ·exact hl
  ·exact iF hl _
 ·unfold o8 at h
  split at h
  ·simp only [ah] at h; subst h; exact hl
  ·simp only [ah] at h; subst h; exact hl
  ·simp only [ah] at h; subst h; exact hl
  ·split at h
   case h_2=>simp at h
   rename_i ho
   split at h <;> simp only [ah,reduceCtorEq] at h
   subst h
   exact mQ hl (j7 hl ho)
  ·simp at h
 ·unfold js at h
  split at h
  case h_2=>simp at h
  split at h
  ·split at h
   ·simp at h
   simp only [ah] at h; subst h; exact hl
  ·split at h
   case h_2=>simp at h
   split at h
   case h_2=>simp at h
   rename_i ho
   split at h <;> simp only [ah,reduceCtorEq] at h
   subst h
   exact mQ hl (j7 hl ho)
 ·split at h <;> simp only [ah,reduceCtorEq] at h
  subst h
  exact C1 (iF hl _) (aV _)
 ·split at h
  case isFalse=>simp at h
  exact F3 hl h
 ·split at h
  case h_2=>simp at h
  split at h
  ·simp at h
  exact F3 hl h
 ·unfold sC at h
  split at h <;> simp only [ah,reduceCtorEq] at h
  subst h
  exact iF hl _
 ·unfold Ac at h
  split at h
  case h_2=>simp at h
  split at h
  case isFalse=>simp at h
  split at h
  case h_2=>simp at h
  split at h <;> simp only [ah,reduceCtorEq] at h
  subst h; exact hl
 ·unfold sf at h
  split at h
  case h_2=>simp at h
  split at h
  case isFalse=>simp at h
  split at h
  case h_2=>simp at h
  rename_i ho
  split at h
  case isFalse=>simp at h
  split at h <;> simp only [ah,reduceCtorEq] at h
  subst h
  exact mQ hl (j7 hl ho)
 ·simp at h
theorem Hw {r:kN} (hr:Kg r) {o:cG} {fr:Fr} {σ:ag} {x:AV×ag} (hl:σ.Lim) (h:bH ip G r o fr σ=some x):x.2.Lim:=by
 by_cases r7:o.cls<=1
 ·obtain ⟨v,σ'⟩:=x
  rw [(xE r7 (ag.le_refl _) h).1]; exact hl
 by_cases rZ:o.cls=2
 ·obtain ⟨v,σ'⟩:=x
  obtain ⟨cs,rfl⟩:=oV rZ h
  exact iF hl cs
 cases o with
 | store n p v=>
  simp only [bH] at h
  split at h
  case h_2=>simp at h
  split at h
  case h_2=>simp at h
  rename_i ho
  split at h <;> simp only [ah,reduceCtorEq] at h
  subst h
  exact mQ hl (j7 hl ho)
 | append sz bytes str p q=>
  simp only [bH] at h
  split at h
  ·split at h
   case h_2=>simp at h
   split at h
   case isFalse=>simp at h
   exact mr hl h
  ·split at h
   case h_2=>simp at h
   exact mr hl h
 | prim k xs=>exact Se hl h
 | call m f xs=>
  cases m with
  | shared=>exact Bj hr hl h
  | pure=>exact ve hl h
  | strict=>exact ve hl h
  | split=>
   simp only [bH] at h
   split at h
   ·split at h <;> simp only [ah,reduceCtorEq] at h
    subst h; exact hl
   ·exact Bj hr hl h
  | splitS=>
   simp only [bH] at h
   split at h
   ·split at h <;> simp only [ah,reduceCtorEq] at h
    subst h; exact hl
   ·exact ve hl h
 | buildSl own=>cases own <;> simp [cG.cls] at r7 rZ
 | conv c=>cases c <;> simp [cG.cls] at r7
 | _=>simp [cG.cls] at r7 rZ
theorem LC: ∀n,Kg (run ip G n)
 | 0=>by intro k fr σ x _ h; simp [run] at h
 | n+1=>by
  have ih:=LC n
  intro k fr σ x hl h
  cases k with
  | nil=>simp only [run,ah] at h; subst h; exact hl
  | cons it k=>
   cases it with
   | inBlock id=>rw [run] at h; exact ih _ _ _ _ hl h
   | inLoop l c=>rw [run] at h; exact ih _ _ _ _ hl h
   | ops l=>
    cases l with
    | nil=>rw [run] at h; exact ih _ _ _ _ hl h
    | cons o os=>
     rw [run] at h
     split at h
     ·split at h
      case h_2=>simp at h
      rename_i v σ' hd
      exact ih _ _ _ _ (Hw ih hl hd) h
     ·exact ih _ _ _ _ hl h
     ·simp at h
   | code c=>
    cases c with
    | stop=>simp [run] at h
    | skip=>rw [run] at h; exact ih _ _ _ _ hl h
    | region ops=>rw [run] at h; exact ih _ _ _ _ hl h
    | seq a b=>rw [run] at h; exact ih _ _ _ _ hl h
    | cond c a b=>
     rw [run] at h
     split at h
     ·exact ih _ _ _ _ hl h
     ·simp at h
    | block id c=>rw [run] at h; exact ih _ _ _ _ hl h
    | loop l c=>rw [run] at h; exact ih _ _ _ _ hl h
    | keep l c=>rw [run] at h; exact ih _ _ _ _ hl h
    | arity m c=>
     rw [run] at h
     split at h
     ·exact ih _ _ _ _ hl h
     ·simp at h
    | frz l c=>rw [run] at h; exact ih _ _ _ _ (tO l hl) h
    | exit id=>
     rw [run] at h
     split at h
     ·exact ih _ _ _ _ hl h
     ·simp at h
    | ret=>simp only [run,ah] at h; subst h; exact hl
theorem gW (T:Trace ip G n os fr σ fr' σ') (h:σ.Lim): ∀k,k<=os.length->(T.sts k).Lim
 | 0,_=>by rw [T.s0]; exact h
 | k+1,hk=>by
  have ih:=gW T h k aa
  rcases T.step k _ (bx (by omega:k < os.length)) with ⟨_,_,e⟩ | ⟨_,m,_,hd⟩
  ·rw [e]; exact ih
  ·exact Hw (LC m) ih hd
def writes (os:List a8) (j:Nat):Prop:=∃io,os[j]? =some io/\io.op.cls=3
theorem kA (T:Trace ip G n os fr σ fr' σ') {i:Nat}: ∀(k:Nat),i<=k->k<=os.length->(∀j,i<=j->j < k->¬writes os j)->(∀b x,(T.sts i).get b=some x->b < (T.sts i).next)->
  (T.sts i).le (T.sts k)/\(T.sts i).next<=(T.sts k).next/\∀b x,(T.sts k).get b=some x->b < (T.sts k).next:=by
 intro k
 induction k with
 | zero=>
  intro h _ _ hl; have:i=0:=by omega
  subst this; exact ⟨ag.le_refl _,aD _,hl⟩
 | succ k ih=>
  intro h hk hw hl
  by_cases Y4:i=k+1
  ·subst Y4; exact ⟨ag.le_refl _,aD _,hl⟩
  ·obtain ⟨h1,h2,h3⟩:=ih aa aa (fun j a b=>hw j a aa) hl
   have V9:k < os.length:=by omega
   have BP:=bx V9
   have same:T.sts (k+1)=T.sts k->(T.sts i).le (T.sts (k+1))/\(T.sts i).next<=(T.sts (k+1)).next/\∀b x,(T.sts (k+1)).get b=some x->b < (T.sts (k+1)).next:=fun e=>by rw [e]; exact ⟨h1,h2,h3⟩
   rcases T.step k os[k] BP with ⟨_,_,e⟩ | ⟨_,m,hm,hd⟩
   ·exact same e
   ·have hnw:os[k].op.cls≠3:=fun hc=>hw k aa aa ⟨os[k],BP,hc⟩
    by_cases r7:os[k].op.cls<=1
    ·exact same (xE r7 (ag.le_refl _) hd).1
    ·have rZ:os[k].op.cls=2:=by
      have:os[k].op.cls<=3:=by
       cases AY:os[k].op <;> simp [cG.cls]
       all_goals (split <;> omega)
      omega
     obtain ⟨cs,e⟩:=oV rZ hd
     have BK:(T.sts k).get (T.sts k).next=none:=by
      cases hg:(T.sts k).get (T.sts k).next with
      | none=>rfl
      | some x=>exact absurd (h3 _ _ hg) (Nat.lt_irrefl _)
     refine ⟨ag.le_trans h1 ?_,by rw [e]; show _<=(T.sts k).next+1; omega,fun b x hb=> ?_⟩
     ·rw [e]
      refine ⟨fun b x hb=> ?_,fun b x hb=> ?_,Nat.le_succ _,fun _ _ h=>mem_push (fun _=>by simp) h⟩
      ·rw [cW,if_neg]
       ·exact hb
       ·rintro rfl; rw [BK] at hb; simp at hb
      ·rw [cW] at hb
       by_cases AK:b=(T.sts k).next
       ·rw [if_pos AK] at hb
        simp only [ah] at hb
        exact .inr ⟨by rw [AK]; exact BK,cs,hb.symm⟩
       ·rw [if_neg AK] at hb; exact .inl hb
     ·rw [e] at hb ⊢
      rw [cW] at hb
      show b < (T.sts k).next+1
      by_cases AK:b=(T.sts k).next
      ·omega
      ·rw [if_neg AK] at hb; have:=h3 b x hb; omega
theorem vW (T:Trace ip G n os fr σ fr' σ') (Y0: ∀k,k<=os.length->(T.sts k).Lim) {i:Nat}: ∀(k:Nat),i<=k->k<=os.length->
  (∀(j:Nat) (jo:a8),i<=j->j < k->os[j]? =some jo->jo.op.cls=3->jo.op.isW=true)->(T.sts i).fsame (T.sts k):=by
 intro k
 induction k with
 | zero=>
  intro h _ _; have:i=0:=by omega
  subst this; exact .refl _
 | succ k ih=>
  intro h hk hw
  by_cases Y4:i=k+1
  ·subst Y4; exact .refl _
  ·have h1:=ih aa aa (fun j jo a b=>hw j jo a aa)
   have V9:k < os.length:=by omega
   have BP:=bx V9
   refine h1.trans ?_
   rcases T.step k os[k] BP with ⟨_,_,e⟩ | ⟨_,m,hm,hd⟩
   ·rw [e]; exact .refl _
   ·by_cases r7:os[k].op.cls<=1
    ·rw [(xE r7 (ag.le_refl _) hd).1]; exact .refl _
    by_cases rZ:os[k].op.cls=2
    ·obtain ⟨cs,e⟩:=oV rZ hd
     rw [e]; exact kG (Y0 k aa) cs
    ·have wW:os[k].op.cls=3:=by
      have:os[k].op.cls<=3:=by
       cases AY:os[k].op <;> simp [cG.cls]
       all_goals (split <;> omega)
      omega
     exact Pf (hw k _ aa aa BP wW) (Y0 k aa) hd
structure Inv (T:Trace ip G n os fr σ fr' σ') (P:Program) (fm gm:Nat->aA) (N:Nat) (ops:Array Oper) (X:Nat->Prop) (w0:World) (μ0:Mu) (a0:Act) (L:Nat->Bool) (s:Nat) (a:Act) (w:World) (μ:Mu):Prop where
 listed:Ki ops L
 sle:s<=os.length
 done: ∀j,j < s->writes os j->L j=true
 next:s < os.length->writes os s/\L s=false
 lim: ∀b x,(T.sts s).get b=some x->b < (T.sts s).next
 un: ∀(j:Nat) (io:a8),j < s->os[j]? =some io->io.op.cls=2->L j=false->wanted io.guard (T.frs j)=some true->μ ((T.sts j).next)= .unborn
 given:bO P fm gm G w X μ (T.sts s) N (mc os fr T.phi L os.length) a
 ext:Ext w0 μ0 w μ
 defers:a.defers=a0.defers
theorem cF {p q:a8}:Cd p q=true↔((∃d,p.dst=some d/\(d∈q.names∨q.dst=some d))∨(∃d,q.dst=some d/\d∈p.names)∨wmeets p.op q.op=true∨wmeets q.op p.op=true):=by
 unfold Cd
 simp only [Bool.or_eq_true]
 constructor
 ·rintro (((h | h) | h) | h)
  ·left
   cases hp:p.dst with
   | none=>simp [hp] at h
   | some d=>rw [hp] at h; simp at h; exact ⟨d,rfl,h⟩
  ·right; left
   cases hq:q.dst with
   | none=>simp [hq] at h
   | some d=>simp [hq] at h; exact ⟨d,rfl,h⟩
  ·exact .inr (.inr (.inl h))
  ·exact .inr (.inr (.inr h))
 ·rintro (⟨d,hd,h⟩ | ⟨d,hd,h⟩ | h | h)
  ·left; left; left; simp [hd,h]
  ·left; left; right; simp [hd,h]
  ·left; right; exact h
  ·right; exact h
theorem ze (os:List a8) (i:Nat) (hi:i<=os.length): ∃s,i<=s/\s<=os.length/\(∀j,i<=j->j < s->¬writes os j)/\(s < os.length->writes os s):=by
 induction h:os.length - i generalizing i with
 | zero=>exact ⟨i,aD _,hi,fun j a b=>by omega,fun h'=>by omega⟩
 | succ d ih=>
  by_cases hw:writes os i
  ·exact ⟨i,aD _,hi,fun j a b=>by omega,fun _=>hw⟩
  ·obtain ⟨s,h1,h2,h3,h4⟩:=ih (i+1) aa aa
   refine ⟨s,by omega,h2,fun j a b=> ?_,h4⟩
   by_cases hj:j=i
   ·subst hj; exact hw
   ·exact h3 j aa b
theorem S8 (hσ:σ.Lim) (wx: ∀g,ay (G g)=true) (uM:gF P fm gm G ip n) (hd:oU os ops=true) (MF:fB P fm gm N ops os ops.toList=true) (T:Trace ip G n os fr σ fr' σ')
  {X:Nat->Prop} {w0:World} {μ0:Mu} {a0:Act} {L:Nat->Bool} {s:Nat} {a:Act} {w:World} {μ:Mu} (I:Inv T P fm gm N ops X w0 μ0 a0 L s a w μ)
  {i:Nat} {o:Oper} (ho:ops[i]? =some o) (AU:L i=false) (hr: ∀e∈o.after,Region.binds .any e=true->L e.on=true) {Q:Exit->Act->World->Prop} {K:Act->World->Prop}
  (hK: ∀(s':Nat) (a':Act) (w':World) (μ':Mu),Inv T P fm gm N ops X w0 μ0 a0 (fun j=>decide (j=i) || L j) s' a' w' μ'->K a' w') :
  wpOp P ops Q i K a w:=by
 obtain ⟨hlen,di⟩:=qJ MF
 have qh:os.length=ops.size:=by simpa using hlen
 simp only [oU,ak] at hd
 have hisz:i < ops.size:=(Array.getElem?_eq_some_iff.1 ho).1
 have BP:os[i]? =some (os[i]'(by omega)):=bx aa
 generalize os[i]'(by omega)=io at BP
 obtain ⟨o',ho',AY⟩:=di i io BP
 have hoo:o'=o:=by
  have:ops.toList[i]? =some o:=by simpa using ho
  rw [this] at ho'
  simpa using ho'.symm
 subst hoo
 simp only [tA,ak,beq_iff_eq] at AY
 obtain ⟨⟨⟨Gm,hN⟩,hg⟩,hopc⟩:=AY
 have hdN: ∀d,o'.dst=some d->d < N:=by
  intro d Wb
  rw [Wb] at hN
  simpa using hN
 have Pv: ∀(j:Nat) (jo:a8),j < i->os[j]? =some jo->Cd jo io=true->L j=true:=fun j jo hj jK gh=>
  oI I.listed i ho hr (oJ hd.2 hj jK BP gh)
 have TE: ∀(j:Nat) (jo:a8),i < j->os[j]? =some jo->Cd io jo=true->L j=false:=by
  intro j jo hj jK gh
  cases hLj:L j with
  | false=>rfl
  | true=>
   have hjs:j < ops.size:=by have:=(bI.1 jK).1; omega
   have hoj:ops[j]? =some ops[j]:=by simp [hjs]
   have:=oI I.listed j hoj (fun e he hb=>I.listed j _ hoj hLj e he hb) (oJ hd.2 hj BP jK gh)
   rw [AU] at this; simp at this
 have Tn: ∀t∈io.names,(mc os fr T.phi L os.length).get t=(T.frs i).get t:=by
  intro t ht
  rw [uQ T i aa]
  rw [qT T.phi t i os.length aa (fun j h1 h2 Gn=> ?_)]
  ·refine oQ T.phi t i (fun j hj Gn=> ?_)
   unfold qq at Gn
   cases jK:os[j]? with
   | none=>simp [jK] at Gn
   | some jo=>
    simp only [jK,Option.bind_some] at Gn
    exact Pv j jo hj jK (cF.2 (.inl ⟨t,Gn, .inl ht⟩))
  ·by_cases JA:j=i
   ·subst JA; exact AU
   ·unfold qq at Gn
    cases jK:os[j]? with
    | none=>simp [jK] at Gn
    | some jo=>
     simp only [jK,Option.bind_some] at Gn
     exact TE j jo aa jK (cF.2 (.inr (.inl ⟨t,Gn,ht⟩)))
 have zI: ∀j,j≠i->(decide (j=i) || L j)=L j:=fun j hj=>by simp [hj]
 have Tu: ∀t,(mc os fr T.phi (fun j=>decide (j=i) || L j) os.length).get t=((mc os fr T.phi L os.length).put io.dst (T.phi i)).get t:=by
  intro t
  rw [qF]
  by_cases hdt:io.dst=some t
  ·rw [if_pos hdt]
   rw [qT T.phi t (i+1) os.length aa (fun j h1 h2 Gn=> ?_)]
   ·simp only [mc]
    rw [if_pos (by simp),qF,if_pos (by simp [qq,BP,hdt])]
   ·rw [zI j aa]
    unfold qq at Gn
    cases jK:os[j]? with
    | none=>simp [jK] at Gn
    | some jo=>
     simp only [jK,Option.bind_some] at Gn
     exact TE j jo aa jK (cF.2 (.inl ⟨t,hdt, .inr Gn⟩))
  ·rw [if_neg hdt]
   refine oQ T.phi t os.length (fun j hj Gn=> ?_)
   have:j≠i:=by rintro rfl; simp [qq,BP] at Gn; exact hdt Gn
   exact zI j this
 have Gi:Ki ops (fun j=>decide (j=i) || L j):=by
  intro j oj hoj hLj e he hb
  simp only [Bool.or_eq_true,dZ] at hLj ⊢
  rcases hLj with rfl | hLj
  ·rw [ho] at hoj
   simp only [ah] at hoj
   subst hoj
   exact .inr (hr e he hb)
  ·exact .inr (I.listed j oj hoj hLj e he hb)
 obtain ⟨Mv,hdc⟩:=zb (G:=G) (ip:=ip) (r:=fun _ _ _=>none) (o:=io) (σ:= .empty) Tn
 have hdc': ∀(r:kN) (τ:ag),bH ip G r io.op (mc os fr T.phi L os.length) τ=bH ip G r io.op (T.frs i) τ:=fun r τ=>(zb (G:=G) (ip:=ip) (r:=r) (o:=io) (σ:=τ) Tn).2
 have keep:io.op.cls≠3->∀(a':Act) (w':World) (μ':Mu),(∀(j:Nat) (jo:a8),j < s->os[j]? =some jo->jo.op.cls=2->j≠i->L j=false->wanted jo.guard (T.frs j)=some true->μ' ((T.sts j).next)= .unborn)->
   eM fm gm G w' X μ'->RS (fm:=fm) (T.sts s) w' X μ'->(∀b,X b->b < w'.heap.size)->RF (fm:=fm) N ((mc os fr T.phi L os.length).put io.dst (T.phi i)) a'.tmps w' X μ'->Ext w0 μ0 w' μ'->a'.defers=a0.defers->
   Inv T P fm gm N ops X w0 μ0 a0 (fun j=>decide (j=i) || L j) s a' w' μ':=by
  intro wW a' w' μ' hu tY hrs hx Pj he hdf
  refine ⟨Gi,I.sle,fun j hj hw=>by simp [I.done j hj hw],fun hs=> ?_,I.lim,fun j jo hj jK hc hLj hw=> ?_,⟨tY,hrs,hx,⟨Pj.size,fun t=>by rw [Tu]; exact Pj.val t⟩⟩,he,hdf⟩
  ·obtain ⟨h1,h2⟩:=I.next hs
   refine ⟨h1,?_⟩
   have:s≠i:=by
    rintro rfl
    obtain ⟨jo,jK,hc⟩:=h1
    rw [BP] at jK
    simp only [ah] at jK
    subst jK
    exact wW hc
   simp [this,h2]
  ·simp only [Bool.or_eq_false_iff,decide_eq_false_iff_not] at hLj
   exact hu j jo hj jK hc hLj.1 hLj.2 hw
 have tZ: ∀(v:Value),(a.put o'.dst v).defers=a.defers:=fun v=>by cases o'.dst <;> rfl
 have his:io.op.cls≠3->1<=io.op.cls->io.op.isF=false->i < s/\∀j,i<=j->j < s->¬writes os j:=by
  intro wW r7 hF
  have h1:i < s:=by
   rcases Nat.lt_or_ge i s with h | h
   ·exact h
   ·exfalso
    have hs:s < os.length:=by omega
    obtain ⟨⟨jo,jK,hc⟩,hLs⟩:=I.next hs
    have hsi:s≠i:=by
     rintro rfl
     rw [BP] at jK
     simp only [ah] at jK
     subst jK; exact wW hc
    have:=Pv s jo aa jK (cF.2 (.inr (.inr (.inl (wm hc r7 hF)))))
    rw [hLs] at this; simp at this
  refine ⟨h1,fun j hj hjs hw=> ?_⟩
  have hLj:=I.done j hjs hw
  obtain ⟨jo,jK,hc⟩:=hw
  by_cases JA:j=i
  ·subst JA
   rw [BP] at jK
   simp only [ah] at jK
   subst jK; exact wW hc
  ·have:=TE j jo aa jK (cF.2 (.inr (.inr (.inr (wm hc r7 hF)))))
   rw [hLj] at this; simp at this
 have nowr: ∀(j:Nat) (jo:a8),j < s->os[j]? =some jo->jo.op.cls=2->L j=false->∀k,j<=k->k < s->¬writes os k:=by
  intro j jo hj jK hc hLj k h1 h2 hw
  have hLk:=I.done k h2 hw
  obtain ⟨ko,hko,MF⟩:=hw
  have hjk:j≠k:=by
   rintro rfl
   rw [jK] at hko
   simp only [ah] at hko
   subst hko; omega
  have hks:k < ops.size:=by have:=(bI.1 hko).1; omega
  have Gh:ops[k]? =some ops[k]:=by simp [hks]
  have:=oI I.listed k Gh (fun e he hb=>I.listed k _ Gh hLk e he hb) (oJ hd.2 (by omega:j < k) jK hko (cF.2 (.inr (.inr (.inr (wm MF aa (nF aa)))))))
  rw [hLj] at this; simp at this
 have wrote:io.op.cls=3->∀(a':Act) (w':World) (μ':Mu),eM fm gm G w' X μ'->RS (fm:=fm) (T.sts (i+1)) w' X μ'->(∀b,X b->b < w'.heap.size)->
   RF (fm:=fm) N ((mc os fr T.phi L os.length).put io.dst (T.phi i)) a'.tmps w' X μ'->Ext w0 μ0 w' μ'->a'.defers=a0.defers->
   ∃s',Inv T P fm gm N ops X w0 μ0 a0 (fun j=>decide (j=i) || L j) s' a' w' μ':=by
  intro wW a' w' μ' tY hrs hx Pj he hdf
  obtain ⟨s',h1,h2,h3,h4⟩:=ze os (i+1) aa
  obtain ⟨q1,q2,q3⟩:=kA T s' h1 h2 h3 (gW T hσ (i+1) aa)
  have hwi:writes os i:=⟨io,BP,wW⟩
  have hlow: ∀j,j < i->writes os j->L j=true:=by
   intro j hj hw
   obtain ⟨jo,jK,hc⟩:=hw
   exact Pv j jo hj jK (cF.2 (.inr (.inr (.inl (wm hc aa (nF aa))))))
  refine ⟨s',Gi,h2,fun j hj hw=> ?_,fun hs=>⟨h4 hs,?_⟩,q3,fun j jo hj jK hc hLj hw=> ?_,⟨tY,hrs.le q1 q3,hx,⟨Pj.size,fun t=>by rw [Tu]; exact Pj.val t⟩⟩,he,hdf⟩
  ·by_cases JA:j=i
   ·simp [JA]
   ·by_cases aR:j < i
    ·simp [hlow j aR hw]
    ·exact absurd hw (h3 j aa hj)
  ·obtain ⟨jo,jK,hc⟩:=h4 hs
   rw [zI s' aa]
   exact TE s' jo aa jK (cF.2 (.inr (.inr (.inl (wm wW aa (nF aa))))))
  ·simp only [Bool.or_eq_false_iff,decide_eq_false_iff_not] at hLj
   have JA:i < j:=by
    rcases Nat.lt_or_ge i j with h' | h'
    ·exact h'
    ·exfalso
     have aR:j < i:=by omega
     have:=Pv j jo aR jK (cF.2 (.inr (.inr (.inr (wm wW aa (nF aa))))))
     rw [hLj.2] at this; simp at this
   have Y2:j<=os.length:=by have:=(bI.1 jK).1; omega
   obtain ⟨_,k2,_⟩:=kA T j (by omega:i+1<=j) Y2 (fun k a b=>h3 k a aa) (gW T hσ (i+1) aa)
   apply hrs.born
   cases Qp:(T.sts (i+1)).get (T.sts j).next with
   | none=>rfl
   | some y=>have:=gW T hσ (i+1) aa _ _ Qp; omega
 have hieq:io.op.cls=3->i=s:=by
  intro wW
  rcases Nat.lt_trichotomy i s with h | h | h
  ·have:=I.done i h ⟨io,BP,wW⟩
   rw [AU] at this; simp at this
  ·exact h
  ·exfalso
   obtain ⟨⟨jo,jK,hc⟩,hLs⟩:=I.next aa
   have:=Pv s jo h jK (cF.2 (.inr (.inr (.inl (wm hc aa (nF aa))))))
   rw [hLs] at this; simp at this
 unfold wpOp
 simp only [ho]
 rcases T.step i io BP with ⟨hw,hphi,sF⟩ | ⟨hw,m,hm,Qr⟩
 ·
  have zy:=lq I.given.rf hg (Mv.trans hw)
  simp only [zy,bh,if_false]
  have rf':RF (fm:=fm) N ((mc os fr T.phi L os.length).put io.dst (T.phi i)) (a.put o'.dst Go.undef).tmps w X μ:=by
   rw [hphi,Gm]; exact I.given.rf.put hdN LA
  by_cases wW:io.op.cls=3
  ·have:=hieq wW
   obtain ⟨s',hI⟩:=wrote wW (a.put o'.dst Go.undef) w μ I.given.glob (by rw [sF,this]; exact I.given.rs) I.given.out rf' I.ext ((tZ _).trans I.defers)
   exact hK s' _ _ _ hI
  ·exact hK s _ _ _ (keep wW _ w μ (fun j jo h1 h2 h3 _ h5 h6=>I.un j jo h1 h2 h3 h5 h6) I.given.glob I.given.rs I.given.out rf' I.ext ((tZ _).trans I.defers))
 ·
  have zy:=lq I.given.rf hg (Mv.trans hw)
  simp only [zy,if_true]
  left
  have quiet:io.op.cls<=1->bH ip G (run ip G m) io.op (T.frs i) (T.sts s)=some (T.phi i,T.sts s)->o'.wp P a w K Q:=by
   intro r7 Y9
   rw [←hdc'] at Y9
   refine R6 wx I.given uM hm r7 hopc Y9 K Q (fun cv w' h1 h2=> ?_)
   have hx:=Ext.of_below (μ:=μ) h2
   exact hK s _ _ _ (keep aa _ w' μ (fun j jo h1 h2 h3 _ h5 h6=>I.un j jo h1 h2 h3 h5 h6) (I.given.glob.ext hx) (I.given.rs.below h2) (fun b hb=>Nat.lt_of_lt_of_le (I.given.out b hb) h2.size)
    (by rw [Gm]; exact (I.given.rf.ext hx).put hdN h1) (I.ext.trans hx) ((tZ _).trans I.defers))
  by_cases lF:io.op.cls=0
  ·exact quiet aa (doOp_n lF (T.sts s) Qr).2
  by_cases hF:io.op.isF=true
  ·have r7:io.op.cls=1:=by
    by_cases h:io.op.cls=1
    ·exact h
    ·rw [nF h] at hF; simp at hF
   have hfs:(T.sts i).fsame (T.sts s):=by
    rcases Nat.lt_or_ge i s with h | h
    ·refine vW T (gW T hσ) s aa I.sle (fun j jo h1 h2 jK hcj=> ?_)
     cases hW:jo.op.isW with
     | true=>rfl
     | false=>
      have hLj:=I.done j h2 ⟨jo,jK,hcj⟩
      by_cases JA:j=i
      ·subst JA
       rw [BP] at jK
       simp only [ah] at jK
       subst jK; omega
      ·have:=TE j jo aa jK (cF.2 (.inr (.inr (.inr (wm' hcj aa hW)))))
       rw [hLj] at this; simp at this
    ·refine (vW T (gW T hσ) i h aa (fun j jo h1 h2 jK hcj=> ?_)).symm
     cases hW:jo.op.isW with
     | true=>rfl
     | false=>
      have hLj:=Pv j jo h2 jK (cF.2 (.inr (.inr (.inl (wm' hcj aa hW)))))
      obtain ⟨⟨so,hso,ma⟩,hLs⟩:=I.next aa
      by_cases hjs:j=s
      ·subst hjs; rw [hLs] at hLj; simp at hLj
      ·have hjo':ops[j]? =some (ops[j]'(by omega)):=by simp
       have:=oI I.listed j hjo' (fun e he hb=>I.listed j _ hjo' hLj e he hb) (oJ hd.2 (by omega:s < j) hso jK (cF.2 (.inr (.inr (.inl (wm ma aa (nF aa)))))))
       rw [hLs] at this; simp at this
   refine quiet aa ?_
   cases AY:io.op with
   | loadF n x=>
    rw [AY] at Qr
    simp only [bH,aj,cH,aL] at Qr ⊢
    obtain ⟨v',hv,rfl,_⟩:=Qr
    exact ⟨_,rU hfs hv,rfl,trivial⟩
   | _=>rw [AY] at hF; simp [cG.isF] at hF
  simp only [Bool.not_eq_true] at hF
  by_cases r7:io.op.cls=1
  ·obtain ⟨aR,hnw⟩:=his aa aa hF
   obtain ⟨q1,_,_⟩:=kA T s aa I.sle hnw (gW T hσ i aa)
   exact quiet aa (xE aa q1 Qr).2
  by_cases rZ:io.op.cls=2
  ·obtain ⟨aR,hnw⟩:=his aa aa hF
   have Tz:=Qr
   rw [←hdc'] at Tz
   obtain ⟨cs,cv,arr,e,hal,eL,hle,vr,tQ⟩:=O1 I.given rZ hopc Tz
   obtain ⟨q1,q2,_⟩:=kA T s (by omega:i+1<=s) I.sle (fun j a b=>hnw j aa b) (gW T hσ (i+1) aa)
   have hb:(T.sts s).get (T.sts i).next=some (.own cs):=by
    apply q1.1
    rw [hal,cW,if_pos rfl]
   have hunb:=I.un i io aR BP rZ AU hw
   obtain ⟨x1,x2⟩:=ZE I.given.rs I.given.out e hb hunb hle vr
   unfold Oper.wp
   rw [eL]
   refine hK s _ _ _ (keep aa _ _ (μ.bind (T.sts i).next (.at w.heap.size 0 true)) (fun j jo h1 h2 h3 JA h5 h6=> ?_) (I.given.glob.ext x1) x2 (fun b hb=>Nat.lt_of_lt_of_le (I.given.out b hb) x1.size)
    (by rw [Gm]; exact (I.given.rf.ext x1).put hdN (tQ _ _ (by simp [Mu.bind]) (heap_alloc_new w _))) (I.ext.trans x1) ((tZ _).trans I.defers))
   have fV:(T.sts j).next≠(T.sts i).next:=by
    rcases Nat.lt_or_ge i j with hij | hij
    ·obtain ⟨_,k2,_⟩:=kA T j (by omega:i+1<=j) (by have:=I.sle; omega) (fun k a b=>hnw k aa aa) (gW T hσ (i+1) aa)
     rw [hal] at k2
     have:(T.sts i).next+1<=(T.sts j).next:=k2
     omega
    ·have hjlt:j < i:=by omega
     have hnj:=nowr j jo h1 h2 h3 h5
     rcases T.step j jo h2 with ⟨hw',_,_⟩ | ⟨_,m',_,Y9⟩
     ·rw [h6] at hw'; simp at hw'
     ·obtain ⟨cs',hal'⟩:=oV h3 Y9
      obtain ⟨_,k2,_⟩:=kA T i (by omega:j+1<=i) aa (fun k a b=>hnj k aa aa) (gW T hσ (j+1) aa)
      rw [hal'] at k2
      have:(T.sts j).next+1<=(T.sts i).next:=k2
      omega
   simp [Mu.bind,fV,I.un j jo h1 h2 h3 h5 h6]
  ·have wW:io.op.cls=3:=by
    have:io.op.cls<=3:=by
     cases AY:io.op <;> simp [cG.cls]
     all_goals (split <;> omega)
    omega
   have his:=hieq wW
   have Tz:=Qr
   rw [his,←his,←hdc'] at Tz
   have Pq:bO P fm gm G w X μ (T.sts i) N (mc os fr T.phi L os.length) a:=by rw [his]; exact I.given
   refine MN wx Pq uM hm hopc Tz K Q (fun cv w' μ' h1 h2 h3=> ?_)
   obtain ⟨s',hI⟩:=wrote wW (a.put o'.dst cv) w' μ' (I.given.glob.ext h2) h3 (fun b hb=>Nat.lt_of_lt_of_le (I.given.out b hb) h2.size)
    (by rw [Gm]; exact (I.given.rf.ext h2).put hdN h1) (I.ext.trans h2) ((tZ _).trans I.defers)
   exact hK s' _ _ _ hI
end
end Go.Ab
namespace Go.Ab
open Go.RowKit
section
variable {P:Program} {fm gm:Nat->aA} {G:Nat->ai} {ip:Nat->Option au}
variable {n N:Nat} {os:List a8} {ops:Array Oper} {fr fr':Fr} {σ σ':ag}
def nM (ops:Array Oper) (L:Nat->Bool):Nat:=(List.range ops.size).countP (fun j=> !L j)
theorem JZ (L:Nat->Bool) (i:Nat) (AU:L i=false): ∀(m:Nat),i < m->(List.range m).countP (fun j=> !(decide (j=i) || L j))+1=(List.range m).countP (fun j=> !L j):=by
 intro m
 induction m with
 | zero=>intro h; omega
 | succ m ih=>
  intro h
  rw [List.range_succ,List.countP_append,List.countP_append]
  by_cases hm:m=i
  ·subst hm
   have:(List.range m).countP (fun j=> !(decide (j=m) || L j))=(List.range m).countP (fun j=> !L j):=by
    apply List.countP_congr
    intro x hx
    have:x≠m:=by have:=List.mem_range.1 hx; omega
    simp [this]
   rw [this]
   simp [AU]
  ·have:=ih aa
   have e:([m].countP fun j=> !(decide (j=i) || L j))= [m].countP fun j=> !L j:=by simp [hm]
   rw [e]
   omega
theorem Cv {L:Nat->Bool} {i:Nat} (AU:L i=false) (hi:i < ops.size):nM ops (fun j=>decide (j=i) || L j)+1=nM ops L:=
 JZ L i AU ops.size hi
theorem Ka {listed:Array Bool} (fb:listed.size=ops.size) (hb:backward ops=true) (h:Region.ready .any ops listed= []): ∀j,j < ops.size->listed.getD j false=true:=by
 intro j
 induction j using Nat.strongRecOn with
 | _ j ih=>
  intro hj
  cases hl:listed.getD j false with
  | true=>rfl
  | false=>
   exfalso
   have hm:j∈Region.ready .any ops listed:=by
    refine mem_ready.2 ⟨?_,ops[j],by simp [hj],fun e he hbd=> ?_⟩
    ·simp [fb,hj] at hl ⊢; exact hl
    ·unfold backward at hb
     rw [bG] at hb
     have:=hb j (List.mem_range.2 hj)
     simp only [show ops[j]? =some ops[j] by simp [hj]] at this
     rw [bG] at this
     have:=this e (by simpa using he)
     rw [hbd] at this
     simp only [Bool.not_true,Bool.false_or,dZ] at this
     exact ih e.on this aa
   rw [h] at hm
   simp at hm
theorem TL (T:Trace ip G n os fr σ fr' σ') {L:Nat->Bool} (h: ∀j,j < os.length->L j=true): ∀t,(mc os fr T.phi L os.length).get t=fr'.get t:=by
 intro t
 have e:fr'.get t=(mc os fr T.phi (fun _=>true) os.length).get t:=congrArg (fun f:Fr=>f.get t) (T.fn.symm.trans (uQ T os.length (aD _)))
 exact (oQ T.phi t os.length (fun j hj _=>by rw [h j hj])).trans e.symm
theorem P8 (hσ:σ.Lim) (wx: ∀g,ay (G g)=true) (uM:gF P fm gm G ip n) (hd:oU os ops=true) (MF:fB P fm gm N ops os ops.toList=true) (T:Trace ip G n os fr σ fr' σ')
  {X:Nat->Prop} {w0:World} {μ0:Mu} {a0:Act}: ∀(fuel:Nat) (listed:Array Bool) (s:Nat) (a:Act) (w:World) (μ:Mu),listed.size=ops.size->nM ops (fun j=>listed.getD j false)<=fuel->
  Inv T P fm gm N ops X w0 μ0 a0 (fun j=>listed.getD j false) s a w μ->
  wpAny P .any ops (fun e a' w'=>e= .normal/\∃μ',Out fm N X w0 μ0 a0 fr' σ' a' w' μ'/\eM fm gm G w' X μ'/\∀b,X b->b < w'.heap.size) fuel listed a w:=by
 obtain ⟨hlen,_⟩:=qJ MF
 have qh:os.length=ops.size:=by simpa using hlen
 have Gu:backward ops=true:=by
  simp only [oU,ak] at hd
  exact hd.1
 have fin: ∀(listed:Array Bool) (s:Nat) (a:Act) (w:World) (μ:Mu),listed.size=ops.size->Inv T P fm gm N ops X w0 μ0 a0 (fun j=>listed.getD j false) s a w μ->Region.ready .any ops listed= []->
   (Exit.normal:Exit)= .normal/\∃μ',Out fm N X w0 μ0 a0 fr' σ' a w μ'/\eM fm gm G w X μ'/\∀b,X b->b < w.heap.size:=by
  intro listed s a w μ fb I hr
  have hall:=Ka fb Gu hr
  have hs:s=os.length:=by
   rcases Nat.lt_or_ge s os.length with h | h
   ·have h1:=(I.next h).2
    have h2:=hall s aa
    have Gz:listed.getD s false=false:=h1
    rw [Gz] at h2; cases h2
   ·have:=I.sle; omega
  have sF:T.sts s=σ':=by rw [hs]; exact T.sn
  refine ⟨rfl,μ,⟨⟨I.given.rf.size,fun t=> ?_⟩,by rw [←sF]; exact I.given.rs,I.ext,I.defers⟩,I.given.glob,I.given.out⟩
  rw [←TL T (fun j hj=>hall j aa) t]
  exact I.given.rf.val t
 intro fuel
 induction fuel with
 | zero=>
  intro listed s a w μ fb hc I
  have hr:Region.ready .any ops listed= []:=by
   cases hr:Region.ready .any ops listed with
   | nil=>rfl
   | cons j l=>
    exfalso
    have hj:j∈Region.ready .any ops listed:=by rw [hr]; simp
    obtain ⟨h0,o,ho,_⟩:=mem_ready.1 hj
    have aR:j < ops.size:=(Array.getElem?_eq_some_iff.1 ho).1
    have:0 < nM ops (fun j=>listed.getD j false):=by
     unfold nM
     rw [List.countP_pos_iff]
     refine ⟨j,List.mem_range.2 aR,?_⟩
     simp [fb,aR] at h0 ⊢; exact h0
    omega
  exact ⟨hr,fin listed s a w μ fb I hr⟩
 | succ fuel ih=>
  intro listed s a w μ fb hc I
  refine ⟨fin listed s a w μ fb I,fun i hi=> ?_⟩
  obtain ⟨h0,o,ho,hall⟩:=mem_ready.1 hi
  have aR:i < ops.size:=(Array.getElem?_eq_some_iff.1 ho).1
  have AU:(fun j=>listed.getD j false) i=false:=by
   simp [fb,aR] at h0 ⊢; exact h0
  have kF:(fun j=>(listed.setIfInBounds i true).getD j false)=fun j=>decide (j=i) || listed.getD j false:=by
   funext j
   by_cases JA:j=i
   ·subst JA; simp [fb,aR]
   ·rw [getD_set_ne false (Ne.symm JA)]; simp [JA]
  refine S8 hσ wx uM hd MF T I ho AU hall (fun s' a' w' μ' I'=> ?_)
  refine ih _ s' a' w' μ' (by simpa using fb) ?_ (by rw [kF]; exact I')
  rw [kF]
  have:=Cv (ops:=ops) (L:=fun j=>listed.getD j false) AU aR
  omega
theorem Uz (hm:P.follows .mixedOrders=true) (wx: ∀g,ay (G g)=true):yz P fm gm G ip oU:=by
 intro n N os ops fr fr' σ σ' X w μ a id uM hd MF hx g
 obtain ⟨T⟩:=hx.trace
 have hσ:σ.Lim:=g.rs.lim
 obtain ⟨hlen,_⟩:=qJ MF
 have qh:os.length=ops.size:=by simpa using hlen
 obtain ⟨s,h1,h2,h3,h4⟩:=ze os 0 aa
 obtain ⟨q1,q2,q3⟩:=kA T s h1 h2 h3 (by rw [T.s0]; exact hσ)
 have hb:Below w.heap.size w { w with drawn:=w.drawn+1 }:=⟨rfl,rfl,rfl,aD _,fun _ _=>rfl⟩
 have hxt:=Ext.of_below (μ:=μ) hb
 refine wp_region_any hm (P8 hσ wx uM hd MF T _ _ s a _ μ (by simp) (by unfold nM; exact Nat.le_trans (List.countP_le_length) (by simp)) ⟨?_,h2,fun j hj hw=>absurd hw (h3 j aa hj),fun hs=>⟨h4 hs,?_⟩,q3,?_,⟨g.glob.ext hxt,?_,g.out,⟨g.rf.size,fun t=> ?_⟩⟩,hxt,rfl⟩)
 ·intro j o ho hL
  have aR:j < ops.size:=(Array.getElem?_eq_some_iff.1 ho).1
  simp [aR] at hL
 ·have:s < ops.size:=by omega
  simp [this]
 ·intro j jo hj jK hc hL hw
  apply g.rs.born
  obtain ⟨_,k2,_⟩:=kA T j (Nat.zero_le j) aa (fun k a b=>h3 k a aa) (by rw [T.s0]; exact hσ)
  rw [T.s0] at k2
  cases Qp:σ.get (T.sts j).next with
  | none=>rfl
  | some y=>have:=hσ _ _ Qp; omega
 ·rw [T.s0] at q1
  exact (g.rs.below hb).le q1 q3
 ·have e:(mc os fr T.phi (fun j=>(Array.replicate ops.size false).getD j false) os.length).get t=fr.get t:=by
   rw [qT T.phi t 0 os.length (Nat.zero_le _) (fun j h1 h2 hd=> ?_)]
   ·rfl
   ·have:j < ops.size:=by omega
    simp [this]
  rw [e]
  exact (g.rf.ext hxt).val t
end
end Go.Ab
