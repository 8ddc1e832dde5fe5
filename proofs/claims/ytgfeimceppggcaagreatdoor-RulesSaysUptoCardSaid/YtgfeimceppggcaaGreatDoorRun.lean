/- A call that the abstract machine answers is answered so by the model, and nothing old turns. Conditions: none. -/
import Derived.Test.YtgfeimceppggcaaGreatDoorMach
import Derived.Laws.CopyRow
import Derived.Deep.AppendSrc
import Derived.Deep.Upon
import Derived.Laws.MakeOwn
import Derived.Lib.MakeNoZero
import Derived.Lib.UnsafeStr
set_option linter.unusedVariables false
set_option linter.unusedSimpArgs false
set_option linter.defProp false
set_option linter.unnecessarySimpa false
namespace Go.Ab
set_option maxRecDepth 100000
theorem iq: ∀l:ai,dT l=l.map AV.er
 | []=>rfl
 | v ::r=>by simp [dT,iq r]
mutual
theorem AD: ∀v:AV,v.er.closed=v.closed
 | .vsl els _=>by simp [AV.er,AV.closed,iQ els]
 | .nils | .e0=>by simp [AV.er,AV.closed,aB]
 | .agg cs=>by simp [AV.er,AV.closed,iQ cs]
 | .tup cs=>by simp [AV.er,AV.closed,iQ cs]
 | .vptr cs off=>by simp [AV.er,AV.closed,iQ cs]
 | .fn f a c=>by simp [AV.er,AV.closed,iQ a,iQ c]
 | .undef | .bool _ | .int _ _ | .str _ | .lit _ | .ptr _ _ | .sl .. =>by simp [AV.er,AV.closed]
theorem iQ: ∀l:ai,aB (dT l)=aB l
 | []=>rfl
 | v ::r=>by simp [dT,aB,AD v,iQ r]
end
mutual
theorem wz: ∀v:AV,v.er.flat=v.flat
 | .vsl els _=>by cases els <;> simp [AV.er,AV.flat,dT]
 | .nils | .e0=>by simp [AV.er,AV.flat]
 | .agg cs=>by simp [AV.er,AV.flat,nA cs]
 | .tup cs=>by simp [AV.er,AV.flat,nA cs]
 | .vptr cs off=>by simp [AV.er,AV.flat]
 | .fn f a c=>by simp [AV.er,AV.flat,nA a,nA c]
 | .undef | .bool _ | .int _ _ | .str _ | .lit _ | .ptr _ _ | .sl .. =>by simp [AV.er,AV.flat]
theorem nA: ∀l:ai,oQ (dT l)=oQ l
 | []=>rfl
 | v ::r=>by simp [dT,oQ,wz v,nA r]
end
mutual
theorem er_er: ∀v:AV,v.er.er=v.er
 | .vsl els _=>by simp [AV.er,om els]
 | .nils | .e0=>by simp [AV.er,dT]
 | .agg cs=>by simp [AV.er,om cs]
 | .tup cs=>by simp [AV.er,om cs]
 | .vptr cs off=>by simp [AV.er,om cs]
 | .fn f a c=>by simp [AV.er,om a,om c]
 | .undef | .bool _ | .int _ _ | .str _ | .lit _ | .ptr _ _ | .sl .. =>by simp [AV.er]
theorem om: ∀l:ai,dT (dT l)=dT l
 | []=>rfl
 | v ::r=>by simp [dT,er_er v,om r]
end
end Go.Ab
namespace Go.Ab
open Go.RowKit
section
variable {P:Program} {fm gm:Nat->aD} {G:Nat->ai}
variable {w:World} {X:Nat->Prop} {μ:Mu} {σ:ag}
theorem cT (σ:ag) (cs:ai) (b:Nat):(σ.alloc cs).get b=if b=σ.next then some (.own cs) else σ.get b:=by
 simp only [ag.alloc,ag.get,jD]
 by_cases h:σ.next=b
 ·rw [if_pos h,if_pos h.symm]
 ·rw [if_neg h,if_neg (fun e=>h e.symm)]
theorem df (σ:ag) (b b':Nat) (x:jS):(σ.set b x).get b'=if b'=b then some x else σ.get b':=by
 simp only [ag.set,ag.get,jD]
 by_cases h:b=b'
 ·rw [if_pos h,if_pos h.symm]
 ·rw [if_neg h,if_neg (fun e=>h e.symm)]
def Mu.bind (μ:Mu) (b:Nat) (l:Loc):Mu:=fun b'=>if b'=b then l else μ b'
theorem il (w:World) (o:Obj) {k:Nat} (h:k < w.heap.size):(w.heap.push o)[k]? =w.heap[k]? :=by
 rw [Array.getElem?_push,if_neg (Nat.ne_of_lt h)]
theorem lN (hS:RS (fm:=fm) σ w X μ) (hX: ∀b,X b->b < w.heap.size) {cs:ai} {arr:Array Value} (e:TypeId) (hl:cs.length<=arr.size)
  (hr: ∀j,j < cs.length->RV fm w X μ (cs.getD j .undef) (arr.getD j Go.undef)) :
  Ext w μ (w.alloc (.cells arr e)) (μ.bind σ.next (.at w.heap.size 0 true))/\RS (fm:=fm) (σ.alloc cs) (w.alloc (.cells arr e)) X (μ.bind σ.next (.at w.heap.size 0 true)):=by
 have zz:μ σ.next= .unborn:=by
  apply hS.born
  cases h:σ.get σ.next with
  | none=>rfl
  | some x=>exact absurd (hS.lim _ _ h) (Nat.lt_irrefl _)
 have gh:Ext w μ (w.alloc (.cells arr e)) (μ.bind σ.next (.at w.heap.size 0 true)):=by
  refine ⟨rfl,rfl,rfl,by simp,fun blk hb _=>il w _ hb,fun blk ar el fz hb=>⟨ar,fz,?_,rfl⟩,fun b blk base hm=> ?_,fun b blk base o hm=> ?_,fun b hm=> ?_⟩
  ·have aN:blk < w.heap.size:=by
    rcases Nat.lt_or_ge blk w.heap.size with h' | h'
    ·exact h'
    ·simp [Array.getElem?_eq_none h'] at hb
   show (w.heap.push _)[blk]? =_
   rw [il w _ aN]; exact hb
  ·by_cases h:b=σ.next
   ·subst h; simp [Mu.bind] at hm; right; omega
   ·simp [Mu.bind,h] at hm; exact .inl ⟨b,base,hm⟩
  ·have h:b≠σ.next:=by rintro rfl; rw [zz] at hm; simp at hm
   right; exact ⟨o,by simp [Mu.bind,h,hm]⟩
  ·have h:b≠σ.next:=by rintro rfl; rw [zz] at hm; simp at hm
   simp [Mu.bind,h,hm]
 refine ⟨gh,?_⟩
 refine ⟨fun b blk base o hm=> ?_,fun b blk base hm=> ?_,fun b blk base hm=> ?_,fun b b' blk base bZ hm dZ=> ?_,fun b blk base o hm=> ?_,fun b hb=> ?_,fun b x hb=> ?_,fun b hb=> ?_,fun b hm=> ?_,hS.tys.step (fun _ _ h=>mem_push (fun _=>by simp) h) (Nat.le_succ _) (fun b _ _ o hb _ h=>⟨o,by simpa [Mu.bind,Nat.ne_of_lt hb] using h⟩) gh⟩
 ·by_cases h:b=σ.next
  ·simp [Mu.bind,h] at hm; simp; omega
  ·simp [Mu.bind,h] at hm; have:=hS.lt b blk base o hm; simp; omega
 ·by_cases h:b=σ.next
  ·simp [Mu.bind,h] at hm
   intro hx
   have:=hX _ hx
   omega
  ·simp [Mu.bind,h] at hm; exact hS.far b blk base hm
 ·by_cases h:b=σ.next
  ·simp [Mu.bind,h] at hm
  ·simp [Mu.bind,h] at hm
   exact rF gh (hS.lt b blk base false hm) (hS.frz b blk base hm)
 ·by_cases h:b=σ.next <;> by_cases h':b'=σ.next
  ·rw [h,h']
  ·simp [Mu.bind,h,h'] at hm dZ; have:=hS.lt b' blk bZ true dZ; omega
  ·simp [Mu.bind,h,h'] at hm dZ; have:=hS.lt b blk base true hm; omega
  ·simp [Mu.bind,h,h'] at hm dZ; exact hS.inj b b' blk base bZ hm dZ
 ·by_cases h:b=σ.next
  ·simp [Mu.bind,h] at hm
   obtain ⟨rfl,rfl,rfl⟩:=hm
   refine ⟨cs,arr,e,by rw [cT,if_pos h]; rfl,by simp [World.alloc, -World.alloc_eq],by omega,fun j hj=> ?_⟩
   rw [Nat.zero_add]
   exact (hr j hj).ext gh
  ·have dZ:μ b= .at blk base o:=by simpa [Mu.bind,h] using hm
   obtain ⟨cs',arr',e',h1,h2,h3,h4⟩:=hS.cells b blk base o dZ
   refine ⟨cs',arr',e',by rw [cT,if_neg h]; exact h1,?_,h3,fun j hj=>(h4 j hj).ext gh⟩
   show (w.heap.push _)[blk]? =_
   rw [il w _ (hS.lt b blk base o dZ)]; exact h2
 ·rw [cT] at hb
  by_cases h:b=σ.next
  ·rw [if_pos h] at hb; simp at hb
  ·rw [if_neg h] at hb; simp [Mu.bind,h,hS.born b hb]
 ·rw [cT] at hb
  show b < σ.next+1
  by_cases h:b=σ.next
  ·omega
  ·rw [if_neg h] at hb; have:=hS.lim b x hb; omega
 ·rw [cT] at hb
  by_cases h:b=σ.next
  ·rw [if_pos h] at hb; simp at hb
  ·rw [if_neg h] at hb; simp [Mu.bind,h,hS.gone b hb]
 ·by_cases h:b=σ.next
  ·simp [Mu.bind,h] at hm
  ·have dZ:μ b= .dead:=by simpa [Mu.bind,h] using hm
   have:=hS.dead b dZ
   simp only [ag.cells,cT,if_neg h] at this ⊢
   exact this
theorem lh {b blk base:Nat} (hm:μ b= .at blk base true) {arr arr':Array Value} {e:TypeId} (j9:w.heap[blk]? =some (.cells arr e (0,0)))
  (eA:arr'.size=arr.size):Ext w μ (w.setRow blk arr') μ:=by
 refine ⟨rfl,rfl,rfl,by simp,fun k hk hn=> ?_,fun k ar el fz hk=> ?_,fun b blk base hm=> .inl ⟨b,base,hm⟩,fun b blk base o hm=> .inr ⟨o,hm⟩,fun b hm=>hm⟩
 ·have:k≠blk:=by rintro rfl; exact hn ⟨b,base,hm⟩
  exact setRow_other w blk k arr' this
 ·by_cases h:k=blk
  ·subst h
   rw [j9] at hk
   simp only [ah,Obj.cells.injEq] at hk
   obtain ⟨rfl,rfl,rfl⟩:=hk
   exact ⟨arr',(0,0),setRow_heap w k arr arr' e (0,0) j9,eA⟩
  ·exact ⟨ar,fz,by rw [setRow_other w blk k arr' h]; exact hk,rfl⟩
theorem tN (hS:RS (fm:=fm) σ w X μ) {b blk base:Nat} (hm:μ b= .at blk base true) {arr arr':Array Value} {e:TypeId} (j9:w.heap[blk]? =some (.cells arr e (0,0)))
  (eA:arr'.size=arr.size) {cs':ai} (hl:base+cs'.length<=arr'.size) (hr: ∀j,j < cs'.length->RV fm w X μ (cs'.getD j .undef) (arr'.getD (base+j) Go.undef)) :
  RS (fm:=fm) (σ.set b (.own cs')) (w.setRow blk arr') X μ:=by
 have gh:=lh hm j9 eA
 refine ⟨fun b' ei bZ o dZ=>by simpa using hS.lt b' ei bZ o dZ,hS.far,hS.frz,hS.inj,fun b' ei bZ o dZ=> ?_,fun b' hb=> ?_,fun b' x hb=> ?_,fun b' hb=> ?_,fun b' dZ=> ?_,hS.tys.step (fun _ _ h=>mem_push (fun _=>by simp) h) (aE _) (fun _ _ _ o _ _ h=>⟨o,h⟩) gh⟩
 ·by_cases h:b'=b
  ·subst h
   rw [hm] at dZ
   simp only [Loc.at.injEq] at dZ
   obtain ⟨rfl,rfl,rfl⟩:=dZ
   exact ⟨cs',arr',e,by rw [df,if_pos rfl]; rfl,setRow_heap w blk arr arr' e (0,0) j9,hl,fun j hj=>(hr j hj).ext gh⟩
  ·obtain ⟨cs1,HX,e1,h1,h2,h3,h4⟩:=hS.cells b' ei bZ o dZ
   have fX:ei≠blk:=by
    rintro rfl
    cases o with
    | true=>exact h (hS.inj b' b ei bZ base dZ hm)
    | false=>exact hS.frz b' ei bZ dZ (.inr ⟨b,base,hm⟩)
   exact ⟨cs1,HX,e1,by rw [df,if_neg h]; exact h1,by rw [setRow_other w blk ei arr' fX]; exact h2,h3,fun j hj=>(h4 j hj).ext gh⟩
 ·rw [df] at hb
  by_cases h:b'=b
  ·rw [if_pos h] at hb; simp at hb
  ·rw [if_neg h] at hb; exact hS.born b' hb
 ·rw [df] at hb
  show b' < σ.next
  by_cases h:b'=b
  ·subst h
   obtain ⟨_,_,_,h1,_⟩:=hS.cells b' blk base true hm
   exact hS.lim b' _ h1
  ·rw [if_neg h] at hb; exact hS.lim b' x hb
 ·rw [df] at hb
  by_cases h:b'=b
  ·rw [if_pos h] at hb; simp at hb
  ·rw [if_neg h] at hb; exact hS.gone b' hb
 ·by_cases h:b'=b
  ·subst h; rw [hm] at dZ; simp at dZ
  ·have:=hS.dead b' dZ
   simp only [ag.cells,df,if_neg h] at this ⊢
   exact this
theorem WO (hS:RS (fm:=fm) σ w X μ) (b:Nat) (hb:b < σ.next):Ext w μ w (μ.bind b .dead)/\RS (fm:=fm) (σ.set b .dead) w X (μ.bind b .dead):=by
 have gh:Ext w μ w (μ.bind b .dead):=by
  refine ⟨rfl,rfl,rfl,aE _,fun _ _ _=>rfl,fun _ ar _ fz h=>⟨ar,fz,h,rfl⟩,fun b' blk base hm=> ?_,fun b' blk base o hm=> ?_,fun b' hm=> ?_⟩
  ·by_cases h:b'=b
   ·simp [Mu.bind,h] at hm
   ·simp [Mu.bind,h] at hm; exact .inl ⟨b',base,hm⟩
  ·by_cases h:b'=b
   ·left; simp [Mu.bind,h]
   ·right; exact ⟨o,by simp [Mu.bind,h,hm]⟩
  ·by_cases h:b'=b
   ·simp [Mu.bind,h]
   ·simp [Mu.bind,h,hm]
 have back: ∀b' blk base o,(μ.bind b .dead) b'= .at blk base o->b'≠b/\μ b'= .at blk base o:=by
  intro b' blk base o hm
  by_cases h:b'=b
  ·simp [Mu.bind,h] at hm
  ·exact ⟨h,by simpa [Mu.bind,h] using hm⟩
 refine ⟨gh,?_⟩
 refine ⟨fun b' blk base o hm=>hS.lt b' blk base o (back _ _ _ _ hm).2,fun b' blk base hm=>hS.far b' blk base (back _ _ _ _ hm).2,
  fun b' blk base hm=>rF gh (hS.lt b' blk base false (back _ _ _ _ hm).2) (hS.frz b' blk base (back _ _ _ _ hm).2),
  fun b' b'' blk base bZ hm dZ=>hS.inj b' b'' blk base bZ (back _ _ _ _ hm).2 (back _ _ _ _ dZ).2,fun b' blk base o hm=> ?_,fun b' h=> ?_,fun b' x h=> ?_,fun b' h=> ?_,fun b' hm=> ?_,hS.tys.step (fun _ _ h=>mem_push (fun _=>by simp) h) (aE _) (fun _ _ _ o _ _ h=>⟨o,(back _ _ _ _ h).2⟩) gh⟩
 ·obtain ⟨fX,dZ⟩:=back _ _ _ _ hm
  obtain ⟨cs1,HX,e1,h1,h2,h3,h4⟩:=hS.cells b' blk base o dZ
  exact ⟨cs1,HX,e1,by rw [df,if_neg fX]; exact h1,h2,h3,fun j hj=>(h4 j hj).ext gh⟩
 ·rw [df] at h
  by_cases oU:b'=b
  ·rw [if_pos oU] at h; simp at h
  ·rw [if_neg oU] at h; simp [Mu.bind,oU,hS.born b' h]
 ·rw [df] at h
  show b' < σ.next
  by_cases oU:b'=b
  ·omega
  ·rw [if_neg oU] at h; exact hS.lim b' x h
 ·rw [df] at h
  by_cases oU:b'=b
  ·simp [Mu.bind,oU]
  ·rw [if_neg oU] at h; simp [Mu.bind,oU,hS.gone b' h]
 ·by_cases oU:b'=b
  ·simp [ag.cells,df,oU]
  ·have dZ:μ b'= .dead:=by simpa [Mu.bind,oU] using hm
   have:=hS.dead b' dZ
   simp only [ag.cells,df,if_neg oU] at this ⊢
   exact this
end
end Go.Ab
namespace Go.Ab
open Go.RowKit
section
variable {P:Program} {fm gm:Nat->aD} {G:Nat->ai}
variable {w:World} {X:Nat->Prop} {μ:Mu} {σ σ':ag} {N:Nat} {fr:Fr} {a:Act} {o:Oper} {v:AV}
def Dh (P:Program) (fm:Nat->aD) (X:Nat->Prop) (μ:Mu) (o:Oper) (a:Act) (w:World) (v:AV) (σ':ag):Prop:=
 ∃cv w' μ',((execOp a.eval o).run P w= .ok (.value cv) w'∨((execOp a.eval o).run P w= .ok .skip w'/\cv=Go.undef))/\RV fm w' X μ' v cv/\Ext w μ w' μ'/\RS (fm:=fm) σ' w' X μ'
theorem iL {s:Sem Value} (h:execOp a.eval o=(do pure (.value (←s)))) (y: ∃cv w' μ',s.run P w= .ok cv w'/\RV fm w' X μ' v cv/\Ext w μ w' μ'/\RS (fm:=fm) σ' w' X μ'):Dh P fm X μ o a w v σ':=by
 obtain ⟨cv,w',μ',h1,h2⟩:=y
 exact ⟨cv,w',μ', .inl (by rw [h]; simp [h1]),h2⟩
theorem PI (g:bF P fm gm G w X μ σ N fr a) (y:cW P fm X μ o a w v):Dh P fm X μ o a w v σ:=by
 obtain ⟨cv,w',h1,h2,h3⟩:=y
 exact ⟨cv,w',μ, .inl h1,h2,Ext.of_below h3,g.rs.below h3⟩
theorem e_box (g:bF P fm gm G w X μ σ N fr a) {x:bq} (hc:aS P fm gm (.box x) o.op=true) (hk:(val G fr x).known=true) :
  Dh P fm X μ o a w (.ptr σ.next 0) (σ.alloc (val G fr x).cells):=by
 obtain ⟨dst,op,type,pos,after,guard⟩:=o
 simp only [aS] at hc
 split at hc
 case h_2=>simp at hc
 rename_i el x'
 have rx:=a8 g.glob g.rf hc
 obtain ⟨hl,hr⟩:=rx.cells hk
 obtain ⟨h1,h2⟩:=lN g.rs g.out el (Nat.le_of_eq hl) (fun j _=>hr j)
 refine iL (s:=Instr.box el (a.eval x')) rfl ⟨_,_,_,rfl,?_,h1,h2⟩
 have:=RV.ptr (fm:=fm) (w:=w.alloc (.cells (a.eval x').cells el)) (X:=X) (μ:=μ.bind σ.next (.at w.heap.size 0 true)) σ.next 0 w.heap.size 0 true (by simp [Mu.bind])
 exact this
theorem e_new (g:bF P fm gm G w X μ σ N fr a) {z:ai} (hc:aS P fm gm (.new z) o.op=true):Dh P fm X μ o a w (.ptr σ.next 0) (σ.alloc z):=by
 obtain ⟨dst,op,type,pos,after,guard⟩:=o
 simp only [aS] at hc
 split at hc
 case h_2=>simp at hc
 rename_i t
 obtain ⟨zv,Ob,Dj⟩:=jy (P:=P) (fm:=fm) (w:=w) (X:=X) (μ:=μ) hc
 obtain ⟨h1,h2⟩:=lN g.rs g.out t (Nat.le_of_eq Dj.1) (fun j _=>Dj.2 j)
 refine iL (s:=Instr.alloc t true (.tuple #[])) rfl ⟨_,_,_,?_,RV.ptr σ.next 0 w.heap.size 0 true (by simp [Mu.bind]),h1,h2⟩
 simp [Instr.alloc,Ob,newVar,newRow]
theorem Nw (g:bF P fm gm G w X μ σ N fr a) {sz len:Nat} {z:ai} {ps:List (Nat×bq)} (hc:aS P fm gm (.buildSl true sz len z ps) o.op=true) {cs:ai}
  (h:g9 ((List.range len).flatMap fun _=>z) (ps.map fun (i,x)=>(i*sz,sz,val G fr x))=some cs) (hz:z.length=sz) :
  Dh P fm X μ o a w (.sl σ.next 0 len sz (some len)) (σ.alloc cs):=by
 obtain ⟨dst,op,type,pos,after,guard⟩:=o
 have kU:=hc
 simp only [aS] at hc
 split at hc
 case h_2=>simp at hc
 rename_i t cE lq
 have hex:execOp a.eval ⟨dst, .buildSlice t cE lq,type,pos,after,guard⟩=(do pure (.value (←Instr.buildSlice t cE (lq.map fun (i,x)=>(i,a.eval x))))):=by
  simp only [execOp]
 obtain ⟨e,qE,h1,h2,h3⟩:=pM (w:=w) (X:=X) (μ:=μ) g.glob g.rf kU hz h
 have hlen:cs.length=len*sz:=by rw [oi _ _ _ h,gS,hz]
 obtain ⟨k1,k2⟩:=lN g.rs g.out e (Nat.le_of_eq h2.1) (fun j _=>h2.2 j)
 refine iL hex ⟨_,_,_,h1,?_,k1,k2⟩
 have eA:qE.size=len*sz:=by rw [←h2.1,hlen]
 exact RV.sl σ.next 0 len sz (some len) w.heap.size 0 len true qE e (0,0) (by simp [Mu.bind]) (by simp [-World.alloc_eq]) aa (aE _) (.inr rfl)
theorem nQ (l:List Value) (j:Nat):(l.toArray).getD j Go.undef=l.getD j Go.undef:=by simp
theorem rV (l xs:List Value) (off k:Nat) (h:off+xs.length<=l.length) :
  (l.take off ++xs ++l.drop (off+xs.length)).getD k Go.undef=if off<=k/\k < off+xs.length then xs.getD (k - off) Go.undef else l.getD k Go.undef:=by
 simp only [a9,List.getElem?_append,bE,az,List.getElem?_take,List.getElem?_drop]
 have hm:min off l.length=off:=by omega
 rw [hm]
 by_cases h1:k < off
 ·rw [if_pos aa,if_pos aa,if_pos h1,if_neg aa]
 ·by_cases h2:k < off+xs.length
  ·rw [if_pos aa,if_neg aa,if_pos aa]
  ·rw [if_neg aa,if_neg aa]
   congr 2
   omega
theorem s6 {cs:ai} {vs:List Value} (hl:cs.length=vs.length) (hr: ∀j,RV fm w X μ (cs.getD j .undef) (vs.getD j Go.undef)) (h:cs.all AV.one=true): ∀v∈vs,v.oneCell'=true:=by
 intro v hv
 obtain ⟨j,hj,rfl⟩:=List.getElem_of_mem hv
 have h1:=hr j
 have Dl:j < cs.length:=by omega
 simp only [a9,bo hj,bo Dl,Option.getD_some] at h1
 exact h1.one (bj.1 h _ (List.getElem_mem Dl))
theorem XH (g:bF P fm gm G w X μ σ N fr a) {n:Nat} {p x:bq} (hc:aS P fm gm (.store n p x) o.op=true) {b off:Nat} {cs:ai} (hp:val G fr p= .ptr b off) (ho:σ.owned b=some cs)
  (hn:(val G fr x).cells.length=n) (hle:off+n<=cs.length) (dx:(val G fr x).cells.all AV.one=true) :
  Dh P fm X μ o a w .undef (σ.set b (.own (splice cs off (val G fr x).cells))):=by
 obtain ⟨dst,op,type,pos,after,guard⟩:=o
 simp only [aS] at hc
 split at hc
 case h_2=>simp at hc
 rename_i t p' x'
 simp only [ak] at hc
 obtain ⟨⟨ht,Of⟩,F1⟩:=hc
 have rp:=a8 g.glob g.rf Of
 have rx:=a8 g.glob g.rf F1
 rw [hp] at rp
 have hkn:(val G fr x).known=true:=by
  cases hv:val G fr x <;> first | rfl | (rw [hv] at dx; simp [AV.cells,AV.one] at dx)
 obtain ⟨hl,hr⟩:=rx.cells hkn
 have hs:=eC (P:=P) (w:=w) ht
 generalize nr:a.eval x'=xv at rx hl hr
 generalize hpv:a.eval p'=pv at rp
 have dy:σ.get b=some (.own cs):=by
  unfold ag.owned at ho
  split at ho <;> simp_all
 cases rp with
 | ptrDead _ _ ad hm=>have:=g.rs.dead b hm; simp [ag.cells,dy] at this
 | ptr _ _ blk base ow hm=>
  obtain ⟨cs',arr,e,h1,h2,h3,h4⟩:=g.rs.cells b blk base ow hm
  rw [dy] at h1
  cases ow with
  | false=>simp at h1
  | true=>
   simp only [if_true,ah,jS.own.injEq] at h1
   subst h1
   have Z2:xv.cells.toList.length=n:=by simp; omega
   have ER: ∀u∈xv.cells.toList,u.oneCell'=true:=s6 (cs:=(val G fr x).cells) (by simpa using hl) (fun j=>by simpa using hr j) dx
   have dH:=run_storeCells_at (P:=P) blk (base+off) e xv.cells.toList 0 arr w h2 aa ER
   simp only [Nat.add_zero] at dH
   have eA:(arr.toList.take (base+off) ++xv.cells.toList ++arr.toList.drop (base+off+xv.cells.toList.length)).toArray.size=arr.size:=by simp; omega
   refine ⟨Go.undef,_,μ, .inr ⟨?_,rfl⟩, .undef _,lh hm h2 eA,tN g.rs hm h2 eA ?_ ?_⟩
   ·simp only [execOp,hpv,nr,Instr.storeAt,Instr.sureAddr,storeVar,Sem.run_bind,Sem.run_pure,Result.andThen_ok,hs,Sem.run_ite]
    rw [if_neg (by simp; omega)]
    simp [dH]
   ·rw [en _ _ _ aa,eA]; omega
   ·intro j hj
    rw [en _ _ _ aa] at hj
    rw [mb _ _ _ _ aa,nQ,rV _ _ _ _ (by simp; omega)]
    by_cases hk:off<=j/\j < off+(val G fr x).cells.length
    ·rw [if_pos hk,if_pos aa]
     have e1:base+j - (base+off)=j - off:=by omega
     rw [e1]
     simpa using hr (j - off)
    ·rw [if_neg hk,if_neg aa]
     simpa using h4 j hj
end
end Go.Ab
namespace Go.Ab
open Go.RowKit
section
variable {P:Program} {fm gm:Nat->aD} {G:Nat->ai}
variable {w:World} {X:Nat->Prop} {μ:Mu} {σ σ':ag}
theorem je (z:Array Value) (n:Nat):(Builtin.zeroCells z n).size=n*z.size:=by simp [Builtin.zeroCells]
theorem HW (w:World):Below w.heap.size w w.drew:=(Below.refl w.heap.size w).drew
theorem nW {cs:ai} {blk base:Nat} (h: ∀j,j < cs.length->∃u,w.cell? ⟨blk,base+j,none⟩=some u/\RV fm w X μ (cs.getD j .undef) u) :
  ∃vs:List Value,vs.length=cs.length/\(∀j u,vs[j]? =some u->w.cell? ⟨blk,base+j,none⟩=some u)/\∀j,RV fm w X μ (cs.getD j .undef) (vs.getD j Go.undef):=by
 let f:Nat->Value:=fun j=>(w.cell? ⟨blk,base+j,none⟩).getD Go.undef
 refine ⟨(List.range cs.length).map f,by simp,fun j u hu=> ?_,fun j=> ?_⟩
 ·have hj:j < cs.length:=by
   have:=(bA.1 hu).1
   simpa using this
  obtain ⟨u',hu',_⟩:=h j hj
  simp [hj,f,hu'] at hu
  rw [hu',hu]
 ·by_cases hj:j < cs.length
  ·obtain ⟨u,hu,hr⟩:=h j hj
   have:((List.range cs.length).map f).getD j Go.undef=u:=by simp [hj,f,hu]
   rw [this]; exact hr
  ·have:cs.getD j .undef= .undef:=by rw [a9,cK aa]; rfl
   rw [this]; exact .undef _
structure FH (P:Program) (fm:Nat->aD) (w:World) (X:Nat->Prop) (μ:Mu) (sz:Nat) (tx:TypeId) (x:Value) (n:Nat) (new:ai):Prop where
 len:new.length=n*sz
 src: ∃news:List Value,Src P sz tx x n news w/\news.length=new.length/\∀j,RV fm w X μ (new.getD j .undef) (news.getD j Go.undef)
theorem tL (hS:RS (fm:=fm) σ w X μ) {sz:Nat} {x:AV} {xv:Value} (hx:RV fm w X μ x xv) {new:ai} (h:rowOf σ sz x=some new) {n:Nat} (hn:lenOf x=some n)
  (dx:new.all AV.one=true) {tx e':TypeId} (hk:P.underlying tx=some (.slice e')):FH P fm w X μ sz tx xv n new:=by
 obtain ⟨ad,len,c,rfl,hl,gH,hc⟩:=rZ hS hx h
 rw [hn] at hl
 simp only [ah] at hl
 subst hl
 refine ⟨gH,?_⟩
 rcases hc with h0 | ⟨blk,base,rfl,fS⟩
 ·subst h0
  have M6:new= []:=dW aa
  subst M6
  refine ⟨[],⟨.inl ⟨e',hk⟩,fun _=>rfl,?_,?_,by simp,fun _ hh=>by cases hh⟩,rfl,fun j=> .undef _⟩
  ·cases ad <;> simp [Builtin.firstCells,loadCells,loadCellsFrom]
  ·cases ad <;> simp [Builtin.firstCells,loadCells,loadCellsFrom]
 ·obtain ⟨vs,h1,h2,h3⟩:=nW fS
  refine ⟨vs,Src.ofSlice w hk ⟨blk,base,none⟩ n c vs aa (fun j u hu=> ?_) (s6 aa h3 dx),h1,h3⟩
  rw [dE]; exact h2 j u hu
theorem xD {s:ByteArray} {tx:TypeId} (hk:P.underlying tx=some .string):FH P fm w X μ 1 tx (.string s) s.size (af s.data.toList):=by
 refine ⟨by simp [af],byteCells s,Src.ofString w hk s,by simp [af,byteCells],fun j=> ?_⟩
 by_cases hj:j < s.size
 ·have e1:(af s.data.toList).getD j .undef= .int .u8 (s.data.toList.getD j 0).toNat:=by simp [af,hj]
  have e2:(byteCells s).getD j Go.undef= .int .u8 (s.data.toList.getD j 0).toNat:=by simp [byteCells,hj]
  rw [e1,e2]; exact .int _ _
 ·have e1:(af s.data.toList).getD j .undef= .undef:=by
   rw [a9,cK (by simp [af]; omega)]; rfl
  rw [e1]; exact .undef _
theorem Kr (hS:RS (fm:=fm) σ w X μ) (hX: ∀b,X b->b < w.heap.size) {old new:ai} {lQ news:List Value} (ho:old.length=lQ.length) (hn:new.length=news.length)
  (hor: ∀j,RV fm w X μ (old.getD j .undef) (lQ.getD j Go.undef)) (hnr: ∀j,RV fm w X μ (new.getD j .undef) (news.getD j Go.undef)) (rest:Array Value) (e:TypeId) :
  let w':=w.drew.alloc (.cells ((lQ ++news).toArray ++rest) e)
  let μ':=μ.bind σ.next (.at w.heap.size 0 true)
  Ext w μ w' μ'/\RS (fm:=fm) (σ.alloc (old ++new)) w' X μ':=by
 have hb:=HW w
 have hS':=hS.below hb
 have h:=lN (w:=w.drew) hS' hX (cs:=old ++new) (arr:=(lQ ++news).toArray ++rest) e (by simp; omega) (fun j hj=>by
  have e1:((lQ ++news).toArray ++rest).getD j Go.undef=(lQ ++news).getD j Go.undef:=by
   have:j < (lQ ++news).length:=by simp at hj ⊢; omega
   simp [Array.getElem?_append]
   simp at this
   rw [if_pos aa]
  rw [e1]
  simp only [a9,List.getElem?_append,ho]
  by_cases jq:j < lQ.length
  ·rw [if_pos jq,if_pos jq]; exact (hor j).bel hb
  ·rw [if_neg jq,if_neg jq]; exact (hnr _).bel hb)
 exact ⟨(Ext.of_below hb).trans h.1,h.2⟩
theorem Hh (hS:RS (fm:=fm) σ w X μ) {b blk base:Nat} (hm:μ b= .at blk base true) {cs:ai} (dy:σ.get b=some (.own cs)) {arr nI:Array Value} {e:TypeId}
  (j9:w.heap[blk]? =some (.cells arr e (0,0))) (eA:nI.size=arr.size) {cs':ai} {off:Nat} (hl:base+off+cs'.length<=nI.size)
  (hr: ∀j,j < cs'.length->RV fm w X μ (cs'.getD j .undef) (nI.getD (base+off+j) Go.undef)) {len c sz:Nat} (hlc:len<=c) (po:base+off+c*sz<=arr.size) :
  RV fm (w.setRow blk nI) X ((μ.bind b .dead).bind σ.next (.at blk (base+off) true)) (.sl σ.next 0 len sz none) (.slice (some ⟨blk,base+off,none⟩) len c)/\
  Ext w μ (w.setRow blk nI) ((μ.bind b .dead).bind σ.next (.at blk (base+off) true))/\
  RS (fm:=fm) ((σ.set b .dead).alloc cs') (w.setRow blk nI) X ((μ.bind b .dead).bind σ.next (.at blk (base+off) true)):=by
 have Aq:b < σ.next:=hS.lim b _ dy
 have zz:μ σ.next= .unborn:=by
  apply hS.born
  cases h:σ.get σ.next with
  | none=>rfl
  | some x=>exact absurd (hS.lim _ _ h) (Nat.lt_irrefl _)
 have Z5:(w.setRow blk nI).heap[blk]? =some (.cells nI e (0,0)):=setRow_heap w blk arr nI e (0,0) j9
 have gh:Ext w μ (w.setRow blk nI) ((μ.bind b .dead).bind σ.next (.at blk (base+off) true)):=by
  have x1:=lh (w:=w) (arr':=nI) hm j9 eA
  refine ⟨x1.os,x1.tape,x1.output,x1.size,x1.keep,x1.rows,fun b' ei bZ dZ=> ?_,fun b' ei bZ o dZ=> ?_,fun b' dZ=> ?_⟩
  ·by_cases h1:b'=σ.next
   ·simp [Mu.bind,h1] at dZ
    obtain ⟨rfl,_⟩:=dZ
    exact .inl ⟨b,base,hm⟩
   ·by_cases h2:b'=b
    ·have:b≠σ.next:=by omega
     simp [Mu.bind,h2,this] at dZ
    ·simp [Mu.bind,h1,h2] at dZ; exact .inl ⟨b',bZ,dZ⟩
  ·have h1:b'≠σ.next:=by rintro rfl; rw [zz] at dZ; simp at dZ
   by_cases h2:b'=b
   ·left; subst h2; simp [Mu.bind,h1]
   ·right; exact ⟨o,by simp [Mu.bind,h1,h2,dZ]⟩
  ·have h1:b'≠σ.next:=by rintro rfl; rw [zz] at dZ; simp at dZ
   by_cases h2:b'=b
   ·subst h2; simp [Mu.bind,h1]
   ·simp [Mu.bind,h1,h2,dZ]
 have back: ∀b' ei bZ o,((μ.bind b .dead).bind σ.next (.at blk (base+off) true)) b'= .at ei bZ o->
   (b'=σ.next/\ei=blk/\bZ=base+off/\o=true)∨(b'≠σ.next/\b'≠b/\μ b'= .at ei bZ o):=by
  intro b' ei bZ o dZ
  by_cases h1:b'=σ.next
  ·simp [Mu.bind,h1] at dZ; exact .inl ⟨h1,dZ.1.symm,dZ.2.1.symm,dZ.2.2⟩
  ·by_cases h2:b'=b
   ·have:b≠σ.next:=by omega
    simp [Mu.bind,h2,this] at dZ
   ·right; exact ⟨h1,h2,by simpa [Mu.bind,h1,h2] using dZ⟩
 have yr: ∀b',((σ.set b .dead).alloc cs').get b'=if b'=σ.next then some (.own cs') else if b'=b then some .dead else σ.get b':=by
  intro b'
  rw [cT]
  show (if b'=σ.next then _ else _)=_
  by_cases h1:b'=σ.next
  ·rw [if_pos h1,if_pos h1]
  ·rw [if_neg h1,if_neg h1,df]
 have ES:b≠σ.next:=by omega
 refine ⟨?_,gh,?_⟩
 ·have:=RV.sl (fm:=fm) (w:=w.setRow blk nI) (X:=X) (μ:=(μ.bind b .dead).bind σ.next (.at blk (base+off) true)) σ.next 0 len sz none blk (base+off) c true nI e (0,0)
   (by simp [Mu.bind]) Z5 aa hlc (.inl rfl)
  exact this
 ·refine ⟨fun b' ei bZ o dZ=> ?_,fun b' ei bZ dZ=> ?_,fun b' ei bZ dZ=> ?_,fun b1 b2 ei base1 S9 h1 h2=> ?_,fun b' ei bZ o dZ=> ?_,fun b' hb=> ?_,fun b' x hb=> ?_,fun b' hb=> ?_,fun b' dZ=> ?_,hS.tys.step (fun _ _ h=>mem_push (fun _=>by simp) (mem_push (fun _=>by simp) h)) (Nat.le_succ _) (fun b' _ _ o hb _ h=>⟨o,(back _ _ _ _ h).elim (fun k=>absurd k.1 aa) (fun k=>k.2.2)⟩) gh⟩
  ·rcases back _ _ _ _ dZ with ⟨_,rfl,_,_⟩ | ⟨_,_,h⟩
   ·simpa using hS.lt b ei base true hm
   ·simpa using hS.lt b' ei bZ o h
  ·rcases back _ _ _ _ dZ with ⟨_,rfl,_,_⟩ | ⟨_,_,h⟩
   ·exact hS.far b ei base hm
   ·exact hS.far b' ei bZ h
  ·rcases back _ _ _ _ dZ with ⟨_,_,_,h⟩ | ⟨_,_,h⟩
   ·simp at h
   ·exact rF gh (hS.lt b' ei bZ false h) (hS.frz b' ei bZ h)
  ·rcases back _ _ _ _ h1 with ⟨r1,q1,_,_⟩ | ⟨n1,m1,k1⟩ <;> rcases back _ _ _ _ h2 with ⟨r2,q2,_,_⟩ | ⟨n2,m2,k2⟩
   ·rw [r1,r2]
   ·subst q1; exact absurd (hS.inj b2 b ei S9 base k2 hm) m2
   ·subst q2; exact absurd (hS.inj b1 b ei base1 base k1 hm) m1
   ·exact hS.inj b1 b2 ei base1 S9 k1 k2
  ·rcases back _ _ _ _ dZ with ⟨h1,rfl,rfl,rfl⟩ | ⟨h1,h2,h⟩
   ·exact ⟨cs',nI,e,by rw [yr,if_pos h1]; rfl,Z5,hl,fun j hj=>(hr j hj).ext gh⟩
   ·obtain ⟨cs1,HX,e1,q1,q2,q3,q4⟩:=hS.cells b' ei bZ o h
    have fX:ei≠blk:=by
     rintro rfl
     cases o with
     | true=>exact h2 (hS.inj b' b ei bZ base h hm)
     | false=>exact hS.frz b' ei bZ h (.inr ⟨b,base,hm⟩)
    exact ⟨cs1,HX,e1,by rw [yr,if_neg h1,if_neg h2]; exact q1,by rw [setRow_other w blk ei nI fX]; exact q2,q3,fun j hj=>(q4 j hj).ext gh⟩
  ·rw [yr] at hb
   by_cases h1:b'=σ.next
   ·rw [if_pos h1] at hb; simp at hb
   ·rw [if_neg h1] at hb
    by_cases h2:b'=b
    ·rw [if_pos h2] at hb; simp at hb
    ·rw [if_neg h2] at hb; simp [Mu.bind,h1,h2,hS.born b' hb]
  ·rw [yr] at hb
   show b' < σ.next+1
   by_cases h1:b'=σ.next
   ·omega
   ·rw [if_neg h1] at hb
    by_cases h2:b'=b
    ·omega
    ·rw [if_neg h2] at hb; have:=hS.lim b' x hb; omega
  ·rw [yr] at hb
   by_cases h1:b'=σ.next
   ·rw [if_pos h1] at hb; simp at hb
   ·rw [if_neg h1] at hb
    by_cases h2:b'=b
    ·subst h2; simp [Mu.bind,h1]
    ·rw [if_neg h2] at hb; simp [Mu.bind,h1,h2,hS.gone b' hb]
  ·by_cases h1:b'=σ.next
   ·simp [Mu.bind,h1] at dZ
   ·by_cases h2:b'=b
    ·simp [ag.cells,yr,h2,ES]
    ·have QM:μ b'= .dead:=by simpa [Mu.bind,h1,h2] using dZ
     have:=hS.dead b' QM
     simp only [ag.cells,yr,if_neg h1,if_neg h2] at this ⊢
     exact this
def Tv (σ:ag) (x:AV) (e:TypeId) (w':World) (μ μ':Mu):Prop:=∀blk base o,μ' σ.next= .at blk base o->
 (base=0/\∃arr fz,w'.heap[blk]? =some (.cells arr e fz))∨∃b off l sz c Ta,x= .sl b off l sz c/\μ b= .at blk Ta true/\base=Ta+off
theorem ni (hS:RS (fm:=fm) σ w X μ) (x:AV) (e:TypeId) (w':World):Tv σ x e w' μ μ:=fun blk base o h=>by
 have:μ σ.next= .unborn:=by
  apply hS.born
  cases h:σ.get σ.next with
  | none=>rfl
  | some x=>exact absurd (hS.lim _ _ h) (Nat.lt_irrefl _)
 rw [this] at h; cases h
theorem Ad {x:AV} {e:TypeId} {w':World} {μ μ1:Mu} {k:Nat} {o:Bool} {arr:Array Value} {fz:Nat×Nat} {n:Nat} (hn:n=σ.next) (h:w'.heap[k]? =some (.cells arr e fz)):Tv σ x e w' μ (μ1.bind n (.at k 0 o)):=fun blk base o' hm=>by
 subst hn
 simp only [Mu.bind,if_true,Loc.at.injEq] at hm
 obtain ⟨rfl,rfl,rfl⟩:=hm
 exact .inl ⟨rfl,_,_,h⟩
theorem AO (hS:RS (fm:=fm) σ w X μ) (hX: ∀b,X b->b < w.heap.size) {sz bytes:Nat} {x v:AV} {xv yv:Value} {new:ai} {n:Nat} (hx:RV fm w X μ x xv)
  {t tx ty e:TypeId} {i:TypeInfo} {z:Value} (ht:P.underlying t=some (.slice e)) (hi:P.info? e=some i) (hz:i.zero=some z) (eA:i.size=sz) (F4:i.bytes=bytes) (WW:z.cells.size=sz)
  (hs:FH P fm w X μ sz tx yv n new) (h:aJ σ sz bytes x new n=some (v,σ')) :
  ∃cv w' μ',(Builtin.append_ #[t,tx] ty #[xv,yv]).run P w= .ok cv w'/\RV fm w' X μ' v cv/\Ext w μ w' μ'/\RS (fm:=fm) σ' w' X μ'/\Tv σ x e w' μ μ':=by
 obtain ⟨hlen,news,ym,hnl,hnr⟩:=hs
 subst eA F4
 unfold aJ at h
 cases jc:lenOf x with
 | none=>simp [jc] at h
 | some len=>
  simp only [jc] at h
  split at h
  case isFalse=>simp at h
  rename_i hc
  obtain ⟨hs0,E5,ET,M7,dx⟩:=hc
  have hb63:((len+n:Nat):Int)<=9223372036854775807:=by
   have:len+n<=(len+n)*i.bytes:=Nat.le_mul_of_pos_right _ E5
   unfold bg at ET
   omega
  have grow: ∀(base:Option Addr) (c:Nat) (old:ai) (lQ:List Value),old.length=lQ.length->old.length=len*i.size->(∀j,RV fm w X μ (old.getD j .undef) (lQ.getD j Go.undef))->
    (Builtin.firstCells i.size len (.slice base len c)).run P w.drew= .ok lQ.toArray w.drew->c < len+n->
    ∃cv w' μ',(Builtin.append_ #[t,tx] ty #[.slice base len c,yv]).run P w= .ok cv w'/\RV fm w' X μ' (.sl σ.next 0 (len+n) i.size none) cv/\Ext w μ w' μ'/\RS (fm:=fm) (σ.alloc (old ++new)) w' X μ'/\Tv σ x e w' μ μ':=by
   intro base c old lQ h1 h2 h3 h4 h5
   have dH:=run_append_grow_src w t tx ty e i z ht hi hz base len c lQ h4 yv n news ym h5 hb63 (growslice_fits h5 ET)
   obtain ⟨k1,k2⟩:=Kr hS hX h1 aa h3 hnr (Builtin.zeroCells z.cells (grownCap w (len+n) c e - (len+n))) e
   refine ⟨_,_,_,dH,?_,k1,k2,Ad rfl (heap_alloc_new w.drew _)⟩
   have bP:len+n<=grownCap w (len+n) c e:=by simp [grownCap,Question.cut]
   refine RV.sl σ.next 0 (len+n) i.size none w.heap.size 0 (grownCap w (len+n) c e) true _ e (0,0) (by simp [Mu.bind]) (heap_alloc_new w.drew _) ?_ bP (.inl rfl)
   simp only [Array.size_append,List.size_toArray,az,je,WW]
   have e1:lQ.length+news.length=(len+n)*i.size:=by rw [Nat.add_mul]; omega
   have e2:(grownCap w (len+n) c e - (len+n))*i.size+(len+n)*i.size=grownCap w (len+n) c e*i.size:=by rw [←Nat.add_mul]; congr 1; omega
   omega
  have none_: ∀(base:Option Addr) (c:Nat),n=0->len<=c->(Builtin.append_ #[t,tx] ty #[.slice base len c,yv]).run P w= .ok (.slice base len c) w:=by
   intro base c h0 hle
   subst h0
   have Z8:news= []:=dW aa
   subst Z8
   exact run_append_nothing w t tx ty e i ht hi base len c hle yv ym
  cases x <;> try (simp only [reduceCtorEq] at h; done)
  case e0=>
   simp only [lenOf,ah] at jc
   subst jc
   have nr: ∃base c,xv= .slice base 0 c:=by cases hx; exact ⟨_,_,rfl⟩
   obtain ⟨base,c,rfl⟩:=nr
   replace h:(if n=0 then some (AV.e0,σ) else none)=some (v,σ'):=h
   split at h
   ·rename_i h0
    simp only [ah,aI] at h
    obtain ⟨rfl,rfl⟩:=h
    exact ⟨_,w,μ,none_ base c h0 (Nat.zero_le _),hx,Ext.refl _ _,hS,ni hS _ _ _⟩
   ·simp at h
  case nils=>
   simp only [lenOf,ah] at jc
   subst jc
   have nr: ∃base,xv= .slice base 0 0:=by cases hx; exact ⟨_,rfl⟩
   obtain ⟨base,rfl⟩:=nr
   replace h:(if n=0 then some (AV.nils,σ) else some (AV.sl σ.next 0 n i.size none,σ.alloc new))=some (v,σ'):=h
   split at h
   ·rename_i h0
    simp only [ah,aI] at h
    obtain ⟨rfl,rfl⟩:=h
    exact ⟨_,w,μ,none_ base 0 h0 (aE _),hx,Ext.refl _ _,hS,ni hS _ _ _⟩
   ·rename_i h0
    simp only [ah,aI] at h
    obtain ⟨rfl,rfl⟩:=h
    obtain ⟨cv,w',μ',r1,r2,r3,r4,r5⟩:=grow base 0 [] [] rfl (by simp) (fun j=> .undef _) (by cases base <;> simp [Builtin.firstCells,loadCells,loadCellsFrom]) aa
    simp only [Nat.zero_add,List.nil_append] at r2 r4
    exact ⟨cv,w',μ',r1,r2,r3,r4,r5⟩
  case vsl els cap=>
   cases cap <;> try (simp only [reduceCtorEq] at h; done)
   rename_i c
   replace h:(if n=0 then some (.vsl els (some c),σ) else if c=els.length then (match rowOf σ i.size (.vsl els (some c)) with | some old=>some (AV.sl σ.next 0 (len+n) i.size none,σ.alloc (old ++new)) | none=>none) else none)=some (v,σ'):=h
   by_cases Hp:n=0
   ·rw [if_pos Hp] at h
    simp only [ah,aI] at h
    obtain ⟨rfl,rfl⟩:=h
    simp only [lenOf,ah] at jc
    subst jc
    have nr: ∃base c',xv= .slice base els.length c'/\els.length<=c':=by
     cases hx with
     | vslEmpty=>exact ⟨_,_,rfl,Nat.zero_le _⟩
     | vslNil=>exact ⟨_,_,rfl,Nat.zero_le _⟩
     | vsl=>exact ⟨_,_,rfl,by assumption⟩
    obtain ⟨base,c',rfl,hle⟩:=nr
    exact ⟨_,w,μ,none_ base c' Hp hle,hx,Ext.refl _ _,hS,ni hS _ _ _⟩
   rw [if_neg Hp] at h
   split at h
   case isFalse=>simp at h
   rename_i Xo
   subst Xo
   have Z8:0 < n:=by omega
   simp only [lenOf,ah] at jc
   subst jc
   cases nN:rowOf σ i.size (.vsl els (some els.length)) with
   | none=>simp [nN] at h
   | some old=>
    simp only [nN,ah,aI] at h
    obtain ⟨rfl,rfl⟩:=h
    obtain ⟨ad,cE,c',nr,zC,hol,fS⟩:=rZ hS hx nN
    simp only [lenOf,ah] at zC
    subst zC
    subst nr
    have bP:c'=els.length:=by
     cases hx with
     | vslEmpty _ _ _ bP=>
      have h0:0=c':=by simpa using bP
      exact h0.symm
     | vslNil=>rfl
     | vsl _ _ _ _ _ _ _ _ _ _ _ bP=>simp at bP; omega
    subst bP
    rcases fS with h0 | ⟨blk,base,rfl,fS⟩
    ·have hold:old= []:=dW (by rw [hol,h0]; simp)
     subst hold
     obtain ⟨cv,w',μ',r1,r2,r3,r4,r5⟩:=grow ad els.length [] [] rfl (by rw [h0]; simp) (fun j=> .undef _) (by rw [h0]; cases ad <;> simp [Builtin.firstCells,loadCells,loadCellsFrom]) aa
     exact ⟨cv,w',μ',r1,r2,r3,r4,r5⟩
    ·obtain ⟨vs,h1,h2,h3⟩:=nW fS
     obtain ⟨cv,w',μ',r1,r2,r3,r4,r5⟩:=grow (some ⟨blk,base,none⟩) els.length old vs h1.symm hol h3
      (run_firstCells_some w.drew i.size els.length _ els.length els.length vs aa (fun j u hu=>by rw [dE]; exact h2 j u hu)) aa
     exact ⟨cv,w',μ',r1,r2,r3,r4,r5⟩
  case sl b off cE j4 cap=>
   cases cap
   case some c=>
    replace h:(if n=0 then some (.sl b off cE j4 (some c),σ) else if c=cE then (match rowOf σ i.size (.sl b off cE j4 (some c)) with | some old=>some (AV.sl σ.next 0 (len+n) i.size none,σ.alloc (old ++new)) | none=>none) else none)=some (v,σ'):=h
    by_cases Hp:n=0
    ·rw [if_pos Hp] at h
     simp only [ah,aI] at h
     obtain ⟨rfl,rfl⟩:=h
     simp only [lenOf,ah] at jc
     subst jc
     have nr: ∃base c',xv= .slice base cE c'/\cE<=c':=by
      cases hx with
      | sl=>exact ⟨_,_,rfl,by assumption⟩
      | slDead=>exact ⟨_,_,rfl,by assumption⟩
      | slZero=>exact ⟨_,_,rfl,aE _⟩
     obtain ⟨base,c',rfl,hle⟩:=nr
     exact ⟨_,w,μ,none_ base c' Hp hle,hx,Ext.refl _ _,hS,ni hS _ _ _⟩
    rw [if_neg Hp] at h
    split at h
    case isFalse=>simp at h
    rename_i Xo
    subst Xo
    have Z8:0 < n:=by omega
    simp only [lenOf,ah] at jc
    subst jc
    cases nN:rowOf σ i.size (.sl b off c j4 (some c)) with
    | none=>simp [nN] at h
    | some old=>
     simp only [nN,ah,aI] at h
     obtain ⟨rfl,rfl⟩:=h
     obtain ⟨ad,len2,c',nr,zC,hol,fS⟩:=rZ hS hx nN
     simp only [lenOf,ah] at zC
     subst zC
     subst nr
     have bP:c'=c:=by
      cases hx with
      | sl _ _ _ _ _ _ _ _ _ _ _ _ _ _ _ _ bP=>simp at bP; omega
      | slDead _ _ _ _ _ _ _ hl hm=>
       have hd:=hS.dead b hm
       simp [rowOf,hd] at nN
      | slZero=>rfl
     subst bP
     rcases fS with h0 | ⟨blk,base,rfl,fS⟩
     ·have hold:old= []:=dW (by rw [hol,h0]; simp)
      subst hold
      obtain ⟨cv,w',μ',r1,r2,r3,r4,r5⟩:=grow ad c' [] [] rfl (by rw [h0]; simp) (fun j=> .undef _) (by rw [h0]; cases ad <;> simp [Builtin.firstCells,loadCells,loadCellsFrom]) aa
      exact ⟨cv,w',μ',r1,r2,r3,r4,r5⟩
     ·obtain ⟨vs,h1,h2,h3⟩:=nW fS
      obtain ⟨cv,w',μ',r1,r2,r3,r4,r5⟩:=grow (some ⟨blk,base,none⟩) c' old vs h1.symm hol h3
       (run_firstCells_some w.drew i.size c' _ c' c' vs aa (fun j u hu=>by rw [dE]; exact h2 j u hu)) aa
      exact ⟨cv,w',μ',r1,r2,r3,r4,r5⟩
   replace h:(if j4=i.size then (match σ.owned b with | some cs=>if n=0 then some (AV.sl b off cE j4 none,σ) else if cs.length=off+cE*i.size then some (AV.sl σ.next 0 (cE+n) i.size none,(σ.set b .dead).alloc (cs.drop off ++new)) else none | none=>none) else none)=some (v,σ'):=h
   split at h
   case isFalse=>simp at h
   rename_i hszz
   subst hszz
   cases how:σ.owned b with
   | none=>simp [how] at h
   | some cs=>
    simp only [how] at h
    simp only [lenOf,ah] at jc
    subst jc
    have dy:σ.get b=some (.own cs):=by
     unfold ag.owned at how
     split at how <;> simp_all
    have Aq:b < σ.next:=hS.lim b _ dy
    have nr: ∃base c,xv= .slice base cE c/\cE<=c:=by
     cases hx with
     | sl=>exact ⟨_,_,rfl,by assumption⟩
     | slDead=>exact ⟨_,_,rfl,by assumption⟩
     | slZero=>exact ⟨_,_,rfl,aE _⟩
    split at h
    ·rename_i h0
     simp only [ah,aI] at h
     obtain ⟨rfl,rfl⟩:=h
     obtain ⟨base,c,rfl,hle⟩:=nr
     exact ⟨_,w,μ,none_ base c h0 hle,hx,Ext.refl _ _,hS,ni hS _ _ _⟩
    ·rename_i h0
     split at h
     case isFalse=>simp at h
     rename_i hend
     simp only [ah,aI] at h
     obtain ⟨rfl,rfl⟩:=h
     have Xn:(cs.drop off).length=cE*i.size:=by simp; omega
     obtain ⟨kx,ks⟩:=WO hS b Aq
     have qO:(σ.set b .dead).next=σ.next:=rfl
     have QQ: ∀(base:Option Addr) (c:Nat) (lQ:List Value),(cs.drop off).length=lQ.length->(∀j,RV fm w X μ ((cs.drop off).getD j .undef) (lQ.getD j Go.undef))->
       (Builtin.firstCells i.size cE (.slice base cE c)).run P w.drew= .ok lQ.toArray w.drew->c < cE+n->
       ∃cv w' μ',(Builtin.append_ #[t,tx] ty #[.slice base cE c,yv]).run P w= .ok cv w'/\RV fm w' X μ' (.sl σ.next 0 (cE+n) i.size none) cv/\Ext w μ w' μ'/\
        RS (fm:=fm) ((σ.set b .dead).alloc (cs.drop off ++new)) w' X μ'/\Tv σ (.sl b off cE i.size none) e w' μ μ':=by
      intro base c lQ h1 h3 h4 h5
      have dH:=run_append_grow_src w t tx ty e i z ht hi hz base cE c lQ h4 yv n news ym h5 hb63 (growslice_fits h5 ET)
      obtain ⟨k1,k2⟩:=Kr ks hX h1 aa (fun j=>(h3 j).ext kx) (fun j=>(hnr j).ext kx) (Builtin.zeroCells z.cells (grownCap w (cE+n) c e - (cE+n))) e
      refine ⟨_,_,_,dH,?_,kx.trans k1,k2,Ad qO (heap_alloc_new w.drew _)⟩
      have bP:cE+n<=grownCap w (cE+n) c e:=by simp [grownCap,Question.cut]
      refine RV.sl σ.next 0 (cE+n) i.size none w.heap.size 0 (grownCap w (cE+n) c e) true _ e (0,0) (by simp [Mu.bind,qO]) (heap_alloc_new w.drew _) ?_ bP (.inl rfl)
      simp only [Array.size_append,List.size_toArray,az,je,WW]
      have e1:lQ.length+news.length=(cE+n)*i.size:=by rw [Nat.add_mul]; omega
      have e2:(grownCap w (cE+n) c e - (cE+n))*i.size+(cE+n)*i.size=grownCap w (cE+n) c e*i.size:=by rw [←Nat.add_mul]; congr 1; omega
      omega
     cases hx with
     | slDead _ _ _ _ _ ad c hl hm=>have:=hS.dead b hm; simp [ag.cells,dy] at this
     | slZero _ _ _ _ ad bP=>
      have M6:cs.drop off= []:=dW (by rw [Xn]; simp)
      refine QQ (some ad) 0 [] (by rw [M6]; rfl) (fun j=>by rw [M6]; exact .undef _) (by simp [Builtin.firstCells,loadCells,loadCellsFrom]) aa
     | sl _ _ _ _ _ blk base c ow arr el fz hm j9 po hl bP=>
      obtain ⟨cs',arr',e',q1,q2,q3,q4⟩:=hS.cells b blk base ow hm
      rw [dy] at q1
      cases ow with
      | false=>simp at q1
      | true=>
       simp only [if_true,ah,jS.own.injEq] at q1
       subst q1
       rw [j9] at q2
       simp only [ah,Obj.cells.injEq] at q2
       obtain ⟨rfl,rfl,rfl⟩:=q2
       by_cases M9:cE+n<=c
       ·
        have BA:base+off+(cE+n)*i.size<=arr.size:=by
         have:(cE+n)*i.size<=c*i.size:=Nat.mul_le_mul_right _ M9
         omega
        have hnl2:news.length=n*i.size:=by omega
        have tr:=run_storeCells_at (P:=P) blk (base+(off+cE*i.size)) el news 0 arr w j9 (by rw [Nat.add_mul] at BA; omega) ym.one
        simp only [Nat.add_zero] at tr
        have dH:(Builtin.append_ #[t,tx] ty #[.slice (some ⟨blk,base+off,none⟩) cE c,yv]).run P w= .ok (.slice (some ⟨blk,base+off,none⟩) (cE+n) c)
          (w.setRow blk (arr.toList.take (base+(off+cE*i.size)) ++news ++arr.toList.drop (base+(off+cE*i.size)+news.length)).toArray):=by
         rcases ym.kind with ⟨e',hk⟩ | hk <;>
          simp [Builtin.append_,run_underlying ht,run_underlying hk,sizeOf,typeInfo,hi,ym.len,M9,ym.cells,dE,Nat.add_assoc,tr]
        generalize E6:(arr.toList.take (base+(off+cE*i.size)) ++news ++arr.toList.drop (base+(off+cE*i.size)+news.length)).toArray=nI at dH
        have hsz2:nI.size=arr.size:=by
         rw [←E6]; simp; rw [Nat.add_mul] at BA; omega
        have hget2: ∀k,nI.getD k Go.undef=if base+(off+cE*i.size)<=k/\k < base+(off+cE*i.size)+news.length then news.getD (k - (base+(off+cE*i.size))) Go.undef else arr.getD k Go.undef:=by
         intro k
         rw [←E6,nQ,rV _ _ _ _ (by simp; rw [Nat.add_mul] at BA; omega)]
         by_cases hk:base+(off+cE*i.size)<=k/\k < base+(off+cE*i.size)+news.length
         ·rw [if_pos hk,if_pos hk]
         ·rw [if_neg hk,if_neg hk]; simp
        have Hs:=Hh hS hm dy j9 hsz2 (cs':=cs.drop off ++new) (off:=off) (by simp only [az]; rw [Nat.add_mul] at BA; omega) (fun j hj=>by
         rw [hget2]
         simp only [az] at hj
         by_cases hj1:j < (cs.drop off).length
         ·rw [if_neg aa]
          have e1:(cs.drop off ++new).getD j .undef=cs.getD (off+j) .undef:=by
           simp only [a9]
           rw [eQ hj1]; simp
          rw [e1,Nat.add_assoc]
          exact q4 (off+j) aa
         ·rw [if_pos aa]
          have e1:(cs.drop off ++new).getD j .undef=new.getD (j - cE*i.size) .undef:=by
           simp only [a9]
           rw [fK aa,Xn]
          have e2:base+off+j - (base+(off+cE*i.size))=j - cE*i.size:=by omega
          rw [e1,e2]
          exact hnr _) (len:=cE+n) (c:=c) (sz:=i.size) M9 (by
           have:c*i.size+(base+off)<=arr.size:=by omega
           omega)
        refine ⟨_,_,_,dH,Hs.1,Hs.2.1,Hs.2.2,fun ei bZ o' dZ=> .inr ⟨b,off,cE,i.size,none,base,rfl,?_⟩⟩
        simp only [Mu.bind,if_true,Loc.at.injEq] at dZ
        obtain ⟨rfl,rfl,rfl⟩:=dZ
        exact ⟨hm,rfl⟩
       ·have fS: ∀j,j < (cs.drop off).length->∃u,w.cell? ⟨blk,base+off+j,none⟩=some u/\RV fm w X μ ((cs.drop off).getD j .undef) u:=by
         intro j hj
         rw [Xn] at hj
         have aN:base+off+j < arr.size:=by omega
         refine ⟨arr.getD (base+(off+j)) Go.undef,?_,?_⟩
         ·rw [Nat.add_assoc] at aN ⊢
          simp [World.cell?,j9,aN]
         ·have:=q4 (off+j) aa
          simpa using this
        obtain ⟨vs,h1,h2,h3⟩:=nW fS
        exact QQ (some ⟨blk,base+off,none⟩) c vs h1.symm h3
         (run_firstCells_some w.drew i.size cE _ cE c vs aa (fun j u hu=>by rw [dE]; exact h2 j u hu)) aa
end
end Go.Ab
namespace Go.Ab
open Go.RowKit
section
variable {P:Program} {fm gm:Nat->aD} {G:Nat->ai}
variable {w:World} {X X':Nat->Prop} {μ μ':Mu} {σ:ag}
theorem gV {f:AV->Option AV}: ∀ {l m:ai},dt f l=some m->l.length=m.length/\∀j,j < l.length->f (l.getD j .undef)=some (m.getD j .undef)
 | [],m,h=>by simp only [dt,ah] at h; subst h; exact ⟨rfl,fun j hj=>absurd hj (by simp)⟩
 | a ::l,m,h=>by
  simp only [dt] at h
  split at h
  case h_2=>simp at h
  rename_i b hb
  split at h <;> simp only [ah,reduceCtorEq] at h
  rename_i m' hm
  subst h
  obtain ⟨h1,h2⟩:=gV hm
  refine ⟨by simp [h1],fun j hj=> ?_⟩
  cases j with
  | zero=>simpa using hb
  | succ j=>simpa using h2 j (by simpa using hj)
theorem dU: ∀ {l:ai},aB l=true->∀j,(l.getD j .undef).closed=true
 | [],_,j=>by simp [AV.closed]
 | a ::l,h,j=>by
  simp only [aB,ak] at h
  cases j with
  | zero=>simpa using h.1
  | succ j=>simpa using dU h.2 j
theorem pK: ∀ {l m:ai},aB (l ++m)=(aB l && aB m)
 | [],m=>by simp [aB]
 | a ::l,m=>by simp [aB,pK,Bool.and_assoc]
theorem BZ {a:AV}:a.closed=true->aB a.cells=true:=by
 intro h
 cases a <;> simp_all [AV.cells,aB,AV.closed]
theorem sU: ∀ {l:ai},aB l=true->aB (l.flatMap AV.cells)=true
 | [],_=>by simp [aB]
 | a ::l,h=>by
  simp only [aB,ak] at h
  simp only [List.flatMap_cons,pK,BZ h.1,sU h.2,aV]
theorem jO {v:AV} {cv:Value} (r:RV fm w X μ v cv) (h:v.closed=true) (hA: ∀blk,Av X' μ' blk->Av X μ blk):RV fm w X' μ' v cv:=by
 induction r with
 | undef v=>exact .undef v
 | bool b=>exact .bool b
 | int k n=>exact .int k n
 | str l s hs=>exact .str l s hs
 | lit v hv=>exact .lit v hv
 | fn f f' a c a' c' hf ha hc _ _ i1 i2=>
  simp only [AV.closed,ak] at h
  exact .fn f f' a c a' c' hf ha hc (fun j=>i1 j (dU h.1 j)) (fun j=>i2 j (dU h.2 j))
 | ptr=>simp [AV.closed] at h
 | ptrDead=>simp [AV.closed] at h
 | vptr cells off blk base g hAv aN hc _ ih=>
  simp only [AV.closed] at h
  exact .vptr cells off blk base g (fun h'=>hAv (hA _ h')) aN hc (fun j=>ih j (dU h j))
 | sl=>simp [AV.closed] at h
 | slDead=>simp [AV.closed] at h
 | slZero=>simp [AV.closed] at h
 | vslEmpty cap a c bP=>exact .vslEmpty cap a c bP
 | vslNil cap bP=>exact .vslNil cap bP
 | vsl els cap blk base sz c g hAv aN hs hl bP hc _ ih=>
  simp only [AV.closed] at h
  exact .vsl els cap blk base sz c g (fun h'=>hAv (hA _ h')) aN hs hl bP hc (fun j=>ih j (dU (sU h) j))
 | nils=>exact .nils
 | e0 a c=>exact .e0 a c
 | agg cs vs hl _ ih=>
  simp only [AV.closed] at h
  exact .agg cs vs hl (fun j=>ih j (dU h j))
 | tup cs vs hl _ ih=>
  simp only [AV.closed] at h
  exact .tup cs vs hl (fun j=>ih j (dU h j))
theorem nw: ∀ {l:ai},oQ l=true->∀j,(l.getD j .undef).flat=true
 | [],_,j=>by simp [AV.flat]
 | a ::l,h,j=>by
  simp only [oQ,ak] at h
  cases j with
  | zero=>simpa using h.1
  | succ j=>simpa using nw h.2 j
theorem Xw {v:AV} {cv:Value} (r:RV fm w X μ v cv) (h:v.flat=true):RV fm w X' μ' v cv:=by
 induction r with
 | undef v=>exact .undef v
 | bool b=>exact .bool b
 | int k n=>exact .int k n
 | str l s hs=>exact .str l s hs
 | lit v hv=>exact .lit v hv
 | fn f f' a c a' c' hf ha hc _ _ i1 i2=>
  simp only [AV.flat,ak] at h
  exact .fn f f' a c a' c' hf ha hc (fun j=>i1 j (nw h.1 j)) (fun j=>i2 j (nw h.2 j))
 | ptr=>simp [AV.flat] at h
 | ptrDead=>simp [AV.flat] at h
 | vptr=>simp [AV.flat] at h
 | sl=>simp [AV.flat] at h
 | slDead=>simp [AV.flat] at h
 | slZero=>simp [AV.flat] at h
 | vslEmpty cap a c bP=>exact .vslEmpty cap a c bP
 | vslNil cap bP=>exact .vslNil cap bP
 | vsl els cap blk base sz c g hAv aN hs hl bP hc _ ih=>
  cases els with
  | nil=>exact .vslEmpty cap _ _ bP
  | cons=>simp [AV.flat] at h
 | nils=>exact .nils
 | e0 a c=>exact .e0 a c
 | agg cs vs hl _ ih=>
  simp only [AV.flat] at h
  exact .agg cs vs hl (fun j=>ih j (nw h j))
 | tup cs vs hl _ ih=>
  simp only [AV.flat] at h
  exact .tup cs vs hl (fun j=>ih j (nw h j))
def Mu.none:Mu:=fun _=> .unborn
theorem ox: ∀ {l:ai},(∀j,j < l.length->(l.getD j .undef).closed=true)->aB l=true
 | [],_=>rfl
 | a ::l,h=>by
  simp only [aB,ak]
  exact ⟨by simpa using h 0 (by simp),ox (fun j hj=>by simpa using h (j+1) (by simpa using hj))⟩
theorem pJ {sz:Nat}: ∀(n:Nat) {cs:ai},aB cs=true->aB (chunks sz n cs)=true
 | 0,_,_=>rfl
 | n+1,cs,h=>by
  have hd:aB (cs.drop sz)=true:=ox (fun j _=>by
   have:=dU h (sz+j)
   simpa [List.getElem?_drop] using this)
  have ht:aB (cs.take sz)=true:=ox (fun j hj=>by
   have:=dU h j
   have Dl:j < sz:=by simp at hj; omega
   simpa [List.getElem?_take,Dl] using this)
  simp only [chunks,aB,pJ n hd,Bool.and_true]
  split
  ·cases cs with
   | nil=>rfl
   | cons c cs=>simp only [aB,ak] at h; simpa using h.1
  ·simpa [AV.closed] using ht
theorem tR: ∀(d:Nat) {v v':AV},rb σ d v=some v'->v'.closed=true
 | 0,v,v',h=>by
  simp only [rb] at h
  split at h <;> simp only [ah,reduceCtorEq] at h
  rename_i hc; subst h; exact hc
 | d+1,v,v',h=>by
  have mo: ∀ {l m:ai},dt (rb σ d) l=some m->aB m=true:=fun {l m} hm=>by
   obtain ⟨h1,h2⟩:=gV hm
   exact ox (fun j hj=>tR d (h2 j aa))
  simp only [rb] at h
  split at h
  ·rename_i hc
   simp only [ah] at h
   subst h; exact hc
  ·cases v <;> simp only [reduceCtorEq] at h
   case fn=>
    split at h <;> simp only [ah,reduceCtorEq] at h
    rename_i h1 h2
    subst h
    simp [AV.closed,mo h1,mo h2]
   case ptr=>
    split at h
    case h_2=>simp at h
    split at h <;> simp only [ah,reduceCtorEq] at h
    rename_i h1
    subst h
    simp [AV.closed,mo h1]
   case sl=>
    split at h
    case h_2=>simp at h
    split at h
    case isFalse=>simp at h
    split at h
    case h_2=>simp at h
    rename_i h1
    split at h <;> simp only [ah,reduceCtorEq] at h
    subst h
    simp only [AV.closed]
    exact pJ _ (mo h1)
   case agg=>
    split at h <;> simp only [ah,reduceCtorEq] at h
    rename_i h1
    subst h
    simp [AV.closed,mo h1]
   case tup=>
    split at h <;> simp only [ah,reduceCtorEq] at h
    rename_i h1
    subst h
    simp [AV.closed,mo h1]
theorem JD (hS:RS (fm:=fm) σ w X μ) (hX: ∀blk,X' blk->Av X μ blk) (Am: ∀b blk base o,μ b= .at blk base o->¬X' blk) :
  ∀(d:Nat) {v v':AV} {cv:Value},rb σ d v=some v'->RV fm w X μ v cv->RV fm w X' Mu.none v' cv:=by
 have hA: ∀blk,Av X' Mu.none blk->Av X μ blk:=by
  rintro blk (h | ⟨b,base,h⟩)
  ·exact hX blk h
  ·simp [Mu.none] at h
 have hnot: ∀b blk base o,μ b= .at blk base o->¬Av X' Mu.none blk:=by
  rintro b blk base o hm (h | ⟨b',bZ,h⟩)
  ·exact Am b blk base o hm h
  ·simp [Mu.none] at h
 intro d
 induction d with
 | zero=>
  intro v v' cv h r
  simp only [rb] at h
  split at h <;> simp only [ah,reduceCtorEq] at h
  rename_i hc; subst h; exact jO r hc hA
 | succ d ih=>
  intro v v' cv h r
  have mo: ∀ {l m:ai} {vs:Nat->Value},dt (rb σ d) l=some m->(∀j,j < l.length->RV fm w X μ (l.getD j .undef) (vs j))->∀j,RV fm w X' Mu.none (m.getD j .undef) (vs j):=by
   intro l m vs hm hr j
   obtain ⟨h1,h2⟩:=gV hm
   by_cases hj:j < l.length
   ·exact ih (h2 j hj) (hr j hj)
   ·have:m.getD j .undef= .undef:=by rw [a9,cK aa]; rfl
    rw [this]; exact .undef _
  simp only [rb] at h
  split at h
  ·rename_i hc
   simp only [ah] at h
   subst h; exact jO r hc hA
  ·cases r with
   | undef | bool | int | str | lit | vptr | vslEmpty | vslNil | vsl | nils | e0=>simp at h
   | fn f f' a c a' c' hf ha hc h1 h2=>
    simp only at h
    split at h <;> simp only [ah,reduceCtorEq] at h
    rename_i m1 m2 e1 e2
    subst h
    exact .fn f f' _ _ a' c' hf (by rw [←(gV e1).1,ha]) (by rw [←(gV e2).1,hc]) (mo e1 (fun j _=>h1 j)) (mo e2 (fun j _=>h2 j))
   | agg cs vs hl hr=>
    simp only at h
    split at h <;> simp only [ah,reduceCtorEq] at h
    rename_i m1 e1
    subst h
    exact .agg _ vs (by rw [←(gV e1).1,hl]) (mo e1 (fun j _=>hr j))
   | tup cs vs hl hr=>
    simp only at h
    split at h <;> simp only [ah,reduceCtorEq] at h
    rename_i m1 e1
    subst h
    exact .tup _ vs (by rw [←(gV e1).1,hl]) (mo e1 (fun j _=>hr j))
   | ptrDead b off ad hm=>simp [hS.dead b hm] at h
   | ptr b off blk base o hm=>
    obtain ⟨cs,arr,e,h1,h2,h3,h4⟩:=hS.cells b blk base o hm
    have hc:σ.cells b=some cs:=by cases o <;> simp [ag.cells,h1]
    simp only [hc] at h
    split at h <;> simp only [ah,reduceCtorEq] at h
    rename_i m1 e1
    subst h
    obtain ⟨l1,_⟩:=gV e1
    exact .vptr m1 off blk base (fun j=>arr.getD (base+j) Go.undef) (hnot b blk base o hm) (hS.lt b blk base o hm)
     (fun j hj=>by
      have:base+j < arr.size:=by omega
      simp [World.cell?,h2,this])
     (mo e1 (fun j hj=>h4 j hj))
   | slDead b off len sz cap ad c hl hm=>simp [hS.dead b hm] at h
   | slZero b off sz cap ad bP=>
    simp only at h
    split at h
    case h_2=>simp at h
    split at h
    case isFalse=>simp at h
    split at h
    case h_2=>simp at h
    split at h <;> simp only [ah,reduceCtorEq] at h
    subst h
    exact .vslEmpty none _ _ (.inl rfl)
   | sl b off len sz cap blk base c o arr e fz hm hb po hl bP=>
    obtain ⟨cs,arr',e',h1,h2,h3,h4⟩:=hS.cells b blk base o hm
    have hc:σ.cells b=some cs:=by cases o <;> simp [ag.cells,h1]
    rw [hb] at h2
    simp only [ah,Obj.cells.injEq] at h2
    obtain ⟨rfl,rfl,rfl⟩:=h2
    simp only [hc] at h
    split at h
    case isFalse=>simp at h
    rename_i aA
    obtain ⟨hle,eA⟩:=aA
    split at h
    case h_2=>simp at h
    rename_i m1 e1
    split at h <;> simp only [ah,reduceCtorEq] at h
    rename_i W7
    subst h
    obtain ⟨l1,_⟩:=gV e1
    have Hq:m1.length=len*sz:=by rw [←l1]; simp; omega
    obtain ⟨f1,f2,f3⟩:=kq eA len m1 Hq W7
    have:=RV.vsl (fm:=fm) (w:=w) (X:=X') (μ:=Mu.none) (chunks sz len m1) none blk (base+off) sz c (fun j=>arr.getD (base+(off+j)) Go.undef) (hnot b blk base o hm) (hS.lt b blk base o hm) f3
     aa (.inl rfl)
     (by
      intro j hj
      rw [f2] at hj
      have:base+(off+j) < arr.size:=by omega
      rw [Nat.add_assoc]
      simp [World.cell?,hb,this])
     (by
      rw [f1]
      exact mo e1 (fun j hj=>by
       rw [l1,Hq] at hj
       have e2:((cs.drop off).take (len*sz)).getD j .undef=cs.getD (off+j) .undef:=by simp [hj]
       rw [e2]
       exact h4 (off+j) aa))
    rw [f2] at this
    exact this
theorem lF (l:ai) (j:Nat):(dT l).getD j .undef=(l.getD j .undef).er:=by
 rw [iq]
 simp only [a9,bO]
 cases l[j]? <;> rfl
theorem Fl (v:AV):v.er.cells=v.cells.map AV.er:=by
 cases v <;> simp [AV.er,AV.cells,iq]
theorem St (l:ai):(dT l).flatMap AV.cells=(l.flatMap AV.cells).map AV.er:=by
 rw [iq]
 induction l with
 | nil=>rfl
 | cons v l ih=>simp [Fl,ih]
theorem Fk {v:AV} {cv:Value} (r:RV fm w X μ v cv):RV fm w X μ v.er cv:=by
 induction r with
 | undef v=>exact .undef v
 | bool b=>exact .bool b
 | int k n=>exact .int k n
 | str l s hs=>exact .str l s hs
 | lit v hv=>exact .lit v hv
 | fn f f' a c a' c' hf ha hc _ _ i1 i2=>
  exact .fn f f' _ _ a' c' hf (by simp [iq,ha]) (by simp [iq,hc]) (fun j=>by rw [lF]; exact i1 j) (fun j=>by rw [lF]; exact i2 j)
 | ptr b off blk base o h=>exact .ptr b off blk base o h
 | ptrDead b off x h=>exact .ptrDead b off x h
 | vptr cells off blk base g hAv aN hc _ ih=>
  exact .vptr _ off blk base g hAv aN (fun j hj=>hc j (by simpa [iq] using hj)) (fun j=>by rw [lF]; exact ih j)
 | sl b off len sz cap blk base c o arr e fz h hb hr hl bP=>exact .sl b off len sz cap blk base c o arr e fz h hb hr hl bP
 | slDead b off len sz cap a c hl h=>exact .slDead b off len sz cap a c hl h
 | slZero b off sz cap a bP=>exact .slZero b off sz cap a bP
 | vslEmpty cap a c bP=>exact .vslEmpty none a c (.inl rfl)
 | vslNil cap bP=>exact .vslNil none (.inl rfl)
 | vsl els cap blk base sz c g hAv aN hs hl bP hc _ ih=>
  have hlen:(dT els).length=els.length:=by simp [iq]
  have:=RV.vsl (fm:=fm) (w:=w) (X:=X) (μ:=μ) (dT els) none blk base sz c g hAv aN
   (by
    intro x hx
    rw [iq] at hx
    obtain ⟨y,hy,rfl⟩:=List.mem_map.1 hx
    rw [Fl,aH]
    exact hs y hy) aa (.inl rfl) (by rw [hlen]; exact hc)
   (by
    intro j
    have e1:((dT els).flatMap AV.cells).getD j .undef=((els.flatMap AV.cells).getD j .undef).er:=by
     rw [St,←iq,lF]
    rw [e1]; exact ih j)
  rw [hlen] at this
  exact this
 | nils=>exact .vslNil none (.inl rfl)
 | e0 a c=>exact .vslEmpty none a c (.inl rfl)
 | agg cs vs hl _ ih=>exact .agg _ vs (by simp [iq,hl]) (fun j=>by rw [lF]; exact ih j)
 | tup cs vs hl _ ih=>exact .tup _ vs (by simp [iq,hl]) (fun j=>by rw [lF]; exact ih j)
end
end Go.Ab
namespace Go.Ab
open Go.RowKit
section
variable (P:Program) (fm gm:Nat->aD)
def pr (ops:Array Oper):Option (Nat×Bool)->Option (Nat×Bool)->Bool
 | none,none=>true
 | some (t,b),some (j,b')=>(b == b') && (match ops[j]? with
  | some o=>o.dst == some t
  | none=>false)
 | _,_=>false
def su (N:Nat) (ops:Array Oper) (io:aZ) (o:Oper):Bool:=
 (io.dst == o.dst) && (match o.dst with | some d=>decide (d < N) | none=>true) && pr ops io.guard o.guard && aS P fm gm io.op o.op
def eG (N:Nat) (ops:Array Oper):List aZ->List Oper->Bool
 | [], []=>true
 | io ::r,o ::s=>su P fm gm N ops io o && eG N ops r s
 | _,_=>false
def dz (dc:List aZ->Array Oper->Bool) (N:Nat):an->Code->Bool
 | .skip, .skip=>true
 | .region ops, .region _ ops' draw=>eG P fm gm N ops' ops ops'.toList && (!draw || dc ops ops')
 | .seq a b, .seq a' b'=>dz dc N a a' && dz dc N b b'
 | .cond c a b, .cond c' a' b'=>bh fm gm c c' && dz dc N a a' && dz dc N b b'
 | .block id c, .block id' c'=>(id == id') && dz dc N c c'
 | .loop _ c, .loop c'=>dz dc N c c'
 | .keep _ c,c'=>dz dc N c c'
 | .frz _ c,c'=>dz dc N c c'
 | .arity _ _,_=>false
 | .exit id, .exit id'=>id == id'
 | .ret, .ret=>true
 | .stop,_=>true
 | _,_=>false
def kC:List NX->List ResultVar->Bool
 | [], []=>true
 | .tmp t ::r, .tmp t' ::s=>(t == t') && kC r s
 | .cell t n ::r, .cell t' ty ::s=>(t == t') && jE P ty n && kC r s
 | _,_=>false
def BE (dc:List aZ->Array Oper->Bool) (F:aq) (f:Nat):Bool:=
 match P.funcs[f]? with
 | some fn=>(match fn.body with
  | some c=>dz P fm gm dc fn.ntmps F.body c
  | none=>false) && kC P F.res fn.results.toList && (fn.name != "runtime.NumGoroutine")
 | none=>false
end
section
variable {P:Program} {fm gm:Nat->aD} {G:Nat->ai} {ip:Nat->Option aq}
inductive nM (ip:Nat->Option aq) (G:Nat->ai) (n:Nat):List aZ->Fr->ag->Fr->ag->Prop
 | nil (fr:Fr) (σ:ag):nM ip G n [] fr σ fr σ
 | step (o:aZ) (os:List aZ) (fr fr':Fr) (σ σ1 σ':ag) (v:AV) (m:Nat) (hm:m < n) (hw:wanted o.guard fr=some true)
   (hd:bz ip G (run ip G m) o.op fr σ=some (v,σ1)) (t:nM ip G n os (fr.put o.dst v) σ1 fr' σ'):nM ip G n (o ::os) fr σ fr' σ'
 | skip (o:aZ) (os:List aZ) (fr fr':Fr) (σ σ':ag) (hw:wanted o.guard fr=some false)
   (t:nM ip G n os (fr.put o.dst (.tup [])) σ fr' σ'):nM ip G n (o ::os) fr σ fr' σ'
theorem nM.mono {n m:Nat} (h:n<=m) {os:List aZ} {fr fr':Fr} {σ σ':ag} (x:nM ip G n os fr σ fr' σ'):nM ip G m os fr σ fr' σ':=by
 induction x with
 | nil fr σ=>exact .nil fr σ
 | step o os fr fr' σ σ1 σ' v k hm hw hd _ ih=>exact .step o os fr fr' σ σ1 σ' v k aa hw hd ih
 | skip o os fr fr' σ σ' hw _ ih=>exact .skip o os fr fr' σ σ' hw ih
theorem A7: ∀(n:Nat) (os:List aZ) (k:List Item) (fr fr':Fr) (σ σ':ag),run ip G n (.ops os ::k) fr σ=some (fr',σ')->
  ∃m rL σ1,m < n/\nM ip G n os fr σ rL σ1/\run ip G m k rL σ1=some (fr',σ')
 | 0,os,k,fr,fr',σ,σ',h=>by simp [run] at h
 | n+1, [],k,fr,fr',σ,σ',h=>by
  simp only [run] at h
  exact ⟨n,fr,σ,by omega, .nil fr σ,h⟩
 | n+1,o ::os,k,fr,fr',σ,σ',h=>by
  simp only [run] at h
  split at h
  ·rename_i hw
   split at h
   case h_2=>simp at h
   rename_i v σ1 hd
   obtain ⟨m,rL,σ2,h1,h2,h3⟩:=A7 n os k _ fr' σ1 σ' h
   exact ⟨m,rL,σ2,by omega, .step o os fr rL σ σ1 σ2 v n aa hw hd (h2.mono aa),h3⟩
  ·rename_i hw
   obtain ⟨m,rL,σ2,h1,h2,h3⟩:=A7 n os k _ fr' σ σ' h
   exact ⟨m,rL,σ2,by omega, .skip o os fr rL σ σ2 hw (h2.mono aa),h3⟩
  ·simp at h
structure Out (fm:Nat->aD) (N:Nat) (X:Nat->Prop) (w:World) (μ:Mu) (a:Act) (fr':Fr) (σ':ag) (a':Act) (w':World) (μ':Mu):Prop where
 rf:RF (fm:=fm) N fr' a'.tmps w' X μ'
 rs:RS (fm:=fm) σ' w' X μ'
 ext:Ext w μ w' μ'
 defers:a'.defers=a.defers
def T5 (P:Program) (fm:Nat->aD) (X:Nat->Prop) (μ:Mu) (f:FuncId) (args:Array Value) (w:World) (r:AV) (σ':ag):Prop:=
 Calls P f args w fun e w'=>∃cv μ',e= .returned cv/\RV fm w' X μ' r cv/\RS (fm:=fm) σ' w' X μ'/\Ext w μ w' μ'
def fV (P:Program) (fm gm:Nat->aD) (G:Nat->ai) (ip:Nat->Option aq) (n:Nat):Prop:=
 ∀(m:Nat),m < n->∀(X:Nat->Prop) (μ:Mu) (w:World) (σ σ':ag) (id:Nat) (first args caps:ai) (r:AV),
  dj ip (run ip G m) (.fn id first caps) args σ=some (r,σ')->dM fm gm G w X μ->RS (fm:=fm) σ w X μ->(∀b,X b->b < w.heap.size)->
  ∀(f':FuncId) (cV args' eo:Array Value),fm id=some f'->first.length=cV.size->args.length=args'.size->caps.length=eo.size->
   (∀j,RV fm w X μ (first.getD j .undef) (cV.getD j Go.undef))->(∀j,RV fm w X μ (args.getD j .undef) (args'.getD j Go.undef))->(∀j,RV fm w X μ (caps.getD j .undef) (eo.getD j Go.undef))->
   (∃fn,P.funcs[f']? =some fn/\fn.body.isSome=true/\fn.name≠ "runtime.NumGoroutine")/\T5 P fm X μ f' (cV ++args' ++eo) w r σ'
end
end Go.Ab
namespace Go.Ab
open Go.RowKit
section
variable {P:Program} {fm gm:Nat->aD} {G:Nat->ai} {ip:Nat->Option aq}
variable {w:World} {X:Nat->Prop} {μ:Mu} {σ σ':ag} {N:Nat} {fr:Fr} {a:Act} {o:Oper} {v:AV}
def Ce (P:Program) (fm:Nat->aD) (X:Nat->Prop) (μ:Mu) (o:Oper) (a:Act) (w:World) (v:AV) (σ':ag):Prop:=
 ∀(next:Act->World->Prop) (Q:Exit->Act->World->Prop),
  (∀cv w' μ',RV fm w' X μ' v cv->Ext w μ w' μ'->RS (fm:=fm) σ' w' X μ'->next (a.put o.dst cv) w')->o.wp P a w next Q
def KO (P:Program) (fm:Nat->aD) (X:Nat->Prop) (μ:Mu) (o:Oper) (a:Act) (w:World) (v:AV):Prop:=
 ∀(next:Act->World->Prop) (Q:Exit->Act->World->Prop),
  (∀cv w',RV fm w' X μ v cv->Below w.heap.size w w'->next (a.put o.dst cv) w')->o.wp P a w next Q
theorem KO.of_yld (h:cW P fm X μ o a w v):KO P fm X μ o a w v:=by
 intro next Q hk
 obtain ⟨cv,w',h1,h2,h3⟩:=h
 unfold Oper.wp
 rw [h1]; exact hk cv w' h2 h3
theorem KO.opWp (g:bF P fm gm G w X μ σ N fr a) (h:KO P fm X μ o a w v):Ce P fm X μ o a w v σ:=by
 intro next Q hk
 exact h next Q (fun cv w' h1 h2=>hk cv w' μ h1 (Ext.of_below h2) (g.rs.below h2))
theorem Ce.of_eff (h:Dh P fm X μ o a w v σ'):Ce P fm X μ o a w v σ':=by
 intro next Q hk
 obtain ⟨cv,w',μ',h1,h2,h3,h4⟩:=h
 unfold Oper.wp
 rcases h1 with h1 | ⟨h1,rfl⟩
 ·rw [h1]; exact hk cv w' μ' h2 h3 h4
 ·rw [h1]; exact hk _ w' μ' h2 h3 h4
theorem Dw {n:Nat} {p x v:AV} (h:fN σ n p x=some (v,σ')):σ'=σ:=by
 unfold fN at h
 split at h
 ·split at h
  ·split at h <;> simp only [ah,aI,reduceCtorEq] at h
   exact h.2.symm
  ·cases h
 ·cases h
theorem rX: ∀ {l m:ai},fP l m=true->l.length=m.length/\∀j,j < l.length->∃k z,l.getD j .undef= .int k z/\m.getD j .undef= .int k z
 | [], [],_=>⟨rfl,fun j h=>by simp at h⟩
 | .int k z ::l, .int k' z' ::m,h=>by
  simp only [fP,ak,beq_iff_eq] at h
  obtain ⟨⟨rfl,rfl⟩,h⟩:=h
  obtain ⟨h1,h2⟩:=rX h
  refine ⟨by simp [h1],fun j hj=> ?_⟩
  cases j with
  | zero=>exact ⟨_,_,rfl,rfl⟩
  | succ j=>simpa using h2 j (by simpa using hj)
 | [],_ ::_,h=>by simp [fP] at h
 | _ ::_, [],h=>by simp [fP] at h
 | .undef ::_,_ ::_,h | .bool _ ::_,_ ::_,h | .str _ ::_,_ ::_,h | .lit _ ::_,_ ::_,h | .fn .. ::_,_ ::_,h | .ptr .. ::_,_ ::_,h | .vptr .. ::_,_ ::_,h | .sl .. ::_,_ ::_,h | .vsl .. ::_,_ ::_,h | .e0 ::_,_ ::_,h | .nils ::_,_ ::_,h | .agg _ ::_,_ ::_,h | .tup _ ::_,_ ::_,h=>by simp [fP] at h
 | .int _ _ ::_, .undef ::_,h | .int _ _ ::_, .bool _ ::_,h | .int _ _ ::_, .str _ ::_,h | .int _ _ ::_, .lit _ ::_,h | .int _ _ ::_, .fn .. ::_,h | .int _ _ ::_, .ptr .. ::_,h | .int _ _ ::_, .vptr .. ::_,h | .int _ _ ::_, .sl .. ::_,h | .int _ _ ::_, .vsl .. ::_,h | .int _ _ ::_, .e0 ::_,h | .int _ _ ::_, .nils ::_,h | .int _ _ ::_, .agg _ ::_,h | .int _ _ ::_, .tup _ ::_,h=>by simp [fP] at h
theorem DD {w:World} {blk:Nat} {arr:Array Value} {e:TypeId} {fz:Nat×Nat} (h:w.heap[blk]? =some (.cells arr e fz)):w.setRow blk arr=w:=by
 have key:(w.setRow blk arr).heap=w.heap:=by
  apply Array.ext_getElem?
  intro i
  show (w.heap.modify blk _)[i]? =_
  rw [Array.getElem?_modify]
  split
  ·rename_i hi; subst hi; rw [h]; rfl
  ·rfl
 have e:w.setRow blk arr= { w with heap:=(w.setRow blk arr).heap }:=rfl
 rw [e,key]
theorem Ef (g:bF P fm gm G w X μ σ N fr a) {n:Nat} {p x:bq} (hc:aS P fm gm (.storeS n p x) o.op=true) (h:fN σ n (val G fr p) (val G fr x)=some (v,σ')):KO P fm X μ o a w v:=by
 obtain ⟨dst,op,type,pos,after,guard⟩:=o
 simp only [aS] at hc
 split at hc
 case h_2=>simp at hc
 rename_i t p' x'
 simp only [ak] at hc
 obtain ⟨⟨ht,Of⟩,F1⟩:=hc
 have rp:=a8 g.glob g.rf Of
 have rx:=a8 g.glob g.rf F1
 generalize val G fr p=pa at rp h
 unfold fN at h
 split at h
 case h_2=>cases h
 rename_i b off
 split at h
 case h_2=>cases h
 rename_i cs lC
 split at h <;> simp only [ah,aI,reduceCtorEq] at h
 rename_i aA
 obtain ⟨hle,hn,vj,how⟩:=aA
 obtain ⟨rfl,rfl⟩:=h
 obtain ⟨cs',ho⟩:=Option.isSome_iff_exists.1 how
 have dy:σ.get b=some (.own cs'):=by
  unfold ag.owned at ho
  split at ho
  ·rename_i hh; rw [hh]; rw [br ho]
  ·cases ho
 obtain rfl:cs'=cs:=by unfold ag.cells at lC; rw [dy] at lC; exact br lC
 obtain ⟨wk,Ub⟩:=rX vj
 have htl:((cs'.drop off).take n).length=n:=by simp; omega
 have dx:(val G fr x).cells.all AV.one=true:=by
  rw [bj]
  intro y hy
  obtain ⟨j,hj,rfl⟩:=List.getElem_of_mem hy
  obtain ⟨k,z,_,h2⟩:=Ub j aa
  rw [a9,bo hj] at h2
  simp only [Option.getD_some] at h2
  rw [h2]; rfl
 have hkn:(val G fr x).known=true:=by
  cases hv:val G fr x <;> first | rfl | (rw [hv] at dx; simp [AV.cells,AV.one] at dx)
 obtain ⟨hl,hr⟩:=rx.cells hkn
 have hs:=eC (P:=P) (w:=w) ht
 generalize nr:a.eval x'=xv at rx hl hr
 generalize hpv:a.eval p'=pv at rp
 cases rp with
 | ptrDead _ _ ad hm=>have:=g.rs.dead b hm; simp [ag.cells,dy] at this
 | ptr _ _ blk base ow hm=>
  obtain ⟨cs2,arr,e,h1,h2,h3,h4⟩:=g.rs.cells b blk base ow hm
  rw [dy] at h1
  cases ow with
  | false=>simp at h1
  | true=>
   simp only [if_true,ah,jS.own.injEq] at h1
   subst h1
   have Z2:xv.cells.toList.length=n:=by simp; omega
   have ER: ∀u∈xv.cells.toList,u.oneCell'=true:=s6 (cs:=(val G fr x).cells) (by simpa using hl) (fun j=>by simpa using hr j) dx
   have dH:=run_storeCells_at (P:=P) blk (base+off) e xv.cells.toList 0 arr w h2 aa ER
   simp only [Nat.add_zero] at dH
   have E6:(arr.toList.take (base+off) ++xv.cells.toList ++arr.toList.drop (base+off+xv.cells.toList.length)).toArray=arr:=by
    apply Array.ext'
    have Hj:xv.cells.toList=(arr.toList.drop (base+off)).take n:=by
     apply List.ext_getElem?
     intro j
     by_cases hj:j < n
     ·obtain ⟨k,z,q1,q2⟩:=Ub j aa
      have r1:=hr j
      rw [q2] at r1
      have r2:=h4 (off+j) aa
      have q3:cs'.getD (off+j) .undef= .int k z:=by
       rw [←q1]
       simp only [a9,List.getElem?_take,List.getElem?_drop,if_pos hj]
      rw [q3] at r2
      have hja:base+off+j < arr.size:=by omega
      have hjx:j < xv.cells.size:=by have:=Z2; simp at this; omega
      have w1:xv.cells.getD j Go.undef= .int k z:=by
       generalize xv.cells.getD j Go.undef=u at r1; cases r1; rfl
      have w2:arr.getD (base+(off+j)) Go.undef= .int k z:=by
       generalize arr.getD (base+(off+j)) Go.undef=u at r2; cases r2; rfl
      rw [←Nat.add_assoc] at w2
      rw [List.getElem?_take,if_pos hj,List.getElem?_drop]
      simp [hjx] at w1
      simp [hja] at w2
      simp [hjx,hja,w1,w2]
     ·rw [cK aa,cK (by simp; omega)]
    rw [Z2]
    show arr.toList.take (base+off) ++xv.cells.toList ++arr.toList.drop (base+off+n)=arr.toList
    have hd:arr.toList.drop (base+off+n)=(arr.toList.drop (base+off)).drop n:=by rw [List.drop_drop]
    rw [Hj,hd,bf,ep,ep]
   rw [E6,DD h2] at dH
   intro next Q hk
   unfold Oper.wp
   have hex:(execOp a.eval ⟨dst, .store t p' x',type,pos,after,guard⟩).run P w= .ok .skip w:=by
    simp only [execOp,hpv,nr,Instr.storeAt,Instr.sureAddr,storeVar,Sem.run_bind,Sem.run_pure,Result.andThen_ok,hs,Sem.run_ite]
    rw [if_neg (by simp; omega)]
    simp [dH]
   rw [hex]; exact hk _ w (.undef _) (Below.refl _ _)
theorem Sv (g:bF P fm gm G w X μ σ N fr a) {sz bytes:Nat} {str:Bool} {x y:bq} (hc:aS P fm gm (.append sz bytes str x y) o.op=true) {run:kr}
  (h:bz ip G run (.append sz bytes str x y) fr σ=some (v,σ')):Dh P fm X μ o a w v σ':=by
 obtain ⟨dst,op,type,pos,after,guard⟩:=o
 simp only [aS] at hc
 split at hc
 case h_2=>simp at hc
 rename_i args argTypes
 simp only [ak] at hc
 obtain ⟨⟨hx,h0⟩,h1⟩:=hc
 obtain ⟨x',y',rfl,nt,WX⟩:=nJ hx
 have rx:=a8 g.glob g.rf nt
 have ry:=a8 g.glob g.rf WX
 unfold nK at h0 h1
 cases wo:argTypes[0]? with
 | none=>simp [wo] at h0
 | some t=>
  cases Ok:argTypes[1]? with
  | none=>simp [Ok] at h1
  | some tx=>
   simp only [wo] at h0
   simp only [Ok] at h1
   split at h0
   case h_2=>simp at h0
   rename_i e hu
   cases hi:P.info? e with
   | none=>simp [hi] at h0
   | some i=>
    simp only [hi,ak,beq_iff_eq] at h0
    obtain ⟨⟨eA,F4⟩,hz⟩:=h0
    cases QH:i.zero with
    | none=>simp [QH] at hz
    | some z=>
     simp only [QH,beq_iff_eq] at hz
     have hsz2:argTypes.size≥2:=by
      have:=(Array.getElem?_eq_some_iff.1 Ok).1
      omega
     have iD: ∀(av:Array Value),Builtin.append_ argTypes type av=Builtin.append_ #[t,tx] type av:=by
      intro av
      unfold Builtin.append_
      simp only [wo,Ok]
      rfl
     have fin: ∀(new:ai) (n:Nat),FH P fm w X μ sz tx (a.eval y') n new->aJ σ sz bytes (val G fr x) new n=some (v,σ')->
       Dh P fm X μ ⟨dst, .call { callee:= .builtin .append,args:=#[x',y'],argTypes:=argTypes },type,pos,after,guard⟩ a w v σ':=by
      intro new n hs dI
      obtain ⟨cv,w',μ',r1,r2,r3,r4,_⟩:=AO (P:=P) (ty:=type) g.rs g.out rx hu hi QH eA F4 (by rw [hz]) hs dI
      refine ⟨cv,w',μ', .inl ?_,r2,r3,r4⟩
      simp [execOp,resolve,invoke,builtin,iD,r1]
     simp only [bz] at h
     split at h1
     ·rename_i WY
      subst h1
      simp only [if_true] at h
      generalize ZY:val G fr y=yv at ry h
      split at h
      case h_2=>simp at h
      rename_i s
      split at h
      case isFalse=>simp at h
      rename_i hsz1
      subst hsz1
      generalize hyc:a.eval y'=yc at ry fin
      cases ry with
      | str _ b hb=>
       have hl:s.length=b.size:=by rw [←hb]; simp
       rw [←hb] at h
       have:=xD (P:=P) (fm:=fm) (w:=w) (X:=X) (μ:=μ) (s:=b) WY
       refine fin _ _ this ?_
       rw [show b.size=b.data.toList.length from by simp]
       exact h
     ·rename_i e' WY
      simp only [Bool.not_eq_true'] at h1
      subst h1
      simp only [aX,if_false] at h
      split at h
      case h_2=>simp at h
      rename_i n new hn nN
      have dx:new.all AV.one=true:=by
       unfold aJ at h
       split at h
       ·simp at h
       ·split at h
        ·rename_i aA; exact aA.2.2.2.2
        ·simp at h
      exact fin _ _ (tL g.rs ry nN hn dx WY) h
     ·simp at h1
theorem tO {dst:Option Tmp} {c:Call} {type:TypeId} {pos:String} {after:Array Edge} {guard:Option (Nat×Bool)} {fo:Operand} (hcal:c.callee= .value fo)
  {f':FuncId} {cV eo:Array Value} (hf:a.eval fo= .func (.func f') cV eo) {fn:Func} (h1:P.funcs[f']? =some fn) (h2:fn.body.isSome=true) (h3:fn.name≠ "runtime.NumGoroutine") :
  (execOp a.eval ⟨dst, .call c,type,pos,after,guard⟩).run P w= .ok (.enter f' (cV ++c.args.map a.eval ++eo)) w:=by
 have hb:fn.body.isNone=false:=by cases hb:fn.body <;> simp_all
 simp only [execOp,resolve,hcal,hf,Deferred.ofValue,Sem.run_bind,Sem.run_pure,Result.andThen_ok,invoke,callFunc,run_program,h1]
 simp [h3,hb]
theorem J0 (g:bF P fm gm G w X μ σ N fr a) {n m:Nat} (hS:fV P fm gm G ip n) (hm:m < n) {sh:tn} {f:bq} {xs:List bq} (hc:aS P fm gm (.call sh f xs) o.op=true)
  (h:dj ip (run ip G m) (val G fr f) (xs.map (val G fr)) σ=some (v,σ')):Ce P fm X μ o a w v σ':=by
 obtain ⟨dst,op,type,pos,after,guard⟩:=o
 simp only [aS] at hc
 split at hc
 case h_2=>simp at hc
 rename_i fo args argTypes
 simp only [ak] at hc
 obtain ⟨hf,hx⟩:=hc
 have rf:=a8 g.glob g.rf hf
 obtain ⟨l1,r1⟩:=rT g.glob g.rf hx
 cases Uf:val G fr f with
 | fn id first caps=>
  rw [Uf] at h rf
  generalize mU:a.eval fo=fv at rf
  cases rf with
  | fn _ f' _ _ cV eo hfm ha hcp q1 q2=>
   obtain ⟨⟨fn,k1,k2,k3⟩,bD⟩:=hS m hm X μ w σ σ' id first (xs.map (val G fr)) caps v h g.glob g.rs g.out f' cV (args.map a.eval) eo hfm ha
    (by simpa using l1) hcp q1 (fun j=>by have:=r1 j; simpa using this) q2
   intro next Q hk
   have dH:=tO (P:=P) (w:=w) (dst:=dst) (c:={ callee:= .value fo,args:=args,argTypes:=argTypes }) (type:=type) (pos:=pos) (after:=after) (guard:=guard) rfl mU k1 k2 k3
   unfold Oper.wp
   rw [dH]
   show Calls P f' _ w _
   refine Calls.mono bD ?_
   rintro e w' ⟨cv,μ',rfl,h2,h3,h4⟩
   exact hk cv w' μ' h2 h4 h3
 | _=>rw [Uf] at h; simp [dj] at h
def Mu.frozen (μ:Mu):Mu:=fun b=>match μ b with
 | .at blk base _=> .at blk base false
 | l=>l
theorem g7 (μ:Mu) (b blk base:Nat):μ.frozen b≠ .at blk base true:=by
 unfold Mu.frozen
 split <;> simp_all
theorem jK (σ:ag) (b:Nat):σ.freeze.get b=(σ.get b).map fun x=>match x with | .own cs=> .frz cs | x=>x:=by
 unfold ag.freeze ag.get
 simp only
 induction σ.m with
 | nil=>rfl
 | cons p l ih=>
  obtain ⟨i,x⟩:=p
  simp only [List.map_cons,jD]
  by_cases h:i=b
  ·rw [if_pos h,if_pos h]; rfl
  ·rw [if_neg h,if_neg h]; exact ih
theorem G7 {σ:ag} {b e:Nat} (h:(b,jS.tag e)∈σ.freeze.m):(b,jS.tag e)∈σ.m:=by
 obtain ⟨⟨i,x⟩,h1,h2⟩:=List.mem_map.1 h
 simp only [aI] at h2
 obtain ⟨rfl,h2⟩:=h2
 cases x <;> simp at h2
 subst h2; exact h1
theorem BG (σ:ag) (b:Nat):(σ.freeze1 b).next=σ.next:=by unfold ag.freeze1; split <;> rfl
theorem Ez {σ:ag} {b0 b e:Nat} (h:(b,jS.tag e)∈(σ.freeze1 b0).m):(b,jS.tag e)∈σ.m:=by
 unfold ag.freeze1 at h
 split at h
 ·exact mem_push (fun _=>by simp) h
 ·exact h
theorem Nm (hS:RS (fm:=fm) σ w X μ):Ext w μ w μ.frozen/\RS (fm:=fm) σ.freeze w X μ.frozen:=by
 have iD: ∀b blk base o,μ.frozen b= .at blk base o->o=false/\∃o',μ b= .at blk base o':=by
  intro b blk base o h
  unfold Mu.frozen at h
  split at h
  ·rename_i bl ba oo hh
   simp only [Loc.at.injEq] at h
   obtain ⟨rfl,rfl,rfl⟩:=h
   exact ⟨rfl,oo,hh⟩
  ·rename_i l hh
   exact absurd h (hh _ _ _)
 have gh:Ext w μ w μ.frozen:=by
  refine ⟨rfl,rfl,rfl,aE _,fun _ _ _=>rfl,fun _ ar _ fz h=>⟨ar,fz,h,rfl⟩,fun b blk base h=>absurd h (g7 μ b blk base),fun b blk base o h=> .inr ⟨false,by simp [Mu.frozen,h]⟩,fun b h=>by simp [Mu.frozen,h]⟩
 refine ⟨gh,?_⟩
 refine ⟨fun b blk base o h=> ?_,fun b blk base h=>absurd h (g7 μ b blk base),fun b blk base h=> ?_,fun b b' blk base bZ h=>absurd h (g7 μ b blk base),fun b blk base o h=> ?_,fun b h=> ?_,fun b x h=> ?_,fun b h=> ?_,fun b h=> ?_,hS.tys.step (fun _ _ h=>G7 h) (aE _) (fun b blk base o _ _ h=>(iD b blk base o h).2) gh⟩
 ·obtain ⟨_,o',h'⟩:=iD b blk base o h
  exact hS.lt b blk base o' h'
 ·obtain ⟨_,o',h'⟩:=iD b blk base false h
  rintro (hx | ⟨b',bZ,hx⟩)
  ·cases o' with
   | true=>exact hS.far b blk base h' hx
   | false=>exact hS.frz b blk base h' (.inl hx)
  ·exact g7 μ b' blk bZ hx
 ·obtain ⟨rfl,o',h'⟩:=iD b blk base o h
  obtain ⟨cs,arr,e,h1,h2,h3,h4⟩:=hS.cells b blk base o' h'
  exact ⟨cs,arr,e,by rw [jK,h1]; cases o' <;> rfl,h2,h3,fun j hj=>(h4 j hj).ext gh⟩
 ·rw [jK] at h
  have h':σ.get b=none:=by cases hg:σ.get b <;> simp_all
  simp [Mu.frozen,hS.born b h']
 ·rw [jK] at h
  cases hg:σ.get b with
  | none=>simp [hg] at h
  | some y=>exact hS.lim b y hg
 ·rw [jK] at h
  cases hg:σ.get b with
  | none=>simp [hg] at h
  | some y=>
   rw [hg] at h
   cases y <;> simp at h
   simp [Mu.frozen,hS.gone b hg]
 ·have h':μ b= .dead:=by
   unfold Mu.frozen at h
   split at h
   ·simp at h
   ·exact h
  have:=hS.dead b h'
  simp only [ag.cells,jK] at this ⊢
  cases hg:σ.get b with
  | none=>rfl
  | some y=>rw [hg] at this; cases y <;> simp_all
def Mu.frozen1 (μ:Mu) (b:Nat):Mu:=fun b'=>if b'=b then (match μ b with
 | .at blk base _=> .at blk base false
 | l=>l) else μ b'
theorem kf (σ:ag) (b b':Nat):(σ.freeze1 b).get b'=if b'=b then (match σ.get b with | some (.own cs)=>some (.frz cs) | x=>x) else σ.get b':=by
 unfold ag.freeze1
 by_cases h:b'=b
 ·subst h
  rw [if_pos rfl]
  split
  ·rename_i cs hg
   rw [df,if_pos rfl]
   rw [hg]
  ·rename_i hg
   cases hx:σ.get b' with
   | none=>rfl
   | some y=>cases y <;> simp_all
 ·rw [if_neg h]
  split
  ·rw [df,if_neg h]
  ·rfl
theorem yz (hS:RS (fm:=fm) σ w X μ) (b0:Nat):Ext w μ w (μ.frozen1 b0)/\RS (fm:=fm) (σ.freeze1 b0) w X (μ.frozen1 b0):=by
 have iD: ∀b blk base o,μ.frozen1 b0 b= .at blk base o->(b=b0->o=false)/\(b≠b0->μ b= .at blk base o)/\∃o',μ b= .at blk base o':=by
  intro b blk base o h
  unfold Mu.frozen1 at h
  by_cases hb:b=b0
  ·subst hb
   rw [if_pos rfl] at h
   split at h
   ·rename_i bl ba oo hh
    simp only [Loc.at.injEq] at h
    obtain ⟨rfl,rfl,rfl⟩:=h
    exact ⟨fun _=>rfl,fun hn=>absurd rfl hn,oo,hh⟩
   ·rename_i l hh
    exact absurd h (hh _ _ _)
  ·rw [if_neg hb] at h
   exact ⟨fun e=>absurd e hb,fun _=>h,o,h⟩
 have yn: ∀b blk base,μ.frozen1 b0 b= .at blk base true->b≠b0/\μ b= .at blk base true:=by
  intro b blk base h
  obtain ⟨h1,h2,_⟩:=iD b blk base true h
  have hb:b≠b0:=fun e=>by have:=h1 e; simp at this
  exact ⟨hb,h2 hb⟩
 have gh:Ext w μ w (μ.frozen1 b0):=by
  refine ⟨rfl,rfl,rfl,aE _,fun _ _ _=>rfl,fun _ ar _ fz h=>⟨ar,fz,h,rfl⟩,fun b blk base h=> .inl ⟨_,_,(yn b blk base h).2⟩,fun b blk base o h=> .inr ?_,fun b h=> ?_⟩
  ·unfold Mu.frozen1
   by_cases hb:b=b0
   ·subst hb; exact ⟨false,by simp [h]⟩
   ·exact ⟨o,by simp [hb,h]⟩
  ·unfold Mu.frozen1
   by_cases hb:b=b0
   ·subst hb; simp [h]
   ·simp [hb,h]
 refine ⟨gh,?_⟩
 refine ⟨fun b blk base o h=> ?_,fun b blk base h=>hS.far b blk base (yn b blk base h).2,fun b blk base h=> ?_,fun b b' blk base bZ h h'=>hS.inj b b' blk base bZ (yn b blk base h).2 (yn b' blk bZ h').2,fun b blk base o h=> ?_,fun b h=> ?_,fun b x h=> ?_,fun b h=> ?_,fun b h=> ?_,hS.tys.step (fun _ _ h=>Ez h) (by rw [BG]; exact aE _) (fun b blk base o _ _ h=>(iD b blk base o h).2.2) gh⟩
 ·obtain ⟨_,_,o',h'⟩:=iD b blk base o h
  exact hS.lt b blk base o' h'
 ·obtain ⟨_,h2,o',h'⟩:=iD b blk base false h
  rintro (hx | ⟨b',bZ,hx⟩)
  ·cases o' with
   | true=>exact hS.far b blk base h' hx
   | false=>exact hS.frz b blk base h' (.inl hx)
  ·obtain ⟨nu,F1⟩:=yn b' blk bZ hx
   cases o' with
   | false=>exact hS.frz b blk base h' (.inr ⟨b',bZ,F1⟩)
   | true=>
    have:=hS.inj b b' blk base bZ h' F1
    subst this
    have:=h2 nu
    rw [h'] at this; simp at this
 ·obtain ⟨h1,h2,o',h'⟩:=iD b blk base o h
  obtain ⟨cs,arr,e,k1,k2,k3,k4⟩:=hS.cells b blk base o' h'
  refine ⟨cs,arr,e,?_,k2,k3,fun j hj=>(k4 j hj).ext gh⟩
  rw [kf]
  by_cases hb:b=b0
  ·subst hb
   have:=h1 rfl
   subst this
   rw [if_pos rfl,k1]
   cases o' <;> rfl
  ·rw [if_neg hb]
   have:=h2 hb
   rw [h'] at this
   simp only [Loc.at.injEq,true_and] at this
   subst this
   exact k1
 ·rw [kf] at h
  unfold Mu.frozen1
  by_cases hb:b=b0
  ·subst hb
   rw [if_pos rfl] at h
   have h':σ.get b=none:=by cases hg:σ.get b with
    | none=>rfl
    | some y=>rw [hg] at h; cases y <;> simp at h
   simp [hS.born b h']
  ·rw [if_neg hb] at h
   simp [hb,hS.born b h]
 ·have hn:(σ.freeze1 b0).next=σ.next:=by unfold ag.freeze1; split <;> rfl
  rw [hn]
  rw [kf] at h
  by_cases hb:b=b0
  ·subst hb
   cases hg:σ.get b with
   | none=>rw [if_pos rfl,hg] at h; simp at h
   | some y=>exact hS.lim b y hg
  ·rw [if_neg hb] at h; exact hS.lim b x h
 ·rw [kf] at h
  unfold Mu.frozen1
  by_cases hb:b=b0
  ·subst hb
   rw [if_pos rfl] at h
   have h':σ.get b=some .dead:=by cases hg:σ.get b with
    | none=>rw [hg] at h; simp at h
    | some y=>rw [hg] at h; cases y <;> simp_all
   simp [hS.gone b h']
  ·rw [if_neg hb] at h
   simp [hb,hS.gone b h]
 ·have h':μ b= .dead:=by
   unfold Mu.frozen1 at h
   by_cases hb:b=b0
   ·subst hb
    rw [if_pos rfl] at h
    split at h
    ·simp at h
    ·exact h
   ·rw [if_neg hb] at h; exact h
  have:=hS.dead b h'
  simp only [ag.cells,kf] at this ⊢
  by_cases hb:b=b0
  ·subst hb
   rw [if_pos rfl]
   cases hg:σ.get b with
   | none=>rfl
   | some y=>rw [hg] at this; cases y <;> simp_all
  ·rw [if_neg hb]; exact this
theorem Hy (hS:RS (fm:=fm) σ w X μ) (v:AV): ∃μ',Ext w μ w μ'/\RS (fm:=fm) (σ.freezeV v) w X μ':=by
 unfold ag.freezeV
 split
 ·exact ⟨_,yz hS _⟩
 ·exact ⟨_,yz hS _⟩
 ·exact ⟨μ,Ext.refl _ _,hS⟩
theorem vp {fr:Fr}: ∀(ts:List Nat) {σ:ag} {μ:Mu},RS (fm:=fm) σ w X μ->∃μ',Ext w μ w μ'/\RS (fm:=fm) (ke fr ts σ) w X μ'
 | [],_,μ,hS=>⟨μ,Ext.refl _ _,hS⟩
 | t ::ts,_,_,hS=>by
  obtain ⟨μ1,x1,r1⟩:=Hy hS (fr.get t)
  obtain ⟨μ2,x2,r2⟩:=vp ts r1
  exact ⟨μ2,x1.trans x2,r2⟩
theorem Fo:RS (fm:=fm) ag.empty w X Mu.none:=by
 refine ⟨?_,?_,?_,?_,?_,?_,?_,?_,?_,fun _ _ h=>by simp [ag.empty] at h⟩ <;> intros <;> simp_all [Mu.none,ag.empty,ag.get,look]
theorem sY {w w':World} {μ':Mu} (h:Ext w Mu.none w' μ'):Below w.heap.size w w':=
 ⟨h.os,h.tape,h.output,h.size,fun k hk=>h.keep k hk (by rintro ⟨b,base,hb⟩; simp [Mu.none] at hb)⟩
theorem rb_fn {d:Nat} {x y:AV} (h:rb σ d x=some y) {id:Nat} {p q:ai} (hy:y= .fn id p q): ∃p' q',x= .fn id p' q':=by
 subst hy
 cases d with
 | zero=>
  simp only [rb] at h
  split at h <;> simp only [ah,reduceCtorEq] at h
  exact ⟨p,q,h⟩
 | succ d=>
  simp only [rb] at h
  split at h
  ·simp only [ah] at h; exact ⟨p,q,h⟩
  ·cases x <;> simp only [reduceCtorEq] at h
   case fn=>
    split at h <;> simp only [ah,reduceCtorEq,AV.fn.injEq] at h
    obtain ⟨rfl,_,_⟩:=h
    exact ⟨_,_,rfl⟩
   all_goals
    (repeat' split at h) <;> simp only [ah,reduceCtorEq] at h
theorem Wz {d:Nat} (hS:RS (fm:=fm) σ w X μ) {X':Nat->Prop} (hX: ∀blk,X' blk->Av X μ blk) (Am: ∀b blk base o,μ b= .at blk base o->¬X' blk) {l m:ai} {vs:Array Value}
  (h:dt (rb σ d) l=some m) (hr: ∀j,RV fm w X μ (l.getD j .undef) (vs.getD j Go.undef)):l.length=m.length/\∀j,RV fm w X' Mu.none (m.getD j .undef) (vs.getD j Go.undef):=by
 obtain ⟨h1,h2⟩:=gV h
 refine ⟨h1,fun j=> ?_⟩
 by_cases hj:j < l.length
 ·exact JD hS hX Am d (h2 j hj) (hr j)
 ·have:m.getD j .undef= .undef:=by rw [a9,cK aa]; rfl
  rw [this]; exact .undef _
theorem JC {d:Nat} {x:AV} (h:x.closed=true):rb σ d x=some x:=by
 cases d <;> simp [rb,h]
theorem ED {d:Nat} {l m:ai} (h:dt (rb σ d) l=some m) (hc:aB l=true):m=l:=by
 obtain ⟨h1,h2⟩:=gV h
 apply List.ext_getElem?
 intro j
 by_cases hj:j < l.length
 ·have h3:=h2 j hj
  have h4:=dU hc j
  have h5:rb σ d (l.getD j .undef)=some (l.getD j .undef):=JC h4
  rw [h5] at h3
  simp only [ah] at h3
  have Dl:j < m.length:=by omega
  simp only [a9,bo hj,bo Dl,Option.getD_some] at h3
  rw [bo hj,bo Dl,h3]
 ·rw [cK aa,cK aa]
theorem kK (g:bF P fm gm G w X μ σ N fr a) {n m:Nat} (tA:fV P fm gm G ip n) (hm:m < n) (EV: ∀(w':World) (X':Nat->Prop),Below w.heap.size w w'->(∀b,X' b->Av X μ b)->dM fm gm G w' X' Mu.none)
  {sh:tn} {f:bq} {xs:List bq} (hc:aS P fm gm (.call sh f xs) o.op=true)
  {ea st:Bool} (h:gv ip (run ip G m) ea st (val G fr f) (xs.map (val G fr)) σ=some (v,σ')):(KO P fm X μ o a w v/\σ'=σ)∨(st=false/\Ce P fm X μ o a w v σ'):=by
 obtain ⟨dst,op,type,pos,after,guard⟩:=o
 simp only [aS] at hc
 split at hc
 case h_2=>simp at hc
 rename_i fo args argTypes
 simp only [ak] at hc
 obtain ⟨hf,hx⟩:=hc
 have rf:=a8 g.glob g.rf hf
 obtain ⟨l1,r1⟩:=rT g.glob g.rf hx
 have r1': ∀j,RV fm w X μ ((xs.map (val G fr)).getD j .undef) ((args.map a.eval).getD j Go.undef):=fun j=>by have:=r1 j; simpa using this
 unfold gv at h
 split at h
 case h_2=>simp at h
 rename_i fv' args' M4 hra
 split at h
 case h_2=>simp at h
 rename_i r σ1 hsc
 split at h
 case h_2=>simp at h
 rename_i r' Kj
 have Uf: ∃id p q,fv'= .fn id p q:=by
  cases fv' with
  | fn id p q=>exact ⟨id,p,q,rfl⟩
  | _=>simp [dj,AV.er] at hsc
 obtain ⟨id,first,caps,rfl⟩:=Uf
 obtain ⟨first0,caps0,hfv0⟩:=rb_fn M4 rfl
 have key: ∀(X':Nat->Prop),(∀b,X' b->Av X μ b)->(∀b blk base o,μ b= .at blk base o->¬X' blk)∨((val G fr f).closed=true/\aB (xs.map (val G fr))=true)->
   ∃f' cV eo,a.eval fo= .func (.func f') cV eo/\(∃fn,P.funcs[f']? =some fn/\fn.body.isSome=true/\fn.name≠ "runtime.NumGoroutine")/\
    Calls P f' (cV ++args.map a.eval ++eo) w fun e w'=>∃cv,e= .returned cv/\RV fm w' X' Mu.none (if ea=true then r'.er else r') cv/\Below w.heap.size w w':=by
  intro X' hX' Kq
  have hA: ∀blk,Av X' Mu.none blk->Av X μ blk:=by
   rintro blk (hh | ⟨b,base,hh⟩)
   ·exact hX' blk hh
   ·simp [Mu.none] at hh
  have hXlt: ∀b,X' b->b < w.heap.size:=by
   intro b hb
   rcases hX' b hb with hh | ⟨b',base,hh⟩
   ·exact g.out b hh
   ·exact g.rs.lt b' b base true hh
  have rfn:RV fm w X' Mu.none (AV.fn id (dT first) (dT caps)) (a.eval fo):=by
   suffices hh:RV fm w X' Mu.none (.fn id first caps) (a.eval fo) by simpa [AV.er] using Fk hh
   rcases Kq with hl | ⟨hcf,_⟩
   ·exact JD g.rs hX' hl bK M4 rf
   ·rw [JC hcf] at M4
    simp only [ah] at M4
    rw [←M4]
    exact jO rf hcf hA
  have ZD:(xs.map (val G fr)).length=(if ea=true then dT args' else args').length/\∀j,RV fm w X' Mu.none ((if ea=true then dT args' else args').getD j .undef) ((args.map a.eval).getD j Go.undef):=by
   suffices hh:(xs.map (val G fr)).length=args'.length/\∀j,RV fm w X' Mu.none (args'.getD j .undef) ((args.map a.eval).getD j Go.undef) by
    cases ea with
    | false=>exact hh
    | true=>exact ⟨by simpa [iq] using hh.1,fun j=>by rw [if_pos rfl,lF]; exact Fk (hh.2 j)⟩
   rcases Kq with hl | ⟨_,hca⟩
   ·exact Wz g.rs hX' hl hra r1'
   ·have vj:=ED hra hca
    rw [vj]
    exact ⟨rfl,fun j=>jO (r1' j) (dU hca j) hA⟩
  generalize mU:a.eval fo=fv at rfn
  cases rfn with
  | fn _ f' _ _ cV eo hfm ha hcp q1 q2=>
   obtain ⟨Kn,bD⟩:=tA m hm X' Mu.none w .empty σ1 id (dT first) (if ea=true then dT args' else args') (dT caps) r hsc (EV w X' (Below.refl _ _) hX') Fo hXlt f' cV (args.map a.eval) eo hfm ha
    (by rw [←ZD.1]; simpa using l1) hcp q1 ZD.2 q2
   refine ⟨f',cV,eo,rfl,Kn,Calls.mono bD ?_⟩
   rintro e w' ⟨cv,μ1,rfl,h2,h3,h4⟩
   have hb:=sY h4
   have hXav: ∀blk,X' blk->Av X' μ1 blk:=fun blk hh=> .inl hh
   have Am: ∀b blk base o,μ1 b= .at blk base o->¬X' blk:=by
    intro b blk base o W9
    cases o with
    | true=>exact h3.far b blk base W9
    | false=>exact fun hh=>h3.frz b blk base W9 (.inl hh)
   refine ⟨cv,rfl,?_,hb⟩
   cases ea with
   | false=>exact JD h3 hXav Am bK Kj h2
   | true=>exact Fk (JD h3 hXav Am bK Kj h2)
 have BD:(if ea=true then r'.er else r').closed=true:=by
  cases ea with
  | false=>exact tR bK Kj
  | true=>rw [if_pos rfl,AD]; exact tR bK Kj
 have hflt:(if ea=true then r'.er else r').flat=r'.flat:=by
  cases ea with
  | false=>rfl
  | true=>rw [if_pos rfl,wz]
 generalize rm:(if ea=true then r'.er else r')=res at key h BD hflt
 have fin: ∀(X':Nat->Prop) (μ2:Mu) (σ2:ag),(∃f' cV eo,a.eval fo= .func (.func f') cV eo/\(∃fn,P.funcs[f']? =some fn/\fn.body.isSome=true/\fn.name≠ "runtime.NumGoroutine")/\
    Calls P f' (cV ++args.map a.eval ++eo) w fun e w'=>∃cv,e= .returned cv/\RV fm w' X' Mu.none res cv/\Below w.heap.size w w')->
   (∀w' cv,Below w.heap.size w w'->RV fm w' X' Mu.none res cv->RV fm w' X μ2 res cv)->Ext w μ w μ2->RS (fm:=fm) σ2 w X μ2->
   Ce P fm X μ ⟨dst, .call { callee:= .value fo,args:=args,argTypes:=argTypes },type,pos,after,guard⟩ a w res σ2:=by
  intro X' μ2 σ2 hk E3 hext2 hrs2 next Q qO
  obtain ⟨f',cV,eo,mU,⟨fn,k1,k2,k3⟩,bD⟩:=hk
  have dH:=tO (P:=P) (w:=w) (dst:=dst) (c:={ callee:= .value fo,args:=args,argTypes:=argTypes }) (type:=type) (pos:=pos) (after:=after) (guard:=guard) rfl mU k1 k2 k3
  unfold Oper.wp
  rw [dH]
  show Calls P f' _ w _
  refine Calls.mono bD ?_
  rintro e w' ⟨cv,rfl,h2,h3⟩
  exact qO cv w' μ2 (E3 w' cv h3 h2) (hext2.trans (Ext.of_below h3)) (hrs2.below h3)
 have finq: ∀(X':Nat->Prop),(∃f' cV eo,a.eval fo= .func (.func f') cV eo/\(∃fn,P.funcs[f']? =some fn/\fn.body.isSome=true/\fn.name≠ "runtime.NumGoroutine")/\
    Calls P f' (cV ++args.map a.eval ++eo) w fun e w'=>∃cv,e= .returned cv/\RV fm w' X' Mu.none res cv/\Below w.heap.size w w')->
   (∀w' cv,Below w.heap.size w w'->RV fm w' X' Mu.none res cv->RV fm w' X μ res cv)->
   KO P fm X μ ⟨dst, .call { callee:= .value fo,args:=args,argTypes:=argTypes },type,pos,after,guard⟩ a w res:=by
  intro X' hk E3 next Q qO
  obtain ⟨f',cV,eo,mU,⟨fn,k1,k2,k3⟩,bD⟩:=hk
  have dH:=tO (P:=P) (w:=w) (dst:=dst) (c:={ callee:= .value fo,args:=args,argTypes:=argTypes }) (type:=type) (pos:=pos) (after:=after) (guard:=guard) rfl mU k1 k2 k3
  unfold Oper.wp
  rw [dH]
  show Calls P f' _ w _
  refine Calls.mono bD ?_
  rintro e w' ⟨cv,rfl,h2,h3⟩
  exact qO cv w' (E3 w' cv h3 h2) h3
 split at h
 ·rename_i aA
  simp only [ah,aI] at h
  obtain ⟨rfl,rfl⟩:=h
  simp only [Bool.or_eq_true,ak] at aA
  refine .inl ⟨?_,rfl⟩
  rcases aA with QS | ⟨hcf,hca⟩
  ·exact finq (fun _=>False) (key _ (fun _ hh=>hh.elim) (.inl (fun _ _ _ _ _ hh=>hh))) (fun w' cv _ hr=>Xw hr (by rw [hflt]; exact QS))
  ·exact finq (Av X μ) (key _ (fun _ hh=>hh) (.inr ⟨hcf,hca⟩)) (fun w' cv _ hr=>jO hr BD (fun blk hh=> .inl hh))
 ·split at h <;> simp only [ah,aI,reduceCtorEq] at h
  rename_i tr
  obtain ⟨rfl,rfl⟩:=h
  obtain ⟨x1,x2⟩:=Nm g.rs
  refine .inr ⟨by simpa using tr,fin X μ.frozen _ (key _ (fun _ hh=> .inl hh) (.inl (fun b blk base o W9 hx=> ?_))) (fun w' cv _ hr=>jO hr BD ?_) x1 x2⟩
  ·cases o with
   | true=>exact g.rs.far b blk base W9 hx
   | false=>exact g.rs.frz b blk base W9 (.inl hx)
  ·rintro blk (hh | ⟨b,base,hh⟩)
   ·exact .inl hh
   ·exact absurd hh (g7 μ b blk base)
theorem Bn (g:bF P fm gm G w X μ σ N fr a) {n m:Nat} (tA:fV P fm gm G ip n) (hm:m < n) (EV: ∀(w':World) (X':Nat->Prop),Below w.heap.size w w'->(∀b,X' b->Av X μ b)->dM fm gm G w' X' Mu.none)
  {sh:tn} {f:bq} {xs:List bq} (hc:aS P fm gm (.call sh f xs) o.op=true)
  {ea st:Bool} (h:gv ip (run ip G m) ea st (val G fr f) (xs.map (val G fr)) σ=some (v,σ')):Ce P fm X μ o a w v σ':=by
 rcases kK g tA hm EV hc h with ⟨h1,rfl⟩ | ⟨_,h1⟩
 ·exact h1.opWp g
 ·exact h1
theorem Et {xs:List bq} (h:dP (xs.map (val G fr))=true): ∃x,xs= [x]/\dP [val G fr x]=true:=by
 match xs,h with
 | [x],h=>exact ⟨x,rfl,h⟩
 | [],h=>simp [dP] at h
 | _ ::_ ::_,h=>simp [dP] at h
theorem G2 {w:World} {X:Nat->Prop} {μ:Mu} {x:AV} {cv:Value} (h:dP [x]=true) (r:RV fm w X μ x cv):RV fm w X μ .nils cv∨RV fm w X μ .e0 cv:=by
 cases r with
 | nils=>exact .inl .nils
 | e0 a c=>exact .inr (.e0 a c)
 | vslEmpty cap a c bP=>exact .inr (.e0 a c)
 | vslNil cap bP=>exact .inl .nils
 | vsl els cap blk base sz c g hA aN hs hl bP hc hr=>
  cases els with
  | nil=>exact .inr (.e0 _ _)
  | cons y ys=>simp [dP] at h
 | _=>simp [dP] at h
theorem e00_rv {w:World} {X:Nat->Prop} {μ:Mu} {x:AV} {cv:Value} (h:e00 x=true) (r:RV fm w X μ x cv):RV fm w X μ (.vsl [] (some 0)) cv:=by
 cases r with
 | nils=>exact .vslNil _ (.inr rfl)
 | vslEmpty cap a c bP=>
  have:cap=some 0:=by unfold e00 at h; split at h <;> simp_all
  subst this
  exact .vslEmpty _ _ _ bP
 | vslNil cap bP=>exact .vslNil _ (.inr rfl)
 | vsl els cap blk base sz c g hA aN hs hl bP hc hr=>
  cases els with
  | nil=>
   have:cap=some 0:=by unfold e00 at h; split at h <;> simp_all
   subst this
   refine .vslEmpty _ _ _ ?_
   rcases bP with h | h
   ·simp at h
   ·exact .inr h
  | cons y ys=>simp [e00] at h
 | _=>simp [e00] at h
theorem KO.weaken {o:Oper} {u v:AV} (h:KO P fm X μ o a w u) (hv: ∀(w':World) (cv:Value),RV fm w' X μ u cv->RV fm w' X μ v cv):KO P fm X μ o a w v:=by
 intro next Q qO
 exact h next Q (fun cv w' hr hb=>qO cv w' (hv w' cv hr) hb)
theorem GU (g:bF P fm gm G w X μ σ N fr a) {n m:Nat} (tA:fV P fm gm G ip n) (hm:m < n) (EV: ∀(w':World) (X':Nat->Prop),Below w.heap.size w w'->(∀b,X' b->Av X μ b)->dM fm gm G w' X' Mu.none)
  {sh:tn} {f:bq} {xs:List bq} (hc:aS P fm gm (.call sh f xs) o.op=true) (hn:dP (xs.map (val G fr))=true)
  (h:eV ip (run ip G m) (val G fr f) σ=true):KO P fm X μ o a w (.vsl [] (some 0)):=by
 obtain ⟨x,rfl,hx⟩:=Et hn
 unfold eV at h
 split at h
 case h_2=>simp at h
 rename_i r1 σ1 r2 σ2 h1 h2
 simp only [ak] at h
 have fin: ∀ {r1:AV} {σ1:ag} {a0:AV} {Ol:Fr} {x0:bq} (g0:bF P fm gm G w X μ σ N Ol a),aS P fm gm (.call sh f [x0]) o.op=true->val G Ol f=val G fr f->val G Ol x0=a0->
   gv ip (run ip G m) false true (val G fr f) [a0] σ=some (r1,σ1)->e00 r1=true->KO P fm X μ o a w (.vsl [] (some 0)):=by
  intro r1 σ1 a0 Ol x0 g0 kU hf0 hx0 hp he
  have Of:gv ip (run ip G m) false true (val G Ol f) ([x0].map (val G Ol)) σ=some (r1,σ1):=by
   rw [hf0,List.map_cons,List.map_nil,hx0]; exact hp
  rcases kK g0 tA hm EV kU Of with ⟨q,_⟩ | ⟨q,_⟩
  ·exact q.weaken (fun w' cv hr=>e00_rv he hr)
  ·simp at q
 cases x with
 | func f=>simp [val,dP] at hx
 | glob gg=>simp [val,dP] at hx
 | const v=>
  have hv:v= .nils:=by
   have F3:=hc
   simp only [aS] at F3
   split at F3
   case h_2=>simp at F3
   rename_i f' args argTypes _
   simp only [ak] at F3
   have nt:=F3.2
   revert nt
   cases args.toList with
   | nil=>intro hh; simp [bC] at hh
   | cons y ys=>
    simp only [bC,ak]
    rintro ⟨q,_⟩
    simp only [val] at hx
    cases v with
    | nils=>rfl
    | vsl els cap=>cases y <;> simp [bh,dY] at q
    | e0=>cases y <;> simp [bh,dY] at q
    | _=>simp [dP] at hx
  subst hv
  exact fin g hc rfl rfl h1 h.1
 | tmp t=>
  have fX: ∀t',f= .tmp t'->t'≠t:=by
   rintro t' rfl rfl
   simp only [val] at hx h1
   unfold gv at h1
   cases hv:fr.get t' with
   | nils=>rw [hv] at h1; simp [rb,bK,AV.closed,dt,AV.er,dj] at h1
   | e0=>rw [hv] at h1; simp [rb,bK,AV.closed,dt,AV.er,dj] at h1
   | vsl els cap=>
    cases els with
    | nil=>rw [hv] at h1; simp [rb,bK,AV.closed,aB,dt,AV.er,dj] at h1
    | cons y ys=>rw [hv] at hx; simp [dP] at hx
   | _=>rw [hv] at hx; simp [dP] at hx
  have Uf: ∀u:AV,val G ((t,u) ::fr) f=val G fr f:=by
   intro u
   cases f with
   | tmp t'=>
    have:=fX t' rfl
    simp only [val,Fr.get,look]
    rw [if_neg (fun hh=>this hh.symm)]
   | _=>rfl
  have nr: ∀u:AV,val G ((t,u) ::fr) (.tmp t)=u:=by
   intro u; simp [val,Fr.get,look]
  have hg: ∀u:AV,RV fm w X μ u (a.tmps.getD t Go.undef)->bF P fm gm G w X μ σ N ((t,u) ::fr) a:=by
   intro u hu
   refine ⟨g.glob,g.rs,g.out,⟨g.rf.size,fun t'=> ?_⟩⟩
   by_cases ht:t=t'
   ·subst ht; simpa [Fr.get,look] using hu
   ·have:Fr.get ((t,u) ::fr) t'=fr.get t':=by simp [Fr.get,look,ht]
    rw [this]; exact g.rf.val t'
  rcases G2 hx (g.rf.val t) with hr | hr
  ·exact fin (hg _ hr) hc (Uf _) (nr _) h1 h.1
  ·exact fin (hg _ hr) hc (Uf _) (nr _) h2 h.2
end
end Go.Ab
namespace Go.Ab
open Go.RowKit
section
variable {P:Program} {fm gm:Nat->aD} {G:Nat->ai}
variable {w:World} {X:Nat->Prop} {μ:Mu} {σ σ':ag} {N:Nat} {fr:Fr} {a:Act} {o:Oper} {v:AV}
theorem sy {x:bq} {l:List Operand} (h:bC fm gm [x] l=true): ∃x',l= [x']/\bh fm gm x x'=true:=by
 cases l with
 | nil=>simp [bC] at h
 | cons y l=>
  cases l with
  | nil=>simp only [bC,Bool.and_true] at h; exact ⟨y,rfl,h⟩
  | cons z l=>simp [bC] at h
theorem sD {α β:Type} {f:α->β} {xs:List α} {y:β} (h:xs.map f= [y]): ∃x,xs= [x]/\f x=y:=by
 cases xs with
 | nil=>simp at h
 | cons x xs=>
  cases xs with
  | nil=>simp at h; exact ⟨x,rfl,h⟩
  | cons z xs=>simp at h
theorem Su (g:bF P fm gm G w X μ σ N fr a) {sz bytes:Nat} {z:ai} {xs:List bq} (hc:aS P fm gm (.prim (.makeSl sz bytes z) xs) o.op=true) {k:IntKind} {n:Int}
  (hx:xs.map (val G fr)= [.int k n]) (h:j7 σ sz bytes z n=some (v,σ')):Dh P fm X μ o a w v σ':=by
 obtain ⟨x,rfl,nr⟩:=sD hx
 obtain ⟨dst,op,type,pos,after,guard⟩:=o
 simp only [aS] at hc
 split at hc
 case h_2=>simp at hc
 rename_i t lo co
 simp only [ak] at hc
 obtain ⟨⟨ht,hl⟩,Xo⟩:=hc
 obtain ⟨l',e1,hl⟩:=sy hl
 simp only [List.cons.injEq,and_true] at e1; subst e1
 obtain ⟨c',e1,Xo⟩:=sy Xo
 simp only [List.cons.injEq,and_true] at e1; subst e1
 have rl:=a8 g.glob g.rf hl
 have rc:=a8 g.glob g.rf Xo
 rw [nr] at rl rc
 have ui:a.eval lo= .int k n:=by
  generalize a.eval lo=y at rl
  cases rl; rfl
 have uj:a.eval co= .int k n:=by
  generalize a.eval co=y at rc
  cases rc; rfl
 split at ht
 case h_2=>simp at ht
 rename_i e hu
 cases hi:P.info? e with
 | none=>simp [hi] at ht
 | some i=>
  simp only [hi,ak,beq_iff_eq] at ht
  obtain ⟨⟨eA,F4⟩,hz⟩:=ht
  have hz0:=hz
  unfold nO at hz
  rw [hi] at hz
  simp only at hz
  cases QH:i.zero with
  | none=>simp [QH] at hz
  | some zv=>
   rw [QH] at hz
   simp only at hz
   obtain ⟨c1,c2⟩:=kP (fm:=fm) (w:=w) (X:=X) (μ:=μ) z zv.cells.toList hz
   unfold j7 at h
   split at h
   case isFalse=>simp at h
   rename_i aA
   obtain ⟨h0,ET,hzl,Hl,hbp⟩:=aA
   have hex:execOp a.eval ⟨dst, .makeSlice t lo co,type,pos,after,guard⟩=(do pure (.value (←Instr.makeSlice t (a.eval lo) (a.eval co)))):=by
    simp only [execOp]
   unfold bg at ET
   have hn:(n.toNat:Int)=n:=by omega
   have hbi:(i.bytes:Int)*n<=281474976710656:=by
    rw [F4,←hn,←Int.natCast_mul,Nat.mul_comm]; omega
   have hn63:n.toNat<=140737488355328:=Nat.le_trans (Nat.le_mul_of_pos_right _ hbp) ET
   have dH:=run_make (P:=P) w t e i zv hu hi QH k k n n h0 (Int.le_refl _) hbi aa
   rw [eA,←hzl] at dH
   split at h
   ·rename_i Z8
    simp only [ah,aI] at h
    obtain ⟨rfl,rfl⟩:=h
    have hb:Below w.heap.size w (w.alloc (.cells (madeCells zv.cells (n.toNat*z.length)) e)):=(Below.refl w.heap.size w).alloc (aE _) _
    refine iL hex ⟨_,_,μ,by rw [ui,uj]; exact dH,?_,Ext.of_below hb,g.rs.below hb⟩
    subst Z8
    exact .vslEmpty (some 0) _ 0 (.inr rfl)
   ·rename_i Z8
    simp only [ah,aI] at h
    obtain ⟨rfl,rfl⟩:=h
    have hcw:ib fm w X μ z zv.cells:=⟨by simpa using c1,fun j=>by simpa using c2 j⟩
    have Dj:=xu hcw n.toNat
    obtain ⟨k1,k2⟩:=lN g.rs g.out (cs:=rep n.toNat z) (arr:=madeCells zv.cells (n.toNat*z.length)) e (Nat.le_of_eq Dj.1) (fun j _=>Dj.2 j)
    refine iL hex ⟨_,_,_,by rw [ui,uj]; exact dH,?_,k1,k2⟩
    refine RV.sl σ.next 0 n.toNat sz none w.heap.size 0 n.toNat true (madeCells zv.cells (n.toNat*z.length)) e (0,0) (by simp [Mu.bind]) (show (w.heap.push _)[w.heap.size]? =_ by simp) ?_ (aE _) (.inl rfl)
    rw [size_madeCells,hzl]; omega
theorem yQ {argTypes:Array TypeId} {t e type:TypeId} (wo:argTypes[0]? =some t) (hu:P.underlying t=some (.slice e)) (ad:Option Addr) (c:Nat) :
  (Builtin.clear_ argTypes type #[.slice ad 0 c]).run P w= .ok (.tuple #[]) w:=by
 unfold Builtin.clear_
 simp only [wo]
 cases ad <;> simp [run_underlying hu]
theorem U8 {z:ai} (h:z.all AV.one=true) (n:Nat):(rep n z).all AV.one=true:=by
 unfold rep
 induction n with
 | zero=>rfl
 | succ n ih=>rw [List.range_succ,List.flatMap_append,List.all_append,ih]; simpa using h
theorem XI (g:bF P fm gm G w X μ σ N fr a) {sz:Nat} {z:ai} {xs:List bq} (hc:aS P fm gm (.prim (.clear sz z) xs) o.op=true) {xv:AV}
  (hx:xs.map (val G fr)= [xv]) (h:oD σ sz z xv=some (v,σ')):Dh P fm X μ o a w v σ':=by
 obtain ⟨x,rfl,nr⟩:=sD hx
 obtain ⟨dst,op,type,pos,after,guard⟩:=o
 simp only [aS] at hc
 split at hc
 case h_2=>simp at hc
 rename_i args argTypes
 simp only [ak] at hc
 obtain ⟨ha,ht⟩:=hc
 obtain ⟨x',e1,F1⟩:=sy ha
 have e1:args= #[x']:=by cases args; simp_all
 subst e1
 have rx:=a8 g.glob g.rf F1
 rw [nr] at rx
 unfold nK at ht
 cases wo:argTypes[0]? with
 | none=>simp [wo] at ht
 | some t=>
  simp only [wo] at ht
  split at ht
  case h_2=>simp at ht
  rename_i e hu
  simp only [ak] at ht
  obtain ⟨hs,hz⟩:=ht
  obtain ⟨zv,Ob,Dj⟩:=jy (P:=P) (fm:=fm) (w:=w) (X:=X) (μ:=μ) hz
  have hex:execOp a.eval ⟨dst, .call { callee:= .builtin .clear,args:=#[x'],argTypes:=argTypes },type,pos,after,guard⟩=(do pure (.value (←Builtin.clear_ argTypes type #[a.eval x']))):=by
   simp [execOp,resolve,invoke,builtin]
  have Z4:RV fm w X μ (.tup []) (.tuple #[]):= .tup [] #[] rfl (fun j=>by simpa using RV.undef _)
  generalize hxc:a.eval x'=xc at rx hex
  unfold oD at h
  have quiet: ∀ad c,xc= .slice ad 0 c->some (AV.tup [],σ)=some (v,σ')->Dh P fm X μ ⟨dst, .call { callee:= .builtin .clear,args:=#[x'],argTypes:=argTypes },type,pos,after,guard⟩ a w v σ':=by
   intro ad c Z0 he
   simp only [ah,aI] at he
   obtain ⟨rfl,rfl⟩:=he
   subst Z0
   refine iL hex ⟨_,w,μ,?_,Z4,Ext.refl w μ,g.rs⟩
   have gH:(Builtin.clear_ argTypes type #[.slice ad 0 c]).run P w= .ok (.tuple #[]) w:=yQ wo hu ad c
   rw [gH]
  split at h
  ·cases rx with | nils=>exact quiet _ _ rfl h
  ·cases rx with | e0 ad c=>exact quiet _ _ rfl h
  ·cases rx with
   | vslEmpty cap ad c bP=>exact quiet _ _ rfl h
   | vslNil cap bP=>exact quiet _ _ rfl h
   | vsl els cap blk base j4 c g' hA aN Hn hl bP hc hr=>exact quiet _ _ rfl h
  ·rename_i b off l j4 cap
   split at h
   case h_2=>simp at h
   rename_i cs ho
   split at h
   case isFalse=>simp at h
   rename_i aA
   obtain ⟨rfl,hzl,Hl,hle,dx⟩:=aA
   simp only [ah,aI] at h
   obtain ⟨rfl,rfl⟩:=h
   have dy:σ.get b=some (.own cs):=by
    unfold ag.owned at ho
    split at ho
    ·rename_i cs' hh; rw [hh]; rw [br ho]
    ·cases ho
   have hrl:(rep l z).length=l*j4:=by unfold rep; rw [gS,hzl]
   by_cases zn:l=0
   ·
    have vj:splice cs off (rep l z)=cs:=by subst zn; simp [splice,rep]
    rw [vj]
    have hrs:RS (fm:=fm) (σ.set b (.own cs)) w X μ:=by
     have hg: ∀b',(σ.set b (.own cs)).get b'=σ.get b':=fun b'=>by
      rw [df]; split
      ·rename_i hb; rw [hb,dy]
      ·rfl
     refine ⟨g.rs.lt,g.rs.far,g.rs.frz,g.rs.inj,fun b' blk base o hm=> ?_,fun b' h'=>g.rs.born b' (by rw [←hg]; exact h'),fun b' y h'=>g.rs.lim b' y (by rw [←hg]; exact h'),fun b' h'=>g.rs.gone b' (by rw [←hg]; exact h'),fun b' h'=> ?_,g.rs.tys.step (fun _ _ h=>mem_push (fun _=>by simp) h) (aE _) (fun _ _ _ o _ _ h=>⟨o,h⟩) (Ext.refl _ _)⟩
     ·rw [hg]; exact g.rs.cells b' blk base o hm
     ·have:=g.rs.dead b' h'
      unfold ag.cells at this ⊢
      rw [hg]; exact this
    subst zn
    have hxc0: ∃ad c,xc= .slice (some ad) 0 c:=by
     cases rx with
     | sl _ _ _ _ _ blk base c o arr e fz hm hb hr hl bP=>exact ⟨_,_,rfl⟩
     | slDead _ _ _ _ _ ad c hl hm=>exact ⟨_,_,rfl⟩
     | slZero _ _ _ _ ad bP=>exact ⟨_,_,rfl⟩
    obtain ⟨ad,c,rfl⟩:=hxc0
    refine iL hex ⟨_,w,μ,?_,Z4,Ext.refl w μ,hrs⟩
    exact yQ wo hu _ _
   cases rx with
   | slDead _ _ _ _ _ ad c hl hm=>have:=g.rs.dead b hm; simp [ag.cells,dy] at this
   | slZero _ _ _ _ ad bP=>exact absurd rfl zn
   | sl _ _ _ _ _ blk base c ow arr0 e0 fz hm hb hr hl bP=>
    obtain ⟨cs',arr,e',h1,h2,h3,h4⟩:=g.rs.cells b blk base ow hm
    rw [dy] at h1
    cases ow with
    | false=>simp at h1
    | true=>
     simp only [if_true,ah,jS.own.injEq] at h1
     subst h1
     have hal:arr.toList.length=arr.size:=by simp
     have WW:zv.cells.size=j4:=by rw [←Dj.1,hzl]
     have hzn:ib fm w X μ (rep l z) (Builtin.zeroCells zv.cells l):=by
      have:=xu Dj l
      refine ⟨by rw [je,hrl,WW],fun j=> ?_⟩
      have h5:=this.2 j
      by_cases hj:j < l*j4
      ·have e1:(Builtin.zeroCells zv.cells l).getD j Go.undef=((Array.range (l*z.length)).map (zv.cells[· % zv.cells.size]!)).getD j Go.undef:=by
        rw [hzl]
        unfold Builtin.zeroCells
        rw [WW]
       rw [e1]; exact h5
      ·have e1:(Builtin.zeroCells zv.cells l).getD j Go.undef=Go.undef:=by
        have: ¬j < (Builtin.zeroCells zv.cells l).size:=by rw [je,WW]; exact hj
        simp [Array.getD,this]
       have e2:(rep l z).getD j .undef= .undef:=by
        rw [a9,cK aa]; rfl
       rw [e2]; exact .undef _
     have Z2:(Builtin.zeroCells zv.cells l).toList.length=l*j4:=by
      have:=hzn.1; rw [hrl] at this; simp; omega
     have ER: ∀u∈(Builtin.zeroCells zv.cells l).toList,u.oneCell'=true:=s6 (cs:=rep l z) (by rw [Z2,hrl]) (fun j=>by simpa using hzn.2 j) (U8 dx l)
     have dH:=run_storeCells_at (P:=P) blk (base+off) e' (Builtin.zeroCells zv.cells l).toList 0 arr w h2 aa ER
     simp only [Nat.add_zero] at dH
     have eA:(arr.toList.take (base+off) ++(Builtin.zeroCells zv.cells l).toList ++arr.toList.drop (base+off+(Builtin.zeroCells zv.cells l).toList.length)).toArray.size=arr.size:=by simp at Z2 ⊢; omega
     refine iL hex ⟨_,_,μ,?_, .tup [] #[] rfl (fun j=>by simpa using RV.undef _),lh hm h2 eA,tN g.rs hm h2 eA ?_ ?_⟩
     ·obtain ⟨l',rfl⟩ : ∃l',l=l'+1:=⟨l - 1,by omega⟩
      simp [Builtin.clear_,wo,run_underlying hu,Ob,dH]
     ·rw [en _ _ _ aa,eA]; omega
     ·intro j hj
      rw [en _ _ _ aa] at hj
      rw [mb _ _ _ _ aa,nQ,rV _ _ _ _ aa]
      by_cases hk:off<=j/\j < off+(rep l z).length
      ·rw [if_pos hk,if_pos aa]
       have e1:base+j - (base+off)=j - off:=by omega
       rw [e1]
       simpa using hzn.2 (j - off)
      ·rw [if_neg hk,if_neg aa]
       simpa using h4 j hj
  ·simp at h
theorem Bt {α β:Type} {f:α->β} {xs:List α} {y z:β} (h:xs.map f= [y,z]): ∃a b,xs= [a,b]/\f a=y/\f b=z:=by
 match xs,h with
 | [a,b],h=>simp only [List.map_cons,List.map_nil,List.cons.injEq,and_true] at h; exact ⟨a,b,rfl,h.1,h.2⟩
 | [],h | [_],h | _ ::_ ::_ ::_,h=>simp at h
theorem EG {x:AV} {xv:Value} (hx:RV fm w X μ x xv) {l:Nat} (h:lenOf x=some l) (hs: ∀s,x≠ .str s): ∃ad c,xv= .slice ad l c:=by
 cases hx <;> simp only [lenOf,ah,reduceCtorEq] at h <;> (try subst h) <;> first | exact ⟨_,_,rfl⟩ | exact absurd rfl (hs _)
theorem e_copy (g:bF P fm gm G w X μ σ N fr a) {sz:Nat} {xs:List bq} (hc:aS P fm gm (.prim (.copy sz) xs) o.op=true) {xa ya:AV}
  (hx:xs.map (val G fr)= [xa,ya]) (h:jN σ sz xa ya=some (v,σ')):Dh P fm X μ o a w v σ':=by
 obtain ⟨x,y,rfl,nr,ZY⟩:=Bt hx
 obtain ⟨dst,op,type,pos,after,guard⟩:=o
 simp only [aS] at hc
 split at hc
 case h_2=>simp at hc
 rename_i args argTypes
 simp only [ak] at hc
 obtain ⟨⟨ha,ht⟩,ht2⟩:=hc
 obtain ⟨x',y',rfl,F1,Ua⟩:=nJ ha
 have rx:=a8 g.glob g.rf F1
 have ry:=a8 g.glob g.rf Ua
 rw [nr] at rx
 rw [ZY] at ry
 unfold nK at ht ht2
 cases wo:argTypes[0]? with
 | none=>simp [wo] at ht
 | some t=>
 cases Ok:argTypes[1]? with
 | none=>simp [Ok] at ht2
 | some t2=>
 simp only [wo] at ht
 simp only [Ok] at ht2
 split at ht
 case h_2=>simp at ht
 rename_i e hu
 split at ht2
 case h_2=>simp at ht2
 rename_i e2 Hk
 have hs:=eC (P:=P) (w:=w) ht
 have hex:execOp a.eval ⟨dst, .call { callee:= .builtin .copy,args:=#[x',y'],argTypes:=argTypes },type,pos,after,guard⟩=(do pure (.value (←Builtin.copy_ argTypes type #[a.eval x',a.eval y']))):=by
  simp [execOp,resolve,invoke,builtin]
 generalize a.eval x'=xc at rx hex
 generalize a.eval y'=yc at ry hex
 unfold jN at h
 split at h
 case h_2=>simp at h
 rename_i l m new hl hm j9
 have nstr: ∀z:AV,∀r,rowOf σ sz z=some r->∀s,z≠ .str s:=by
  rintro z r hz s rfl; simp [rowOf] at hz
 split at h
 ·rename_i hm0
  split at h
  ·simp at h
  rename_i hns
  simp only [ah,aI] at h
  obtain ⟨rfl,rfl⟩:=h
  subst hm0
  obtain ⟨yad,yc',rfl⟩:=EG ry hm (nstr _ _ j9)
  have Hj:=EG rx hl (fun s hs=>by subst hs; exact hns rfl)
  obtain ⟨xad,xc',rfl⟩:=Hj
  refine iL hex ⟨.int .i64 0,w,μ,?_, .int _ _,Ext.refl w μ,g.rs⟩
  have h1:(Builtin.firstCells sz 0 (.slice yad 0 yc')).run P w= .ok #[] w:=by
   cases yad <;> simp [Builtin.firstCells,loadCells,loadCellsFrom]
  unfold Builtin.copy_
  cases xad <;> simp [wo,run_underlying hu,Builtin.lenOf,hs,h1,goInt,storeCells]
 ·rename_i hm0
  split at h
  case h_2=>simp at h
  rename_i b off l' j4 cap
  split at h
  case h_2=>simp at h
  rename_i cs ho
  split at h
  case isFalse=>simp at h
  rename_i aA
  obtain ⟨rfl,Hl,Hq,hle,hnl,dx⟩:=aA
  simp only [ah,aI] at h
  obtain ⟨rfl,rfl⟩:=h
  simp only [lenOf,ah] at hl
  subst hl
  have dy:σ.get b=some (.own cs):=by
   unfold ag.owned at ho
   split at ho
   ·rename_i cs' hh; rw [hh]; rw [br ho]
   ·cases ho
  have ym:=tL (P:=P) g.rs ry j9 hm dx Hk
  obtain ⟨wk,news,hS,hnn,hnr⟩:=ym
  cases rx with
  | slDead _ _ _ _ _ ad c hl hm=>have:=g.rs.dead b hm; simp [ag.cells,dy] at this
  | slZero _ _ _ _ ad bP=>omega
  | sl _ _ _ _ _ blk base c ow arr0 e0 fz hmu hb hr hl bP=>
   obtain ⟨cs',arr,e',h1,h2,h3,h4⟩:=g.rs.cells b blk base ow hmu
   rw [dy] at h1
   cases ow with
   | false=>simp at h1
   | true=>
    simp only [if_true,ah,jS.own.injEq] at h1
    subst h1
    have hal:arr.toList.length=arr.size:=by simp
    have hmul:m*j4<=l'*j4:=Nat.mul_le_mul_right _ Hq
    have Z2:news.length=m*j4:=by omega
    have dH:=run_storeCells_at (P:=P) blk (base+off) e' news 0 arr w h2 aa hS.one
    simp only [Nat.add_zero] at dH
    have eA:(arr.toList.take (base+off) ++news ++arr.toList.drop (base+off+news.length)).toArray.size=arr.size:=by simp at Z2 ⊢; omega
    refine iL hex ⟨.int .i64 m,_,μ,?_, .int _ _,lh hmu h2 eA,tN g.rs hmu h2 eA ?_ ?_⟩
    ·have hmin:Nat.min m l'=m:=Nat.min_eq_left Hq
     have hlen:=hS.len w
     have gH:=hS.cells
     simp [Builtin.copy_,wo,run_underlying hu,hlen,hmin,hs,gH,dH,goInt]
    ·rw [en _ _ _ aa,eA]; omega
    ·intro j hj
     rw [en _ _ _ aa] at hj
     rw [mb _ _ _ _ aa,nQ,rV _ _ _ _ aa]
     by_cases hk:off<=j/\j < off+new.length
     ·rw [if_pos hk,if_pos aa]
      have e1:base+j - (base+off)=j - off:=by omega
      rw [e1]
      exact hnr (j - off)
     ·rw [if_neg hk,if_neg aa]
      simpa using h4 j hj
theorem MM (fn:Func) (h1:fn.name= "internal/bytealg.MakeNoZero") (h2:fn.origin= ""):Extern.findNext fn=none/\Extern.find fn=some (Extern.BytealgMakeNoZero.makeNoZero fn.params fn.resultTypes)/\(fn.name == "runtime.NumGoroutine")=false:=by
 unfold Extern.findNext Extern.find
 simp only [h1,h2]
 exact ⟨by kernel_rfl,by rfl,by decide⟩
theorem e_mkNZ (g:bF P fm gm G w X μ σ N fr a) {xs:List bq} (hc:aS P fm gm (.prim .mkNZ xs) o.op=true) {n:Int} (hx:xs.map (val G fr)= [.int .i64 n]) (h:rh σ n=some (v,σ')):Dh P fm X μ o a w v σ':=by
 obtain ⟨x,rfl,hxa⟩:=sD hx
 obtain ⟨dst,op,type,pos,after,guard⟩:=o
 simp only [aS] at hc
 split at hc
 case h_2=>simp at hc
 rename_i f' args ats
 simp only [ak] at hc
 obtain ⟨hf,hargs⟩:=hc
 split at hf
 case h_2=>simp at hf
 rename_i fn Kn
 simp only [ak,beq_iff_eq] at hf
 obtain ⟨⟨⟨hn,ho⟩,hb⟩,ht⟩:=hf
 split at ht
 case h_2=>simp at ht
 rename_i t hres0
 have rm:fn.resultTypes= #[t]:=by rw [←Array.toList_inj,hres0]
 split at ht
 case h_2=>simp at ht
 rename_i e hu
 obtain ⟨x',uh,F1⟩:=sy hargs
 have nt:args= #[x']:=by cases args; simp_all
 subst nt
 have rx:=a8 g.glob g.rf F1
 rw [hxa] at rx
 generalize nr:a.eval x'=xv at rx
 cases rx
 unfold rh at h
 split at h <;> simp only [ah,aI,reduceCtorEq] at h
 rename_i aA
 obtain ⟨h0,ET⟩:=aA
 obtain ⟨rfl,rfl⟩:=h
 obtain ⟨e1,e2,e3⟩:=MM fn hn ho
 have hmax':n.toNat<=140737488355328:=ET
 obtain ⟨cs,dH,hle,_⟩:=Lib.run_makeNoZero (P:=P) w fn.params t e hu n.toNat aa
 have hnn:((n.toNat:Nat):Int)=n:=by omega
 rw [hnn] at dH
 have hbel:Below w.heap.size w w.drew.drew:=((Below.refl w.heap.size w).drew).drew
 have hS':=g.rs.below hbel
 obtain ⟨k1,k2⟩:=lN (w:=w.drew.drew) hS' (fun b hb=>g.out b hb) (cs:=List.replicate n.toNat .undef) (arr:=cs) e (by simp; omega) (fun j hj=>by
  have:(List.replicate n.toNat AV.undef).getD j .undef= .undef:=by
   rw [a9,List.getElem?_replicate]; split <;> rfl
  rw [this]; exact .undef _)
 have h5:=run_callFunc_extern Kn e3 hb e1 e2 #[.int .i64 n] w
 rw [rm,dH] at h5
 simp only [Result.andThen] at h5
 have mU:a.eval (.func f')= .func (.func f') #[] #[]:=rfl
 refine ⟨_,_,_, .inl (by simpa [execOp,resolve,invoke,nr,mU,Deferred.ofValue] using h5),?_,(Ext.of_below hbel).trans k1,k2⟩
 exact RV.sl σ.next 0 n.toNat 1 none w.heap.size 0 cs.size true cs e (0,0) (by simp [Mu.bind]) (heap_alloc_new w.drew.drew _) aa hle (.inl rfl)
end
end Go.Ab
namespace Go.Ab
open Go.RowKit
section
variable {P:Program} {fm gm:Nat->aD} {G:Nat->ai}
variable {w:World} {X:Nat->Prop} {μ:Mu} {σ σ':ag} {N:Nat} {fr:Fr} {a:Act} {o:Oper} {v:AV}
theorem pg {α:Type} (b:Nat): ∀(l m:List (Nat×α)),look (l ++m) b=match look l b with | some x=>some x | none=>look m b
 | [],m=>by simp [look]
 | (i,x) ::l,m=>by
  simp only [List.cons_append,look]
  split
  ·rfl
  ·exact pg b l m
theorem H4 {b0 e:Nat} (h: ∃x,σ.get b0=some x) (b:Nat):(σ.addTag b0 e).get b=σ.get b:=by
 obtain ⟨x,hx⟩:=h
 unfold ag.get ag.addTag at*
 rw [pg]
 cases hl:look σ.m b with
 | some y=>rfl
 | none=>
  simp only [look]
  by_cases hb:b0=b
  ·subst hb; rw [hx] at hl; cases hl
  ·rw [if_neg hb]
theorem AP (hS:RS (fm:=fm) σ w X μ) {b e:Nat} (hg: ∃x,σ.get b=some x) (hu:μ b≠ .unborn) (ht: ∀blk base o,μ b= .at blk base o->base=0/\∃arr fz,w.heap[blk]? =some (.cells arr e fz)):RS (fm:=fm) (σ.addTag b e) w X μ:=by
 have dy:=H4 (e:=e) hg
 refine ⟨hS.lt,hS.far,hS.frz,hS.inj,fun b' blk base o hm=>by rw [dy]; exact hS.cells b' blk base o hm,fun b' h=>hS.born b' (by rw [←dy]; exact h),fun b' x h=>hS.lim b' x (by rw [←dy]; exact h),fun b' h=>hS.gone b' (by rw [←dy]; exact h),fun b' h=> ?_,fun b' e' h=> ?_⟩
 ·have:=hS.dead b' h
  unfold ag.cells at*
  rw [dy]; exact this
 ·rcases List.mem_append.1 h with k | k
  ·exact hS.tys b' e' k
  ·simp only [List.mem_singleton,aI,jS.tag.injEq] at k
   obtain ⟨rfl,rfl⟩:=k
   obtain ⟨x,hx⟩:=hg
   exact ⟨hS.lim _ _ hx,hu,ht⟩
theorem qU {b e:Nat} (h:σ.tagged b e=true):(b,jS.tag e)∈σ.m:=by
 obtain ⟨⟨b',x⟩,h1,h2⟩:=iU.1 h
 unfold QB at h2
 split at h2
 ·rename_i heq
  simp only [aI] at heq
  obtain ⟨rfl,rfl⟩:=heq
  simp only [ak,beq_iff_eq] at h2
  obtain ⟨rfl,rfl⟩:=h2
  exact h1
 ·cases h2
theorem e_boxT (g:bF P fm gm G w X μ σ N fr a) {e:Nat} {xs:List bq} (hc:aS P fm gm (.prim (.boxT e) xs) o.op=true) {xa:AV} (hx:xs.map (val G fr)= [xa]) (hk:xa.known=true) :
  Dh P fm X μ o a w (.ptr σ.next 0) ((σ.alloc xa.cells).addTag σ.next e):=by
 obtain ⟨x,rfl,rfl⟩:=sD hx
 obtain ⟨dst,op,type,pos,after,guard⟩:=o
 simp only [aS] at hc
 split at hc
 case h_2=>simp at hc
 rename_i el x'
 simp only [ak,beq_iff_eq] at hc
 obtain ⟨rfl,hc⟩:=hc
 have rx:=a8 g.glob g.rf (by simpa [bC] using hc:bh fm gm x x'=true)
 obtain ⟨hl,hr⟩:=rx.cells hk
 obtain ⟨h1,h2⟩:=lN g.rs g.out el (Nat.le_of_eq hl) (fun j _=>hr j)
 refine iL (s:=Instr.box el (a.eval x')) rfl ⟨_,_,_,rfl,?_,h1,AP h2 ⟨_,by rw [cT,if_pos rfl]⟩ (by simp [Mu.bind]) fun blk base o hm=> ?_⟩
 ·exact RV.ptr (fm:=fm) (w:=w.alloc (.cells (a.eval x').cells el)) (X:=X) (μ:=μ.bind σ.next (.at w.heap.size 0 true)) σ.next 0 w.heap.size 0 true (by simp [Mu.bind])
 ·simp only [Mu.bind,if_true,Loc.at.injEq] at hm
  obtain ⟨rfl,rfl,rfl⟩:=hm
  exact ⟨rfl,_,_,heap_alloc_new w _⟩
theorem Sw (g:bF P fm gm G w X μ σ N fr a) {e sz bytes:Nat} {str:Bool} {xs:List bq} (hc:aS P fm gm (.prim (.appT e sz bytes str) xs) o.op=true) {xa ya:AV} (hx:xs.map (val G fr)= [xa,ya])
  {new:ai} {n:Nat} (ym: ∀(args:Array Operand) (argTypes:Array TypeId) (tx:TypeId) (y':Operand),argTypes[1]? =some tx->RV fm w X μ ya (a.eval y')->(if str=true then P.underlying tx=some .string else ∃e',P.underlying tx=some (.slice e'))->FH P fm w X μ sz tx (a.eval y') n new)
  (h:jt σ e sz bytes xa new n=some (v,σ')):Dh P fm X μ o a w v σ':=by
 obtain ⟨x,y,rfl,rfl,rfl⟩:=Bt hx
 obtain ⟨dst,op,type,pos,after,guard⟩:=o
 simp only [aS] at hc
 split at hc
 case h_2=>simp at hc
 rename_i args argTypes
 simp only [ak] at hc
 obtain ⟨⟨hx,h0⟩,h1⟩:=hc
 obtain ⟨x',y',rfl,nt,WX⟩:=nJ hx
 have rx:=a8 g.glob g.rf nt
 have ry:=a8 g.glob g.rf WX
 unfold nK at h0 h1
 cases wo:argTypes[0]? with
 | none=>simp [wo] at h0
 | some t=>
 cases Ok:argTypes[1]? with
 | none=>simp [Ok] at h1
 | some tx=>
 simp only [wo] at h0
 simp only [Ok] at h1
 split at h0
 case h_2=>simp at h0
 rename_i e' hu
 simp only [ak,beq_iff_eq] at h0
 obtain ⟨rfl,h0⟩:=h0
 cases hi:P.info? e' with
 | none=>simp [hi] at h0
 | some i=>
 simp only [hi,ak,beq_iff_eq] at h0
 obtain ⟨⟨eA,F4⟩,hz⟩:=h0
 cases QH:i.zero with
 | none=>simp [QH] at hz
 | some z=>
 simp only [QH,beq_iff_eq] at hz
 have iD: ∀(av:Array Value),Builtin.append_ argTypes type av=Builtin.append_ #[t,tx] type av:=by
  intro av
  unfold Builtin.append_
  simp only [wo,Ok]
  rfl
 have hs:=ym #[x',y'] argTypes tx y' Ok ry (by
  split at h1
  ·rename_i WY; subst h1; simpa using WY
  ·rename_i e'' WY; simp only [Bool.not_eq_true'] at h1; subst h1; exact ⟨e'',WY⟩
  ·simp at h1)
 have fin: ∀v0 σ0,aJ σ sz bytes (val G fr x) new n=some (v0,σ0)->n≠0->(∀b off l j4 c,val G fr x= .sl b off l j4 c->off=0/\σ.tagged b e'=true)->
   Dh P fm X μ ⟨dst, .call { callee:= .builtin .append,args:=#[x',y'],argTypes:=argTypes },type,pos,after,guard⟩ a w v0 (σ0.addTag σ.next e'):=by
  intro v0 σ0 dI hn hb
  obtain ⟨cv,w',μ',r1,r2,r3,r4,r5⟩:=AO (P:=P) (ty:=type) g.rs g.out rx hu hi QH eA F4 (by rw [hz]) hs dI
  have hg:(∃cs,σ0.get σ.next=some cs)/\∃l,v0= .sl σ.next 0 l sz none/\l≠0:=by
   unfold aJ at dI
   split at dI
   ·cases dI
   split at dI
   case isFalse=>cases dI
   split at dI
   ·(try rw [if_neg hn] at dI); cases dI
   ·try rw [if_neg hn] at dI
    simp only [ah,aI] at dI
    rw [←dI.2]; exact ⟨⟨_,by rw [cT,if_pos rfl]⟩,_,dI.1.symm,by omega⟩
   ·try rw [if_neg hn] at dI
    split at dI
    case isFalse=>cases dI
    split at dI <;> simp only [ah,aI,reduceCtorEq] at dI
    rw [←dI.2]; exact ⟨⟨_,by rw [cT,if_pos rfl]⟩,_,dI.1.symm,by omega⟩
   ·split at dI
    case isFalse=>cases dI
    split at dI
    case h_2=>cases dI
    try rw [if_neg hn] at dI
    split at dI
    case isFalse=>cases dI
    simp only [ah,aI] at dI
    rw [←dI.2]; exact ⟨⟨_,by rw [cT]; exact if_pos rfl⟩,_,dI.1.symm,by omega⟩
   ·try rw [if_neg hn] at dI
    split at dI
    case isFalse=>cases dI
    split at dI <;> simp only [ah,aI,reduceCtorEq] at dI
    rw [←dI.2]; exact ⟨⟨_,by rw [cT,if_pos rfl]⟩,_,dI.1.symm,by omega⟩
   ·cases dI
  refine ⟨cv,w',μ', .inl ?_,r2,r3,AP r4 hg.1 ?_ fun blk base o hm=> ?_⟩
  ·simp [execOp,resolve,invoke,builtin,iD,r1]
  ·obtain ⟨_,l,rfl,zn⟩:=hg
   cases r2 with
   | sl _ _ _ _ _ blk base c o arr e fz hm hb hr hl bP=>rw [hm]; exact fun c=>by cases c
   | slDead _ _ _ _ _ ad c hl hm=>rw [hm]; exact fun c=>by cases c
   | slZero=>exact absurd rfl zn
  ·rcases r5 blk base o hm with k | ⟨b,off,l,j4,c,Ta,k1,k2,k3⟩
   ·exact k
   ·obtain ⟨rfl,ht⟩:=hb b off l j4 c k1
    obtain ⟨_,_,h4⟩:=g.rs.tys b e' (qU ht)
    obtain ⟨rfl,arr,fz,h5⟩:=h4 _ _ _ k2
    exact ⟨k3,r3.ty _ _ _ _ h5⟩
 unfold jt at h
 split at h
 ·cases h
 rename_i hn
 split at h
 ·rename_i hxn
  obtain ⟨⟨v0,σ0⟩,h2,h3⟩:=cp.1 h
  simp only [aI] at h3
  obtain ⟨rfl,rfl⟩:=h3
  exact fin v0 σ0 (by rw [hxn]; exact h2) hn (fun b off l j4 c k=>by rw [hxn] at k; cases k)
 ·rename_i b l j4 Hj
  split at h
  case isFalse=>cases h
  rename_i ht
  obtain ⟨⟨v0,σ0⟩,h2,h3⟩:=cp.1 h
  simp only [aI] at h3
  obtain ⟨rfl,rfl⟩:=h3
  exact fin v0 σ0 (by rw [Hj]; exact h2) hn (fun b' off l' sz'' c k=>by rw [Hj] at k; cases k; exact ⟨rfl,ht⟩)
 ·cases h
theorem pB (w:World) (blk k n ei:Nat) (h:ei≠blk):(w.freeze ⟨blk,k,none⟩ n).heap[ei]? =w.heap[ei]? :=by
 unfold World.freeze
 split
 ·rfl
 ·simp [Array.getElem?_modify,Ne.symm h]
theorem vo (w:World) (a:Addr) (n:Nat):(w.freeze a n).heap.size=w.heap.size:=by
 unfold World.freeze; split <;> simp
theorem Hx (w:World) {blk k n:Nat} {arr:Array Value} {e:TypeId} {fz:Nat×Nat} (h:w.heap[blk]? =some (.cells arr e fz)): ∃Ri,(w.freeze ⟨blk,k,none⟩ n).heap[blk]? =some (.cells arr e Ri):=by
 unfold World.freeze
 split
 ·exact ⟨_,h⟩
 ·obtain ⟨lo,hi⟩:=fz
  exact ⟨_,by simp [Array.getElem?_modify,h]; rfl⟩
theorem Hw (hS:RS (fm:=fm) σ w X μ) {b blk base k n:Nat} (hmb:μ b= .at blk base true):Ext w μ (w.freeze ⟨blk,k,none⟩ n) (μ.bind b .dead)/\RS (fm:=fm) (σ.set b .dead) (w.freeze ⟨blk,k,none⟩ n) X (μ.bind b .dead):=by
 obtain ⟨cs0,arr0,e0,g1,g2,g3,g4⟩:=hS.cells b blk base true hmb
 have hb:b < σ.next:=hS.lim b _ g1
 have back: ∀b' ei bZ o,(μ.bind b .dead) b'= .at ei bZ o->b'≠b/\μ b'= .at ei bZ o:=by
  intro b' ei bZ o h
  by_cases oU:b'=b
  ·simp [Mu.bind,oU] at h
  ·exact ⟨oU,by simpa [Mu.bind,oU] using h⟩
 have gh:Ext w μ (w.freeze ⟨blk,k,none⟩ n) (μ.bind b .dead):=by
  refine ⟨?_,?_,?_,by rw [vo]; exact aE _,fun ei hk hn=>pB w blk k n ei (by rintro rfl; exact hn ⟨b,base,hmb⟩),fun ei arr e fz h=> ?_,fun b' ei bZ h=> .inl ⟨_,_,(back _ _ _ _ h).2⟩,fun b' ei bZ o h=> ?_,fun b' h=> ?_⟩
  ·unfold World.freeze; split <;> rfl
  ·unfold World.freeze; split <;> rfl
  ·unfold World.freeze; split <;> rfl
  ·by_cases hbk:ei=blk
   ·subst hbk
    obtain ⟨Ri,h'⟩:=Hx w (k:=k) (n:=n) h
    exact ⟨arr,Ri,h',rfl⟩
   ·exact ⟨arr,fz,by rw [pB w blk k n ei hbk]; exact h,rfl⟩
  ·by_cases oU:b'=b
   ·exact .inl (by simp [Mu.bind,oU])
   ·exact .inr ⟨o,by simpa [Mu.bind,oU] using h⟩
  ·by_cases oU:b'=b
   ·simp [Mu.bind,oU]
   ·simpa [Mu.bind,oU] using h
 refine ⟨gh,fun b' blk base o hm=>by rw [vo]; exact hS.lt b' blk base o (back _ _ _ _ hm).2,fun b' blk base hm=>hS.far b' blk base (back _ _ _ _ hm).2,
  fun b' blk base hm=>rF gh (hS.lt b' blk base false (back _ _ _ _ hm).2) (hS.frz b' blk base (back _ _ _ _ hm).2),
  fun b' b'' blk base bZ hm dZ=>hS.inj b' b'' blk base bZ (back _ _ _ _ hm).2 (back _ _ _ _ dZ).2,fun b' blk1 base1 o hm=> ?_,fun b' h=> ?_,fun b' x h=> ?_,fun b' h=> ?_,fun b' hm=> ?_,
  hS.tys.step (fun _ _ h=>mem_push (fun _=>by simp) h) (aE _) (fun _ _ _ o _ _ h=>⟨o,(back _ _ _ _ h).2⟩) gh⟩
 ·obtain ⟨fX,dZ⟩:=back _ _ _ _ hm
  obtain ⟨cs1,HX,e1,h1,h2,h3,h4⟩:=hS.cells b' blk1 base1 o dZ
  have hnb:blk1≠blk:=by
   rintro rfl
   cases o with
   | true=>exact fX (hS.inj b' b blk1 base1 base dZ hmb)
   | false=>exact hS.frz b' blk1 base1 dZ (.inr ⟨b,base,hmb⟩)
  exact ⟨cs1,HX,e1,by rw [df,if_neg fX]; exact h1,by rw [pB w blk k n blk1 hnb]; exact h2,h3,fun j hj=>(h4 j hj).ext gh⟩
 ·rw [df] at h
  by_cases oU:b'=b
  ·rw [if_pos oU] at h; simp at h
  ·rw [if_neg oU] at h; simp [Mu.bind,oU,hS.born b' h]
 ·rw [df] at h
  show b' < σ.next
  by_cases oU:b'=b
  ·omega
  ·rw [if_neg oU] at h; exact hS.lim b' x h
 ·rw [df] at h
  by_cases oU:b'=b
  ·simp [Mu.bind,oU]
  ·rw [if_neg oU] at h; simp [Mu.bind,oU,hS.gone b' h]
 ·by_cases oU:b'=b
  ·simp [ag.cells,df,oU]
  ·have dZ:μ b'= .dead:=by simpa [Mu.bind,oU] using hm
   have:=hS.dead b' dZ
   simp only [ag.cells,df,if_neg oU] at this ⊢
   exact this
theorem vB: ∀ {l:ai} {s:aG},bytesOf l=some s->l=af s
 | [],s,h=>by simp [bytesOf] at h; subst h; rfl
 | .int .u8 n ::r,s,h=>by
  rw [bytesOf] at h
  split at h
  case h_2=>cases h
  rename_i l hl
  split at h <;> simp only [ah,reduceCtorEq] at h
  rename_i hn
  subst h
  have ih:=vB hl
  show _=_ ::af l
  rw [←ih]
  congr 2
  have:(UInt8.ofNat n.toNat).toNat=n.toNat:=by rw [dF]; exact aO (by show n.toNat < 2 ^ 8; omega)
  rw [this]; omega
 | .undef ::_,_,h | .bool _ ::_,_,h | .str _ ::_,_,h | .lit _ ::_,_,h | .fn .. ::_,_,h | .ptr .. ::_,_,h | .vptr .. ::_,_,h | .sl .. ::_,_,h | .vsl .. ::_,_,h | .e0 ::_,_,h | .nils ::_,_,h | .agg _ ::_,_,h | .tup _ ::_,_,h=>by simp [bytesOf] at h
 | .int .i8 _ ::_,_,h | .int .i16 _ ::_,_,h | .int .i32 _ ::_,_,h | .int .i64 _ ::_,_,h | .int .u16 _ ::_,_,h | .int .u32 _ ::_,_,h | .int .u64 _ ::_,_,h=>by simp [bytesOf] at h
open Go.Lib in
theorem e_ustr (g:bF P fm gm G w X μ σ N fr a) {e:Nat} {xs:List bq} (hc:aS P fm gm (.prim (.ustr e) xs) o.op=true) {xa:AV} {n:Int} (hx:xs.map (val G fr)= [xa, .int .i64 n])
  (h:qS σ e xa n=some (v,σ')):Dh P fm X μ o a w v σ':=by
 obtain ⟨x,y,rfl,hxa,hya⟩:=Bt hx
 obtain ⟨dst,op,type,pos,after,guard⟩:=o
 simp only [aS] at hc
 split at hc
 case h_2=>simp at hc
 rename_i args argTypes
 simp only [ak] at hc
 obtain ⟨hx,h0⟩:=hc
 obtain ⟨x',y',rfl,nt,WX⟩:=nJ hx
 have rx:=a8 g.glob g.rf nt
 have ry:=a8 g.glob g.rf WX
 rw [hxa] at rx
 rw [hya] at ry
 unfold Jo at h0
 split at h0
 case h_2=>simp at h0
 rename_i hue
 simp only [ak,beq_iff_eq] at h0
 obtain ⟨hce,h0⟩:=h0
 cases wo:argTypes[0]? with
 | none=>simp [wo] at h0
 | some t=>
 simp only [wo] at h0
 split at h0
 case h_2=>simp at h0
 rename_i u WY
 simp only [beq_iff_eq] at h0
 subst h0
 generalize nr:a.eval x'=xv at rx
 generalize ZY:a.eval y'=yv at ry
 cases ry
 unfold qS at h
 split at h
 case h_2=>cases h
 rename_i b
 split at h
 case isFalse=>cases h
 rename_i aA
 obtain ⟨ht,hn,hn63⟩:=aA
 split at h
 case h_2=>cases h
 rename_i cs ho
 split at h
 case isFalse=>cases h
 rename_i hle
 split at h
 case h_2=>cases h
 rename_i s hs
 simp only [ah,aI] at h
 obtain ⟨rfl,rfl⟩:=h
 have dy:σ.get b=some (.own cs):=by
  unfold ag.owned at ho
  split at ho
  ·rename_i cs' hh; rw [hh]; rw [br ho]
  ·cases ho
 have um:=vB hs
 rw [List.drop_zero] at um
 cases rx with
 | ptrDead _ _ y hm=>have:=g.rs.dead b hm; simp [ag.cells,dy] at this
 | ptr _ _ blk base ow hm=>
  obtain ⟨cs',arr,e',k1,k2,k3,k4⟩:=g.rs.cells b blk base ow hm
  rw [dy] at k1
  cases ow with
  | false=>simp at k1
  | true=>
   simp only [if_true,ah,jS.own.injEq] at k1
   subst k1
   obtain ⟨_,_,h4⟩:=g.rs.tys b u (qU ht)
   obtain ⟨rfl,nI,fz2,h5⟩:=h4 _ _ _ hm
   rw [k2] at h5
   simp only [ah,Obj.cells.injEq] at h5
   obtain ⟨rfl,rfl,rfl⟩:=h5
   have hlen:s.length=n.toNat:=by
    have:=congrArg List.length um
    simp [af] at this; omega
   have hnn:n=(s.length:Int):=by omega
   obtain ⟨x1,x2⟩:=Hw (k:=0) (n:=s.length) g.rs hm
   have od:w.shape? blk=some (e',arr.size):=by simp [World.shape?,k2]
   have dH:=run_unsafeString_row (P:=P) w t t type e' WY hce blk arr.size od s (by rintro rfl; simp at hlen; omega) aa aa (fun j x hj=>by
    have Xe:j < s.length:=(bA.1 hj).1
    have:=k4 j aa
    have e1:cs.getD j .undef= .int .u8 x.toNat:=by
     have h6:(cs.take n.toNat)[j]? =(af s)[j]? :=by rw [um]
     rw [List.getElem?_take,if_pos aa] at h6
     rw [a9,h6]
     simp [af,hj]
    rw [e1,Nat.zero_add] at this
    generalize hz:arr.getD j Go.undef=z at this
    cases this
    rw [dE,Nat.zero_add]
    have hja:j < arr.size:=by omega
    simp only [World.cell?,k2]
    simp [hja] at hz ⊢
    exact hz)
   have iD:Builtin.unsafeString_ argTypes type #[.pointer (some ⟨blk,0,none⟩), .int .i64 s.length]=Builtin.unsafeString_ #[t,t] type #[.pointer (some ⟨blk,0,none⟩), .int .i64 s.length]:=by
    have Nc: ∀ts:Array TypeId,Builtin.unsafeString_ ts type #[.pointer (some ⟨blk,0,none⟩), .int .i64 s.length]=(do
      let n ←asInt (.int .i64 s.length)
      let some pt:=ts[0]? | stuck "unsafe.String: no argument types"
      if n < 0 then runtimePanic (.error "unsafe.String: len out of range")
      if n > IntKind.i64.max then unsupported (.unsafePointer "String: a length above the largest int")
      if n=0 then pure (.string .empty)
      else if ←variablesAt ⟨blk,0,none⟩ (←elemOf pt) n.toNat then do
       let s ←loadBytes ⟨blk,0,none⟩ .empty n.toNat
       freeze ⟨blk,0,none⟩ n.toNat
       pure (.string s)
      else unsupported (.unsafePointer "String: not so many bytes at ptr")):=fun _=>rfl
    rw [Nc,Nc,wo]; rfl
   refine ⟨_,_,_, .inl ?_,RV.str s ⟨s.toArray⟩ (by simp),x1,x2⟩
   simp only [execOp,resolve,invoke,builtin,List.map_toArray,List.map_cons,List.map_nil,nr,ZY,Sem.run_bind,Sem.run_pure,Result.andThen_ok]
   rw [hnn,iD]
   simp [dH]
theorem Tc {e sz bytes:Nat} {x:AV} {new:ai} {n:Nat} {r:AV×ag} (h:jt σ e sz bytes x new n=some r):new.all AV.one=true:=by
 have key: ∀y z,aJ σ sz bytes y new n=some z->new.all AV.one=true:=by
  intro y z h
  unfold aJ at h
  split at h
  ·cases h
  ·split at h
   ·rename_i aA; exact aA.2.2.2.2
   ·cases h
 unfold jt at h
 split at h
 ·cases h
 split at h
 ·obtain ⟨z,h2,_⟩:=cp.1 h; exact key _ _ h2
 ·split at h
  ·obtain ⟨z,h2,_⟩:=cp.1 h; exact key _ _ h2
  ·cases h
 ·cases h
theorem Qn {e u:Nat} (hn:0 < P.cellsOf e) (h:liesAt P P.depth e 1 0 u 1=true) (hu:(match P.underlying u with | some (.array ..)=>false | _=>true)=true) {count:Nat} (hc:0 < count):liesAt P P.depth e count 0 u 1=true:=by
 have hd:P.depth=(2*(P.types.size+Made.depth)+1)+1:=rfl
 rw [hd] at h ⊢
 have fX: ¬P.cellsOf e=0:=by omega
 have h1:1<=count:=hc
 have hr: ∀(fits:TypeId->Bool) (d c:Nat),0 < c->rowAt P fits (d+1) e c 0 1=rowAt P fits (d+1) e 1 0 1:=by
  intro fits d c hc
  have h2:1<=c:=hc
  simp only [rowAt,if_neg fX,Nat.zero_div,Nat.zero_mod,Nat.zero_add,h2,hc,aE,decide_true,Bool.and_true,Nat.lt_irrefl,show (0:Nat) < 1 from Nat.one_pos]
 simp only [liesAt,Bool.or_eq_true] at h ⊢
 rcases h with h | h
 ·left
  rw [hd] at h ⊢
  rw [hr _ _ _ hc]; exact h
 ·split at h
  ·rename_i m u' hh
   rw [hh] at hu; simp at hu
  ·cases h
theorem e_cvp (g:bF P fm gm G w X μ σ N fr a) {e n:Nat} {xs:List bq} (hc:aS P fm gm (.prim (.cvp e n) xs) o.op=true) {xa:AV} (hx:xs.map (val G fr)= [xa]) (h:yO σ e n xa=some (v,σ')):Dh P fm X μ o a w v σ':=by
 obtain ⟨x,rfl,hxa⟩:=sD hx
 obtain ⟨dst,op,type,pos,after,guard⟩:=o
 simp only [aS] at hc
 split at hc
 case h_2=>simp at hc
 rename_i s d x'
 simp only [ak] at hc
 obtain ⟨uj,hc⟩:=hc
 have rx:=a8 g.glob g.rf (by simpa [bC] using hc:bh fm gm x x'=true)
 rw [hxa] at rx
 unfold yO at h
 split at h
 case h_2=>cases h
 rename_i b
 split at h
 case isFalse=>cases h
 rename_i ht
 split at h
 case h_2=>cases h
 rename_i cs ho
 split at h <;> simp only [ah,aI,reduceCtorEq] at h
 rename_i hle
 obtain ⟨rfl,rfl⟩:=h
 have dy:σ.get b=some (.own cs):=by
  unfold ag.owned at ho
  split at ho
  ·rename_i cs' hh; rw [hh]; rw [br ho]
  ·cases ho
 generalize nr:a.eval x'=xv at rx
 cases rx with
 | ptrDead _ _ y hm=>have:=g.rs.dead b hm; simp [ag.cells,dy] at this
 | ptr _ _ blk base ow hm=>
  obtain ⟨cs',arr,e',k1,k2,k3,k4⟩:=g.rs.cells b blk base ow hm
  have lC:cs'=cs:=by rw [dy] at k1; cases ow <;> simp at k1; exact k1.symm
  subst lC
  obtain ⟨_,_,h4⟩:=g.rs.tys b e (qU ht)
  obtain ⟨rfl,nI,fz2,h5⟩:=h4 _ _ _ hm
  rw [k2] at h5
  simp only [ah,Obj.cells.injEq] at h5
  obtain ⟨rfl,rfl,rfl⟩:=h5
  unfold SD at uj
  simp only [ak,beq_iff_eq] at uj
  obtain ⟨um,uj⟩:=uj
  have od:w.shape? blk=some (e',arr.size):=by simp [World.shape?,k2]
  have Ho:0 < arr.size:=by omega
  have hview:(viewAt blk).run P w= .ok none w:=by simp [viewAt,od]
  have Z3:(Conv.seenAt ⟨blk,0,none⟩).run P w= .ok ⟨blk,0,none⟩ w:=by simp [Conv.seenAt,hview]
  refine iL (s:=convert s d (a.eval x')) rfl ⟨.pointer (some ⟨blk,0+0,none⟩),w,μ,?_, .ptr b 0 blk 0 ow hm,Ext.refl _ _,g.rs⟩
  rw [nr]
  split at uj
  ·rename_i t hs hd
   simp only [ak,Bool.not_eq_true'] at uj
   obtain ⟨h0,hi⟩:=uj
   obtain ⟨i,hi⟩:=Option.isSome_iff_exists.1 hi
   have eA:i.size≠0:=by
    unfold dh at h0
    rw [hi] at h0
    simpa using h0
   have fX:arr≠ #[]:=by rintro rfl; simp at Ho
   simp [convert,Conv.unsafePointer,run_underlying hs,run_underlying hd,Z3,cellsIn,od,sizeOf,typeInfo,hi,eA,fX]
  ·rename_i u hs hd
   simp only [ak,Bool.not_eq_true'] at uj
   obtain ⟨⟨⟨hi,h0⟩,hl⟩,hu⟩:=uj
   obtain ⟨i,hi⟩:=Option.isSome_iff_exists.1 hi
   have eA:i.size≠0:=by
    unfold dh at h0
    rw [hi] at h0
    simpa using h0
   have hlie:=Qn (P:=P) (e:=e') (u:=u) aa hl hu (count:=arr.size / P.cellsOf e') (Nat.div_pos aa aa)
   simp [convert,Conv.unsafePointer,run_underlying hs,run_underlying hd,Z3,sizeOf,typeInfo,hi,eA,variablesAt,od,hlie]
  ·cases uj
end
end Go.Ab
namespace Go.Ab
open Go.RowKit
section
variable {P:Program} {fm gm:Nat->aD} {G:Nat->ai} {ip:Nat->Option aq}
theorem ml (vn: ∀g,aB (G g)=true) {w:World} {X:Nat->Prop} {μ:Mu} (h:dM fm gm G w X μ) (w':World) (X':Nat->Prop) (hb:Below w.heap.size w w') (hX: ∀b,X' b->Av X μ b) :
  dM fm gm G w' X' Mu.none:=by
 intro g g' hg
 refine (jO (h g g' hg) (by simpa [AV.closed] using vn g) ?_).bel hb
 rintro blk (hh | ⟨b,base,hh⟩)
 ·exact hX blk hh
 ·simp [Mu.none] at hh
section
variable {w:World} {X:Nat->Prop} {μ:Mu} {σ σ':ag} {N:Nat} {fr:Fr} {a:Act} {o:Oper} {v:AV}
theorem Kw (vn: ∀g,aB (G g)=true) (g:bF P fm gm G w X μ σ N fr a) {n m:Nat} (tA:fV P fm gm G ip n) (hm:m < n) {io:cB} (hc:aS P fm gm io o.op=true)
  (h:bz ip G (run ip G m) io fr σ=some (v,σ')):Ce P fm X μ o a w v σ':=by
 have bB: ∀ {io:cB},aS P fm gm io o.op=true->(aj G io fr σ).map (fun v=>(v,σ))=some (v,σ')->Ce P fm X μ o a w v σ':=by
  intro io hc h
  simp only [cp,aI] at h
  obtain ⟨v',hv,rfl,rfl⟩:=h
  exact .of_eff (PI g (JT g hc hv))
 cases io with
 | box x=>
  simp only [bz] at h
  split at h <;> simp only [ah,aI,reduceCtorEq] at h
  rename_i hk
  obtain ⟨rfl,rfl⟩:=h
  exact .of_eff (e_box g hc hk)
 | new z=>
  simp only [bz,ah,aI] at h
  obtain ⟨rfl,rfl⟩:=h
  exact .of_eff (e_new g hc)
 | buildSl own sz len z ps=>
  cases own with
  | false=>exact bB hc h
  | true=>
   simp only [bz] at h
   split at h
   case h_2=>simp at h
   rename_i cs Ht
   split at h <;> simp only [ah,aI,reduceCtorEq] at h
   rename_i hz
   obtain ⟨rfl,rfl⟩:=h
   exact .of_eff (Nw g hc Ht hz.1)
 | storeS n p x=>
  have h':fN σ n (val G fr p) (val G fr x)=some (v,σ'):=by simpa [bz] using h
  obtain rfl:=Dw h'
  exact (Ef g hc h').opWp g
 | store n p x=>
  simp only [bz] at h
  split at h
  case h_2=>simp at h
  rename_i b off hp
  split at h
  case h_2=>simp at h
  rename_i cs ho
  split at h <;> simp only [ah,aI,reduceCtorEq] at h
  rename_i aA
  obtain ⟨rfl,rfl⟩:=h
  exact .of_eff (XH g hc hp ho aA.1 aA.2.1 aA.2.2)
 | append sz bytes str x y=>exact .of_eff (Sv g hc h)
 | prim k xs=>
  simp only [bz] at h
  unfold gG at h
  split at h
  ·simp [aS] at hc
  ·rename_i hx; exact .of_eff (Su g hc hx h)
  ·rename_i hx; exact .of_eff (XI g hc hx h)
  ·rename_i hx; exact .of_eff (e_copy g hc hx h)
  ·rename_i hx
   split at h <;> simp only [ah,aI,reduceCtorEq] at h
   rename_i hk
   obtain ⟨rfl,rfl⟩:=h
   exact .of_eff (e_boxT g hc hx hk)
  ·rename_i hx
   split at h
   case isFalse=>simp at h
   rename_i hz
   subst hz
   refine .of_eff (Sw g hc hx (fun args ats tx y' _ ry hk=> ?_) h)
   generalize a.eval y'=yv at ry
   cases ry with
   | str _ b hb=>
    simp only [if_true] at hk
    have:=xD (P:=P) (fm:=fm) (w:=w) (X:=X) (μ:=μ) (s:=b) hk
    rw [←hb]
    rw [show b.size=b.data.toList.length from by simp] at this
    exact this
  ·rename_i hx
   split at h
   case h_2=>simp at h
   rename_i n new hn nN
   split at h
   ·simp at h
   refine .of_eff (Sw g hc hx (fun args ats tx y' _ ry hk=> ?_) h)
   obtain ⟨e',hk⟩:=by simpa using hk
   exact tL g.rs ry nN hn (Tc h) hk
  ·rename_i hx; exact .of_eff (e_mkNZ g hc hx h)
  ·rename_i hx; exact .of_eff (e_cvp g hc hx h)
  ·rename_i hx; exact .of_eff (e_ustr g hc hx h)
  ·simp at h
 | call sh f xs=>
  cases sh
  ·exact J0 g tA hm hc h
  ·exact Bn g tA hm (fun w' X' hb hX=>ml vn g.glob w' X' hb hX) hc h
  ·exact Bn g tA hm (fun w' X' hb hX=>ml vn g.glob w' X' hb hX) hc h
  ·simp only [bz] at h
   split at h
   ·rename_i h1
    split at h <;> simp only [ah,aI,reduceCtorEq] at h
    rename_i h2
    obtain ⟨rfl,rfl⟩:=h
    exact (GU g tA hm (fun w' X' hb hX=>ml vn g.glob w' X' hb hX) hc h1 h2).opWp g
   ·exact J0 g tA hm hc h
  ·simp only [bz] at h
   split at h
   ·rename_i h1
    split at h <;> simp only [ah,aI,reduceCtorEq] at h
    rename_i h2
    obtain ⟨rfl,rfl⟩:=h
    exact ((GU g tA hm (fun w' X' hb hX=>ml vn g.glob w' X' hb hX) hc h1 h2).weaken (fun _ _ hr=>Fk hr)).opWp g
   ·exact Bn g tA hm (fun w' X' hb hX=>ml vn g.glob w' X' hb hX) hc h
 | _=>exact bB hc h
end
theorem Jx {w:World} {X:Nat->Prop} {μ:Mu}:RV fm w X μ (.tup []) Go.undef:= .tup [] #[] rfl (fun j=>by simpa using RV.undef _)
theorem kL {ops:Array Oper} {io:aZ} {o:Oper} {N:Nat} {fr:Fr} {a:Act} {w:World} {X:Nat->Prop} {μ:Mu} (r:RF (fm:=fm) N fr a.tmps w X μ)
  (h:pr ops io.guard o.guard=true) {b:Bool} (hw:wanted io.guard fr=some b):Region.wanted o (yielded ops a.tmps)=b:=by
 cases hg:io.guard with
 | none=>
  rw [hg] at h hw
  cases EW:o.guard with
  | none=>simp only [wanted,ah] at hw; subst hw; simp [Region.wanted,EW]
  | some p=>rw [EW] at h; simp [pr] at h
 | some p=>
  obtain ⟨t,c⟩:=p
  rw [hg] at h hw
  cases EW:o.guard with
  | none=>rw [EW] at h; simp [pr] at h
  | some q=>
   obtain ⟨j,c'⟩:=q
   rw [EW] at h
   simp only [pr,ak,beq_iff_eq] at h
   obtain ⟨rfl,h⟩:=h
   cases hj:ops[j]? with
   | none=>simp [hj] at h
   | some oj=>
    simp only [hj,beq_iff_eq] at h
    simp only [wanted] at hw
    split at hw <;> simp only [ah,reduceCtorEq] at hw
    case h_2 hd=>
     have hr:=r.val t
     rw [hd] at hr
     generalize Aj:a.tmps.getD t Go.undef=tv at hr
     cases hr
     have hy:yielded ops a.tmps j=none:=by
      simp only [yielded,hj,Option.bind_some,h]
      cases htt:a.tmps[t]? with
      | none=>rfl
      | some q=>
       have:a.tmps.getD t Go.undef=q:=by simp [htt]
       rw [this] at Aj
       rw [Aj]
     simp only [Region.wanted,EW,hy]
     subst hw
     rfl
    rename_i d hd
    have hr:=r.val t
    rw [hd] at hr
    generalize Aj:a.tmps.getD t Go.undef=tv at hr
    cases hr
    have aN:t < a.tmps.size:=by
     rcases Nat.lt_or_ge t a.tmps.size with h' | h'
     ·exact h'
     ·simp [Array.getElem?_eq_none h',Go.undef] at Aj
    have htv2:a.tmps[t]? =some (.bool d):=by
     simp [aN] at Aj ⊢
     exact Aj
    have hy:yielded ops a.tmps j=some d:=by simp [yielded,hj,h,htv2]
    simp only [Region.wanted,EW,hy]
    subst hw
    cases d <;> cases c <;> rfl
theorem ops_wp (vn: ∀g,aB (G g)=true) {N:Nat} {n:Nat} (tA:fV P fm gm G ip n) {ops:Array Oper} {X:Nat->Prop} {fr':Fr} {σ':ag} :
  ∀ {os:List aZ} {fr:Fr} {σ:ag},nM ip G n os fr σ fr' σ'->∀(i:Nat) (rest:List Oper),ops.toList.drop i=rest->eG P fm gm N ops os rest=true->
  ∀ {w:World} {μ:Mu} {a:Act} (_:bF P fm gm G w X μ σ N fr a) {Q:Exit->Act->World->Prop},
   (∀a' w' μ',Out fm N X w μ a fr' σ' a' w' μ'->dM fm gm G w' X μ'->(∀b,X b->b < w'.heap.size)->Q .normal a' w')->wpOps P ops Q (List.range' i rest.length) a w:=by
 intro os fr σ h
 induction h with
 | nil fr σ=>
  intro i rest hi hc w μ a g Q hQ
  cases rest with
  | nil=>exact hQ a w μ ⟨g.rf,g.rs,Ext.refl _ _,rfl⟩ g.glob g.out
  | cons=>simp [eG] at hc
 | step io os fr fr' σ σ1 σ' v m hm hw hd _ ih=>
  intro i rest hi hc w μ a g Q hQ
  cases rest with
  | nil=>simp [eG] at hc
  | cons o rest=>
   simp only [eG,su,ak,beq_iff_eq] at hc
   obtain ⟨⟨⟨⟨EY,hN⟩,hg⟩,BB⟩,EP⟩:=hc
   have hoi:ops[i]? =some o:=by
    have:(ops.toList.drop i)[0]? =some o:=by rw [hi]; rfl
    simpa using this
   have pq:ops.toList.drop (i+1)=rest:=by
    have:ops.toList.drop (i+1)=(ops.toList.drop i).drop 1:=by simp [List.drop_drop]
    rw [this,hi]; rfl
   have yl:=kL g.rf hg hw
   rw [List.length_cons,List.range'_succ]
   simp only [wpOps,hoi,yl,if_true]
   refine .inl (Kw vn g tA hm BB hd _ _ (fun cv w' μ' h1 h2 h3=> ?_))
   have hdN: ∀d,o.dst=some d->d < N:=by
    intro d Ug
    rw [Ug] at hN
    simpa using hN
   have rf':RF (fm:=fm) N (fr.put io.dst v) (a.put o.dst cv).tmps w' X μ':=by rw [EY]; exact (g.rf.ext h2).put hdN h1
   have lR: ∀b,X b->b < w'.heap.size:=fun b hb=>Nat.lt_of_lt_of_le (g.out b hb) h2.size
   have Nc:(a.put o.dst cv).defers=a.defers:=by cases o.dst <;> rfl
   exact ih (i+1) rest pq EP ⟨g.glob.ext h2,h3,lR,rf'⟩ (fun a' w'' μ'' ho zo hx=>hQ a' w'' μ'' ⟨ho.rf,ho.rs,h2.trans ho.ext,ho.defers.trans Nc⟩ zo hx)
 | skip io os fr fr' σ σ' hw _ ih=>
  intro i rest hi hc w μ a g Q hQ
  cases rest with
  | nil=>simp [eG] at hc
  | cons o rest=>
   simp only [eG,su,ak,beq_iff_eq] at hc
   obtain ⟨⟨⟨⟨EY,hN⟩,hg⟩,BB⟩,EP⟩:=hc
   have hoi:ops[i]? =some o:=by
    have:(ops.toList.drop i)[0]? =some o:=by rw [hi]; rfl
    simpa using this
   have pq:ops.toList.drop (i+1)=rest:=by
    have:ops.toList.drop (i+1)=(ops.toList.drop i).drop 1:=by simp [List.drop_drop]
    rw [this,hi]; rfl
   have yl:=kL g.rf hg hw
   rw [List.length_cons,List.range'_succ]
   simp only [wpOps,hoi,yl]
   have hdN: ∀d,o.dst=some d->d < N:=by
    intro d Ug
    rw [Ug] at hN
    simpa using hN
   have rf':RF (fm:=fm) N (fr.put io.dst (.tup [])) (a.put o.dst Go.undef).tmps w X μ:=by rw [EY]; exact g.rf.put hdN Jx
   have Nc:(a.put o.dst Go.undef).defers=a.defers:=by cases o.dst <;> rfl
   exact ih (i+1) rest pq EP ⟨g.glob,g.rs,g.out,rf'⟩ (fun a' w'' μ'' ho zo hx=>hQ a' w'' μ'' ⟨ho.rf,ho.rs,ho.ext,ho.defers.trans Nc⟩ zo hx)
def xt (P:Program) (fm gm:Nat->aD) (G:Nat->ai) (ip:Nat->Option aq) (dc:List aZ->Array Oper->Bool):Prop:=
 ∀(n N:Nat) (os:List aZ) (ops:Array Oper) (fr fr':Fr) (σ σ':ag) (X:Nat->Prop) (w:World) (μ:Mu) (a:Act) (id:Nat),
  fV P fm gm G ip n->dc os ops=true->eG P fm gm N ops os ops.toList=true->nM ip G n os fr σ fr' σ'->bF P fm gm G w X μ σ N fr a->
  (Code.region id ops true).wp P (fun e a' w'=>e= .normal/\∃μ',Out fm N X w μ a fr' σ' a' w' μ'/\dM fm gm G w' X μ'/\∀b,X b->b < w'.heap.size) a w
inductive yZ (P:Program) (fm gm:Nat->aD) (dc:List aZ->Array Oper->Bool) (N:Nat):List Item->List Go.Item->Prop
 | nil:yZ P fm gm dc N [] []
 | code {ic:an} {c:Code} {k:List Item} {l:List Go.Item} (h:dz P fm gm dc N ic c=true) (t:yZ P fm gm dc N k l):yZ P fm gm dc N (.code ic ::k) (.code c ::l)
 | inBlock {id:Nat} {k:List Item} {l:List Go.Item} (t:yZ P fm gm dc N k l):yZ P fm gm dc N (.inBlock id ::k) (.inBlock id ::l)
 | inLoop {live:List Nat} {ic:an} {c:Code} {k:List Item} {l:List Go.Item} (h:dz P fm gm dc N ic c=true) (t:yZ P fm gm dc N k l):yZ P fm gm dc N (.inLoop live ic ::k) (.inLoop c ::l)
theorem Fg {dc:List aZ->Array Oper->Bool} {N id:Nat} {k k':List Item} {l:List Go.Item} (t:yZ P fm gm dc N k l) (h:exitTo id k=some k') (rest:List Go.Item) :
  ∃l',Go.exitTo id (l ++rest)=some (l' ++rest)/\yZ P fm gm dc N k' l':=by
 induction t with
 | nil=>simp [exitTo] at h
 | code hc t ih=>simp only [exitTo] at h; obtain ⟨l',h1,h2⟩:=ih h; exact ⟨l',by simpa [Go.exitTo] using h1,h2⟩
 | inLoop hc t ih=>simp only [exitTo] at h; obtain ⟨l',h1,h2⟩:=ih h; exact ⟨l',by simpa [Go.exitTo] using h1,h2⟩
 | inBlock t ih=>
  rename_i id' k l
  simp only [exitTo] at h
  by_cases hid:id'=id
  ·rw [if_pos hid] at h
   simp only [ah] at h
   subst h hid
   exact ⟨l,by simp [Go.exitTo],t⟩
  ·rw [if_neg hid] at h
   obtain ⟨l',h1,h2⟩:=ih h
   exact ⟨l',by simpa [Go.exitTo,hid] using h1,h2⟩
theorem Q4 (l:List Nat) (fr:Fr) (t:Nat):(keep l fr).get t=fr.get t∨(keep l fr).get t= .undef:=by
 unfold keep
 induction l with
 | nil=>right; rfl
 | cons x l ih=>
  simp only [List.map_cons]
  unfold Fr.get
  rw [jD]
  by_cases h:x=t
  ·subst h; left; rw [if_pos rfl]; rfl
  ·rw [if_neg h]; exact ih
theorem bF.keep {w:World} {X:Nat->Prop} {μ:Mu} {σ:ag} {N:Nat} {fr:Fr} {a:Act} (g:bF P fm gm G w X μ σ N fr a) (l:List Nat):bF P fm gm G w X μ σ N (Ab.keep l fr) a:=
 ⟨g.glob,g.rs,g.out,⟨g.rf.size,fun t=>by
  rcases Q4 l fr t with h | h
  ·rw [h]; exact g.rf.val t
  ·rw [h]; exact .undef _⟩⟩
theorem LR (vn: ∀g,aB (G g)=true) {dc:List aZ->Array Oper->Bool} (hdc:xt P fm gm G ip dc) {N:Nat} {X:Nat->Prop} :
  ∀(n:Nat),fV P fm gm G ip n->∀(k:List Item) (fr fr':Fr) (σ σ':ag),run ip G n k fr σ=some (fr',σ')->
  ∀(w:World) (μ:Mu) (a:Act) (l:List Go.Item),yZ P fm gm dc N k l->bF P fm gm G w X μ σ N fr a->∀(b:Frame) (rest:List Go.Item) (cs:List Frame),
   ∃e a' w' μ',(e= .normal∨e= .ret)/\Arrives P (lone (b.at a (l ++rest)) cs w) b rest cs e a' w'/\Out fm N X w μ a fr' σ' a' w' μ':=by
 intro n
 induction n with
 | zero=>intro _ k fr fr' σ σ' h; simp [run] at h
 | succ n ih=>
  intro tA k fr fr' σ σ' h w μ a l t g b rest cs
  have hSC':fV P fm gm G ip n:=fun m hm=>tA m aa
  have go: ∀ {m:Machine} {a1:Act} {w1:World} {μ1:Mu} {rL:Fr} {σ1:ag} {k1:List Item} {l1:List Go.Item},Steps P m (lone (b.at a1 (l1 ++rest)) cs w1)->
    run ip G n k1 rL σ1=some (fr',σ')->yZ P fm gm dc N k1 l1->bF P fm gm G w1 X μ1 σ1 N rL a1->Ext w μ w1 μ1->a1.defers=a.defers->
    ∃e a' w' μ',(e= .normal∨e= .ret)/\Arrives P m b rest cs e a' w'/\Out fm N X w μ a fr' σ' a' w' μ':=by
   intro m a1 w1 μ1 rL σ1 k1 l1 hs hr ht hg he hd
   obtain ⟨e,a',w',μ',h1,h2,h3⟩:=ih hSC' k1 rL fr' σ1 σ' hr w1 μ1 a1 l1 ht hg b rest cs
   exact ⟨e,a',w',μ',h1, .of_steps hs h2,⟨h3.rf,h3.rs,he.trans h3.ext,h3.defers.trans hd⟩⟩
  cases t with
  | nil=>
   simp only [run,ah,aI] at h
   obtain ⟨rfl,rfl⟩:=h
   exact ⟨.normal,a,w,μ, .inl rfl,Steps.refl _ _,⟨g.rf,g.rs,Ext.refl _ _,rfl⟩⟩
  | inBlock t=>
   simp only [run] at h
   exact go (.one step_inBlock) h t g (Ext.refl _ _) rfl
  | inLoop hc t=>
   simp only [run] at h
   exact go (.one step_inLoop) h (.code hc (.inLoop hc t)) (g.keep _) (Ext.refl _ _) rfl
  | code hc t=>
   rename_i ic c k l
   cases ic with
   | stop=>simp [run] at h
   | skip=>
    cases c <;> simp only [dz,aX] at hc
    simp only [run] at h
    exact go (.one step_skip) h t g (Ext.refl _ _) rfl
   | seq x y=>
    cases c <;> simp only [dz,aX,ak] at hc
    simp only [run] at h
    exact go (.one step_seq) h (.code hc.1 (.code hc.2 t)) g (Ext.refl _ _) rfl
   | cond x y z=>
    cases c <;> simp only [dz,aX,ak] at hc
    rename_i x' y' z'
    simp only [run] at h
    split at h
    case h_2=>simp at h
    rename_i tt hv
    have rx:=a8 g.glob g.rf hc.1.1
    rw [hv] at rx
    generalize Z0:a.eval x'=xv at rx
    cases rx
    cases tt
    ·exact go (.one (step_cond Z0)) h (.code hc.2 t) g (Ext.refl _ _) rfl
    ·exact go (.one (step_cond Z0)) h (.code hc.1.2 t) g (Ext.refl _ _) rfl
   | block id x=>
    cases c <;> simp only [dz,aX,ak,beq_iff_eq] at hc
    obtain ⟨rfl,hc⟩:=hc
    simp only [run] at h
    exact go (.one step_block) h (.code hc (.inBlock t)) g (Ext.refl _ _) rfl
   | loop l x=>
    cases c <;> simp only [dz,aX] at hc
    simp only [run] at h
    exact go (.one step_loop) h (.code hc (.inLoop hc t)) (g.keep l) (Ext.refl _ _) rfl
   | keep l x=>
    simp only [dz] at hc
    simp only [run] at h
    exact go (.refl _ _) h (.code hc t) (g.keep l) (Ext.refl _ _) rfl
   | frz l x=>
    simp only [dz] at hc
    simp only [run] at h
    obtain ⟨μ1,x1,r1⟩:=vp (fr:=fr) l g.rs
    exact go (.refl _ _) h (.code hc t) ⟨g.glob.ext x1,r1,g.out,g.rf.ext x1⟩ x1 rfl
   | arity m x=>simp only [dz,aX] at hc
   | exit id=>
    cases c <;> simp only [dz,aX,beq_iff_eq] at hc
    subst hc
    simp only [run] at h
    split at h
    case h_2=>simp at h
    rename_i k' hk
    obtain ⟨l',h1,h2⟩:=Fg t hk rest
    exact go (.one (step_exit h1)) h h2 g (Ext.refl _ _) rfl
   | ret=>
    cases c <;> simp only [dz,aX] at hc
    simp only [run,ah,aI] at h
    obtain ⟨rfl,rfl⟩:=h
    exact ⟨.ret,a,w,μ, .inr rfl,⟨_, .one step_ret⟩,⟨g.rf,g.rs,Ext.refl _ _,rfl⟩⟩
   | region os=>
    cases c <;> simp only [dz,aX,ak] at hc
    rename_i id ops draw
    obtain ⟨hc,hd⟩:=hc
    simp only [run] at h
    obtain ⟨m,rL,σ1,hm,hex,EP⟩:=A7 n os k fr fr' σ σ' h
    have hwp:(Code.region id ops draw).wp P (fun e a' w'=>e= .normal/\∃μ',Out fm N X w μ a rL σ1 a' w' μ'/\dM fm gm G w' X μ'/\∀b,X b->b < w'.heap.size) a w:=by
     cases draw with
     | false=>
      refine wp_region ?_
      have:=ops_wp vn hSC' hex 0 ops.toList rfl hc g (Q:=fun e a' w'=>e= .normal/\∃μ',Out fm N X w μ a rL σ1 a' w' μ'/\dM fm gm G w' X μ'/\∀b,X b->b < w'.heap.size)
       (fun a' w' μ' h1 h2 h3=>⟨rfl,μ',h1,h2,h3⟩)
      rw [Array.length_toList] at this
      rw [List.range_eq_range']
      exact this
     | true=>
      simp only [Bool.not_true,Bool.false_or] at hd
      exact hdc n N os ops fr rL σ σ1 X w μ a id hSC' hd hc hex g
    obtain ⟨e,a1,w1,⟨rfl,μ1,ho,zo,hx⟩,E6⟩:=hwp b (l ++rest) cs
    have hup:run ip G n k rL σ1=some (fr',σ'):=by
     exact o9 aa _ _ _ _ EP
    exact go E6 hup t ⟨zo,ho.rs,hx,ho.rf⟩ ho.ext ho.defers
end
end Go.Ab
namespace Go.Ab
open Go.RowKit
section
variable {P:Program} {fm gm:Nat->aD} {G:Nat->ai} {ip:Nat->Option aq}
theorem rY {w:World} {α β:Type} (f:α->Sem β): ∀(xs:List α) (ys:List β),xs.length=ys.length->(∀(i:Nat) (x:α) (y:β),xs[i]? =some x->ys[i]? =some y->(f x).run P w= .ok y w)->(xs.mapM f).run P w= .ok ys w
 | [], [],_,_=>by simp
 | x ::xs,y ::ys,h,hh=>by
  have h0:=hh 0 x y rfl rfl
  have ih:=rY f xs ys (by simpa using h) (fun i a b ha hb=>hh (i+1) a b (by simpa using ha) (by simpa using hb))
  simp [List.mapM_cons,h0,ih]
 | [],_ ::_,h,_=>by simp at h
 | _ ::_, [],h,_=>by simp at h
theorem Gs {w:World} {X:Nat->Prop} {μ:Mu} {σ:ag} {N:Nat} {fr:Fr} {tmps:Array Value} (hS:RS (fm:=fm) σ w X μ) (r:RF (fm:=fm) N fr tmps w X μ) :
  ∀ {l:List NX} {l':List ResultVar} {vs:ai},kC P l l'=true->oM fr σ l=some vs->
   ∃ys:List Value,ys.length=l'.length/\vs.length=ys.length/\(∀j,RV fm w X μ (vs.getD j .undef) (ys.getD j Go.undef))/\
    ∀(i:Nat) (x:ResultVar) (y:Value),l'[i]? =some x->ys[i]? =some y->((fun | .tmp t=>pure (tmps.getD t undef) | .cell a t=>do loadVar t (←asAddr (tmps.getD a undef)):ResultVar->Sem Value) x).run P w= .ok y w
 | [], [],vs,_,h=>by
  simp only [oM,ah] at h
  subst h
  exact ⟨[],rfl,rfl,fun j=> .undef _,fun i x y hx=>by simp at hx⟩
 | .tmp t ::l, .tmp t' ::l',vs,hc,h=>by
  simp only [kC,ak,beq_iff_eq] at hc
  obtain ⟨rfl,hc⟩:=hc
  simp only [oM] at h
  split at h <;> simp only [ah,reduceCtorEq] at h
  rename_i qE hv
  subst h
  obtain ⟨ys,h1,h2,h3,h4⟩:=Gs hS r hc hv
  refine ⟨tmps.getD t Go.undef ::ys,by simp [h1],by simp [h2],fun j=> ?_,fun i x y hx hy=> ?_⟩
  ·cases j with
   | zero=>simpa using r.val t
   | succ j=>simpa using h3 j
  ·cases i with
   | zero=>
    simp only [List.getElem?_cons_zero,ah] at hx hy
    subst hx hy
    rfl
   | succ i=>exact h4 i x y (by simpa using hx) (by simpa using hy)
 | .cell t n ::l, .cell t' ty ::l',vs,hc,h=>by
  simp only [kC,ak,beq_iff_eq] at hc
  obtain ⟨⟨rfl,hl⟩,hc⟩:=hc
  simp only [oM] at h
  split at h <;> simp only [ah,reduceCtorEq] at h
  rename_i v qE hv1 hv
  subst h
  obtain ⟨ys,h1,h2,h3,h4⟩:=Gs hS r hc hv
  obtain ⟨blk,base,off,cs,hpv,hr1,Od⟩:=qI hS (r.val t) hv1
  obtain ⟨cv,uj,hrv⟩:=uY (P:=P) hl hr1 Od
  refine ⟨cv ::ys,by simp [h1],by simp [h2],fun j=> ?_,fun i x y hx hy=> ?_⟩
  ·cases j with
   | zero=>simpa using hrv
   | succ j=>simpa using h3 j
  ·cases i with
   | zero=>
    simp only [List.getElem?_cons_zero,ah] at hx hy
    subst hx hy
    show (do loadVar ty (←asAddr (tmps.getD t undef)):Sem Value).run P w=_
    rw [hpv]
    simpa [asAddr] using uj
   | succ i=>exact h4 i x y (by simpa using hx) (by simpa using hy)
 | [],_ ::_,_,hc,_=>by simp [kC] at hc
 | .tmp _ ::_, [],_,hc,_=>by simp [kC] at hc
 | .cell _ _ ::_, [],_,hc,_=>by simp [kC] at hc
 | .tmp _ ::_, .cell _ _ ::_,_,hc,_=>by simp [kC] at hc
 | .cell _ _ ::_, .tmp _ ::_,_,hc,_=>by simp [kC] at hc
theorem LS {w:World} {X:Nat->Prop} {μ:Mu} {σ:ag} {N:Nat} {fr:Fr} {tmps:Array Value} (hS:RS (fm:=fm) σ w X μ) (r:RF (fm:=fm) N fr tmps w X μ) {fn:Func}
  {l:List NX} (hc:kC P l fn.results.toList=true) {v:AV} (h:iB fr σ l=some v): ∃cv,(results fn tmps).run P w= .ok cv w/\RV fm w X μ v cv:=by
 unfold iB at h
 cases hr:oM fr σ l with
 | none=>simp [hr] at h
 | some vs=>
  rw [hr] at h
  obtain ⟨ys,h1,h2,h3,h4⟩:=Gs hS r hc hr
  have hmap:(fn.results.mapM fun | .tmp t=>pure (tmps.getD t undef) | .cell a t=>do loadVar t (←asAddr (tmps.getD a undef)):Sem (Array Value)).run P w= .ok ys.toArray w:=by
   have e:fn.results=fn.results.toList.toArray:=by simp
   rw [e,List.mapM_toArray]
   simp only [Sem.run_map]
   rw [rY _ fn.results.toList ys h1.symm h4]
   rfl
  have rm:(results fn tmps).run P w= .ok (if h:ys.toArray.size=1 then ys.toArray[0] else .tuple ys.toArray) w:=by
   have h5:=congrArg (fun q:Result (Array Value)=>q.andThen fun vs w'=>(pure (if h:vs.size=1 then vs[0] else .tuple vs):Sem Value).run P w') hmap
   exact (Sem.run_bind' P _ _ w).trans h5
  refine ⟨_,rm,?_⟩
  match vs,ys,h2,h,h3 with
  | [v1], [y1],_,h,h3=>
   simp only [ah] at h
   subst h
   simpa using h3 0
  | [], [],_,h,_=>
   simp only [ah] at h
   subst h
   exact .tup [] #[] rfl (fun j=> .undef _)
  | v1 ::v2 ::vs,y1 ::y2 ::ys,h2,h,h3=>
   simp only [ah] at h
   subst h
   rw [dif_neg (by simp)]
   exact .tup _ _ (by simpa using h2) (fun j=>by simpa using h3 j)
theorem Ah: ∀(l:ai) (k t:Nat),look ((List.range' k l.length).zip l) t=if k<=t then l[t - k]? else none
 | [],k,t=>by simp [look]
 | x ::l,k,t=>by
  simp only [List.length_cons,List.range'_succ,List.zip_cons_cons,look]
  rw [Ah l (k+1) t]
  by_cases h:k=t
  ·subst h; simp
  ·rw [if_neg h]
   by_cases h2:k<=t
   ·rw [if_pos h2,if_pos aa]
    have:t - k=(t - (k+1))+1:=by omega
    rw [this]; simp
   ·rw [if_neg h2,if_neg aa]
theorem yj (l:ai) (t:Nat):(eW l).get t=l.getD t .undef:=by
 unfold eW Fr.get
 rw [List.range_eq_range',Ah]
 simp
def NatOk (P:Program) (fm:Nat->aD) (F:aq) (f':FuncId):Prop:=
 ∃k n,F=Qj k n/\(∃fn,P.funcs[f']? =some fn/\fn.body.isSome=true/\fn.name≠ "runtime.NumGoroutine")/\
  ∀(X:Nat->Prop) (μ:Mu) (w:World) (σ σ':ag) (args:ai) (args':Array Value) (r:AV),RS (fm:=fm) σ w X μ->(∀b,X b->b < w.heap.size)->args.length=args'.size->
   (∀j,RV fm w X μ (args.getD j .undef) (args'.getD j Go.undef))->gG k σ args=some (r,σ')->T5 P fm X μ f' args' w r σ'
def y5 (P:Program) (fm gm:Nat->aD) (ip:Nat->Option aq) (dc:List aZ->Array Oper->Bool):Prop:=
 ∀id F f',ip id=some F->fm id=some f'->BE P fm gm dc F f'=true∨NatOk P fm F f'
theorem Gu (args:ai):(List.range args.length).map (fun t=>(eW args).get t)=args:=by
 apply List.ext_getElem
 ·simp
 ·intro i h1 h2
  simp only [List.getElem_map,List.getElem_range,yj]
  simp [h2]
theorem Wv {k:AT} {n m:Nat} {args:ai} {σ σ1:ag} {rL:Fr} {rv:AV} (h:run ip G m [.code (Qj k n).body] (eW args) σ=some (rL,σ1)) (hr:iB rL σ1 (Qj k n).res=some rv) :
  gG k σ args=some (rv,σ1):=by
 obtain ⟨m1,rfl⟩ : ∃m1,m=m1+1:=⟨m - 1,by cases m with | zero=>simp [run] at h | succ m=>rfl⟩
 simp only [Qj,run] at h
 split at h
 case isFalse=>simp at h
 rename_i hlen
 have sL:args.length=n:=by simpa [eW] using hlen
 subst sL
 match m1,h with
 | 0,h=>simp [run] at h
 | 1,h=>simp [run] at h
 | 2,h=>simp [run] at h
 | 3,h=>simp [run,wanted] at h; split at h <;> simp [run] at h
 | 4,h=>
  simp only [run,wanted,bz] at h
  split at h
  ·simp [run] at h
  ·simp at h
 | m1+5,h=>
  simp only [run,wanted,bz,List.map_map] at h
  split at h
  case h_2=>simp at h
  rename_i v σ' hp
  simp only [ah,aI] at h
  obtain ⟨rfl,rfl⟩:=h
  have he:(List.range args.length).map ((val G (eW args)) ∘ bq.tmp)=args:=Gu args
  rw [he] at hp
  simp only [Qj,iB,oM,Fr.put,Fr.get,look,if_true,Option.getD_some,ah] at hr
  rw [hp,hr]
theorem LP (vn: ∀g,aB (G g)=true) {dc:List aZ->Array Oper->Bool} (hdc:xt P fm gm G ip dc) (hP:y5 P fm gm ip dc): ∀n,fV P fm gm G ip n:=by
 intro n
 induction n with
 | zero=>intro m hm; omega
 | succ n ih=>
  intro m hm
  by_cases aN:m < n
  ·exact ih m aN
  have Z9:m=n:=by omega
  subst Z9
  intro X μ w σ σ' id first args caps r h zo hS hX f' cV args' eo hf l1 l2 l3 r1 r2 r3
  simp only [dj] at h
  cases hF:ip id with
  | none=>simp [hF] at h
  | some F=>
   simp only [hF] at h
   cases hr:run ip G m [.code F.body] (eW (first ++args ++caps)) σ with
   | none=>rw [hr] at h; simp at h
   | some y=>
    obtain ⟨rL,σ1⟩:=y
    rw [hr] at h
    simp only at h
    split at h <;> simp only [ah,aI,reduceCtorEq] at h
    rename_i rv hrv
    obtain ⟨rfl,rfl⟩:=h
    rcases hP id F f' hF hf with QY | ⟨k,n,rfl,Kn,hnat⟩
    case inr=>
     refine ⟨Kn,?_⟩
     have hp:=Wv hr hrv
     refine hnat X μ w σ σ1 _ _ rv hS hX (by simp [l1,l2,l3]) ?_ hp
     have key: ∀(p:ai) (p':Array Value) (q:ai) (q':Array Value),p.length=p'.size->(∀j,RV fm w X μ (p.getD j .undef) (p'.getD j Go.undef))->
       (∀j,RV fm w X μ (q.getD j .undef) (q'.getD j Go.undef))->∀j,RV fm w X μ ((p ++q).getD j .undef) ((p' ++q').getD j Go.undef):=by
      intro p p' q q' hl h1 h2 j
      simp only [a9,Array.getD_eq_getD_getElem?,List.getElem?_append,Array.getElem?_append]
      by_cases hj:j < p.length
      ·rw [if_pos hj,if_pos aa]; simpa using h1 j
      ·rw [if_neg hj,if_neg aa,hl]; simpa using h2 (j - p'.size)
     exact key _ _ _ _ (by simp [l1,l2]) (key _ _ _ _ l1 r1 r2) r3
    unfold BE at QY
    split at QY
    case h_2=>simp at QY
    rename_i fn Kn
    simp only [ak,bne_iff_ne,ne_eq] at QY
    obtain ⟨⟨QX,rm⟩,QL⟩:=QY
    split at QX
    case h_2=>simp at QX
    rename_i c hbody
    refine ⟨⟨fn,Kn,by simp [hbody],QL⟩,?_⟩
    refine calls_of_wp Kn hbody ?_
    have hinit:RF (fm:=fm) fn.ntmps (eW (first ++args ++caps)) ((cV ++args' ++eo) ++Array.replicate (fn.ntmps - (cV ++args' ++eo).size) Go.undef) w X μ:=by
     refine ⟨by simp; omega,fun t=> ?_⟩
     rw [yj]
     have hl:(first ++args ++caps).length=(cV ++args' ++eo).size:=by simp [l1,l2,l3]
     by_cases ht:t < (first ++args ++caps).length
     ·have e1:((cV ++args' ++eo) ++Array.replicate (fn.ntmps - (cV ++args' ++eo).size) Go.undef).getD t Go.undef=(cV ++args' ++eo).getD t Go.undef:=by
       have ht':t < (cV ++args' ++eo).size:=by omega
       simp only [Array.getD_eq_getD_getElem?]
       rw [Array.getElem?_append_left ht']
      rw [e1]
      have key: ∀(p:ai) (p':Array Value) (q:ai) (q':Array Value),p.length=p'.size->(∀j,RV fm w X μ (p.getD j .undef) (p'.getD j Go.undef))->
        (∀j,RV fm w X μ (q.getD j .undef) (q'.getD j Go.undef))->∀j,RV fm w X μ ((p ++q).getD j .undef) ((p' ++q').getD j Go.undef):=by
       intro p p' q q' hl h1 h2 j
       simp only [a9,Array.getD_eq_getD_getElem?,List.getElem?_append,Array.getElem?_append]
       by_cases hj:j < p.length
       ·rw [if_pos hj,if_pos aa]; simpa using h1 j
       ·rw [if_neg hj,if_neg aa,hl]; simpa using h2 (j - p'.size)
      exact key _ _ _ _ (by simp [l1,l2]) (key _ _ _ _ l1 r1 r2) r3 t
     ·have:(first ++args ++caps).getD t .undef= .undef:=by rw [a9,cK aa]; rfl
      rw [this]; exact .undef _
    intro b k cs
    obtain ⟨e,a',w',μ',he,E6,ho⟩:=LR vn hdc m (fun k hk=>ih k aa) [.code F.body] _ rL σ σ1 hr w μ
     { tmps:=(cV ++args' ++eo) ++Array.replicate (fn.ntmps - (cV ++args' ++eo).size) Go.undef,defers:= [] } [.code c] (.code QX .nil) ⟨zo,hS,hX,hinit⟩ b k cs
    obtain ⟨cv,uj,hrv2⟩:=LS (P:=P) ho.rs ho.rf rm hrv
    refine ⟨e,a',w',?_,E6⟩
    have Xl:a'.defers= []/\∃v,(results fn a'.tmps).run P w'= .ok v w'/\∃cv μ',Ending.returned v= .returned cv/\RV fm w' X μ' rv cv/\RS (fm:=fm) σ1 w' X μ'/\Ext w μ w' μ':=
     ⟨ho.defers,cv,uj,cv,μ',rfl,hrv2,ho.rs,ho.ext⟩
    rcases he with rfl | rfl
    ·exact Xl
    ·exact Xl
def acall (ip:Nat->Option aq) (G:Nat->ai) (n:Nat) (id:Nat) (args:ai):Option (AV×ag):=dj ip (run ip G n) (.fn id [] []) args .empty
theorem FF (vn: ∀g,aB (G g)=true) {dc:List aZ->Array Oper->Bool} (hdc:xt P fm gm G ip dc) (hP:y5 P fm gm ip dc)
  {n id:Nat} {args:ai} {r:AV} {σ1:ag} (h:acall ip G n id args=some (r,σ1)) {f':FuncId} (hf:fm id=some f') {w:World} (zo:dM fm gm G w (fun _=>False) Mu.none)
  {args':Array Value} (hl:args.length=args'.size) (hr: ∀j,RV fm w (fun _=>False) Mu.none (args.getD j .undef) (args'.getD j Go.undef)) :
  Calls P f' args' w fun e w'=>∃cv μ',e= .returned cv/\RV fm w' (fun _=>False) μ' r cv/\Below w.heap.size w w':=by
 have:=(LP vn hdc hP (n+1) n aa (fun _=>False) Mu.none w .empty σ1 id [] args [] r h zo Fo (fun _ hh=>hh.elim) f' #[] args' #[] hf rfl hl rfl
  (fun j=>by simpa using RV.undef _) hr (fun j=>by simpa using RV.undef _)).2
 have e:(#[] ++args' ++ #[] :Array Value)=args':=by simp
 rw [e] at this
 exact Calls.mono this (by rintro e w' ⟨cv,μ',rfl,h2,h3,h4⟩; exact ⟨cv,μ',rfl,h2,sY h4⟩)
end
end Go.Ab
