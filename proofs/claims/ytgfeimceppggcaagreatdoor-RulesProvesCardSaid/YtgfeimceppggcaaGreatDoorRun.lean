/- A call that the abstract machine answers is answered so by the model, and nothing old turns. Conditions: none. -/
import Derived.Test.YtgfeimceppggcaaGreatDoorMach
import Derived.Laws.CopyRow
import Derived.Deep.AppendSrc
import Derived.Deep.Upon
import Derived.Laws.MakeOwn
import Derived.Lib.MakeNoZero
import Derived.Lib.UnsafeStr
set_option linter.unusedVariables false
set_option linter.unusedSimpArgs false
set_option linter.defProp false
set_option linter.unnecessarySimpa false
namespace Go.Ab
set_option maxRecDepth 100000
theorem iI: ∀l:ai,eP l=l.map AV.er
 | []=>rfl
 | v ::r=>by simp [eP,iI r]
mutual
theorem B6: ∀v:AV,v.er.closed=v.closed
 | .vsl els _=>by simp [AV.er,AV.closed,jq els]
 | .nils | .e0=>by simp [AV.er,AV.closed,ay]
 | .agg cs=>by simp [AV.er,AV.closed,jq cs]
 | .tup cs=>by simp [AV.er,AV.closed,jq cs]
 | .vptr cs off=>by simp [AV.er,AV.closed,jq cs]
 | .fn f a c=>by simp [AV.er,AV.closed,jq a,jq c]
 | .undef | .bool _ | .int _ _ | .str _ | .lit _ | .ptr _ _ | .sl .. =>by simp [AV.er,AV.closed]
theorem jq: ∀l:ai,ay (eP l)=ay l
 | []=>rfl
 | v ::r=>by simp [eP,ay,B6 v,jq r]
end
mutual
theorem xC: ∀v:AV,v.er.flat=v.flat
 | .vsl els _=>by cases els <;> simp [AV.er,AV.flat,eP]
 | .nils | .e0=>by simp [AV.er,AV.flat]
 | .agg cs=>by simp [AV.er,AV.flat,nY cs]
 | .tup cs=>by simp [AV.er,AV.flat,nY cs]
 | .vptr cs off=>by simp [AV.er,AV.flat]
 | .fn f a c=>by simp [AV.er,AV.flat,nY a,nY c]
 | .undef | .bool _ | .int _ _ | .str _ | .lit _ | .ptr _ _ | .sl .. =>by simp [AV.er,AV.flat]
theorem nY: ∀l:ai,po (eP l)=po l
 | []=>rfl
 | v ::r=>by simp [eP,po,xC v,nY r]
end
mutual
theorem er_er: ∀v:AV,v.er.er=v.er
 | .vsl els _=>by simp [AV.er,oT els]
 | .nils | .e0=>by simp [AV.er,eP]
 | .agg cs=>by simp [AV.er,oT cs]
 | .tup cs=>by simp [AV.er,oT cs]
 | .vptr cs off=>by simp [AV.er,oT cs]
 | .fn f a c=>by simp [AV.er,oT a,oT c]
 | .undef | .bool _ | .int _ _ | .str _ | .lit _ | .ptr _ _ | .sl .. =>by simp [AV.er]
theorem oT: ∀l:ai,eP (eP l)=eP l
 | []=>rfl
 | v ::r=>by simp [eP,er_er v,oT r]
end
end Go.Ab
namespace Go.Ab
open Go.RowKit
section
variable {P:Program} {fm gm:Nat->aA} {G:Nat->ai}
variable {w:World} {X:Nat->Prop} {μ:Mu} {σ:ag}
theorem cW (σ:ag) (cs:ai) (b:Nat):(σ.alloc cs).get b=if b=σ.next then some (.own cs) else σ.get b:=by
 simp only [ag.alloc,ag.get,j5]
 by_cases h:σ.next=b
 ·rw [if_pos h,if_pos h.symm]
 ·rw [if_neg h,if_neg (fun e=>h e.symm)]
theorem dr (σ:ag) (b b':Nat) (x:jP):(σ.set b x).get b'=if b'=b then some x else σ.get b':=by
 simp only [ag.set,ag.get,j5]
 by_cases h:b=b'
 ·rw [if_pos h,if_pos h.symm]
 ·rw [if_neg h,if_neg (fun e=>h e.symm)]
def Mu.bind (μ:Mu) (b:Nat) (l:Loc):Mu:=fun b'=>if b'=b then l else μ b'
theorem iH (w:World) (o:Obj) {k:Nat} (h:k < w.heap.size):(w.heap.push o)[k]? =w.heap[k]? :=by
 rw [Array.getElem?_push,if_neg (Nat.ne_of_lt h)]
theorem kM (hS:RS (fm:=fm) σ w X μ) (hX: ∀b,X b->b < w.heap.size) {cs:ai} {arr:Array Value} (e:TypeId) (hl:cs.length<=arr.size)
  (hr: ∀j,j < cs.length->RV fm w X μ (cs.getD j .undef) (arr.getD j Go.undef)) :
  Ext w μ (w.alloc (.cells arr e)) (μ.bind σ.next (.at w.heap.size 0 true))/\RS (fm:=fm) (σ.alloc cs) (w.alloc (.cells arr e)) X (μ.bind σ.next (.at w.heap.size 0 true)):=by
 have AU:μ σ.next= .unborn:=by
  apply hS.born
  cases h:σ.get σ.next with
  | none=>rfl
  | some x=>exact absurd (hS.lim _ _ h) (Nat.lt_irrefl _)
 have gM:Ext w μ (w.alloc (.cells arr e)) (μ.bind σ.next (.at w.heap.size 0 true)):=by
  refine ⟨rfl,rfl,rfl,by simp,fun blk hb _=>iH w _ hb,fun blk ar el fz hb=>⟨ar,fz,?_,rfl⟩,fun b blk base hm=> ?_,fun b blk base o hm=> ?_,fun b hm=> ?_⟩
  ·have aR:blk < w.heap.size:=by
    rcases Nat.lt_or_ge blk w.heap.size with h' | h'
    ·exact h'
    ·simp [Array.getElem?_eq_none h'] at hb
   show (w.heap.push _)[blk]? =_
   rw [iH w _ aR]; exact hb
  ·by_cases h:b=σ.next
   ·subst h; simp [Mu.bind] at hm; right; omega
   ·simp [Mu.bind,h] at hm; exact .inl ⟨b,base,hm⟩
  ·have h:b≠σ.next:=by rintro rfl; rw [AU] at hm; simp at hm
   right; exact ⟨o,by simp [Mu.bind,h,hm]⟩
  ·have h:b≠σ.next:=by rintro rfl; rw [AU] at hm; simp at hm
   simp [Mu.bind,h,hm]
 refine ⟨gM,?_⟩
 refine ⟨fun b blk base o hm=> ?_,fun b blk base hm=> ?_,fun b blk base hm=> ?_,fun b b' blk base cm hm fe=> ?_,fun b blk base o hm=> ?_,fun b hb=> ?_,fun b x hb=> ?_,fun b hb=> ?_,fun b hm=> ?_,hS.tys.step (fun _ _ h=>mem_push (fun _=>by simp) h) (Nat.le_succ _) (fun b _ _ o hb _ h=>⟨o,by simpa [Mu.bind,Nat.ne_of_lt hb] using h⟩) gM⟩
 ·by_cases h:b=σ.next
  ·simp [Mu.bind,h] at hm; simp; omega
  ·simp [Mu.bind,h] at hm; have:=hS.lt b blk base o hm; simp; omega
 ·by_cases h:b=σ.next
  ·simp [Mu.bind,h] at hm
   intro hx
   have:=hX _ hx
   omega
  ·simp [Mu.bind,h] at hm; exact hS.far b blk base hm
 ·by_cases h:b=σ.next
  ·simp [Mu.bind,h] at hm
  ·simp [Mu.bind,h] at hm
   exact sM gM (hS.lt b blk base false hm) (hS.frz b blk base hm)
 ·by_cases h:b=σ.next <;> by_cases h':b'=σ.next
  ·rw [h,h']
  ·simp [Mu.bind,h,h'] at hm fe; have:=hS.lt b' blk cm true fe; omega
  ·simp [Mu.bind,h,h'] at hm fe; have:=hS.lt b blk base true hm; omega
  ·simp [Mu.bind,h,h'] at hm fe; exact hS.inj b b' blk base cm hm fe
 ·by_cases h:b=σ.next
  ·simp [Mu.bind,h] at hm
   obtain ⟨rfl,rfl,rfl⟩:=hm
   refine ⟨cs,arr,e,by rw [cW,if_pos h]; rfl,by simp [World.alloc, -World.alloc_eq],by omega,fun j hj=> ?_⟩
   rw [Nat.zero_add]
   exact (hr j hj).ext gM
  ·have fe:μ b= .at blk base o:=by simpa [Mu.bind,h] using hm
   obtain ⟨cs',arr',e',h1,h2,h3,h4⟩:=hS.cells b blk base o fe
   refine ⟨cs',arr',e',by rw [cW,if_neg h]; exact h1,?_,h3,fun j hj=>(h4 j hj).ext gM⟩
   show (w.heap.push _)[blk]? =_
   rw [iH w _ (hS.lt b blk base o fe)]; exact h2
 ·rw [cW] at hb
  by_cases h:b=σ.next
  ·rw [if_pos h] at hb; simp at hb
  ·rw [if_neg h] at hb; simp [Mu.bind,h,hS.born b hb]
 ·rw [cW] at hb
  show b < σ.next+1
  by_cases h:b=σ.next
  ·omega
  ·rw [if_neg h] at hb; have:=hS.lim b x hb; omega
 ·rw [cW] at hb
  by_cases h:b=σ.next
  ·rw [if_pos h] at hb; simp at hb
  ·rw [if_neg h] at hb; simp [Mu.bind,h,hS.gone b hb]
 ·by_cases h:b=σ.next
  ·simp [Mu.bind,h] at hm
  ·have fe:μ b= .dead:=by simpa [Mu.bind,h] using hm
   have:=hS.dead b fe
   simp only [ag.cells,cW,if_neg h] at this ⊢
   exact this
theorem lU {b blk base:Nat} (hm:μ b= .at blk base true) {arr arr':Array Value} {e:TypeId} (gz:w.heap[blk]? =some (.cells arr e (0,0)))
  (fb:arr'.size=arr.size):Ext w μ (w.setRow blk arr') μ:=by
 refine ⟨rfl,rfl,rfl,by simp,fun k hk hn=> ?_,fun k ar el fz hk=> ?_,fun b blk base hm=> .inl ⟨b,base,hm⟩,fun b blk base o hm=> .inr ⟨o,hm⟩,fun b hm=>hm⟩
 ·have:k≠blk:=by rintro rfl; exact hn ⟨b,base,hm⟩
  exact setRow_other w blk k arr' this
 ·by_cases h:k=blk
  ·subst h
   rw [gz] at hk
   simp only [ah,Obj.cells.injEq] at hk
   obtain ⟨rfl,rfl,rfl⟩:=hk
   exact ⟨arr',(0,0),setRow_heap w k arr arr' e (0,0) gz,fb⟩
  ·exact ⟨ar,fz,by rw [setRow_other w blk k arr' h]; exact hk,rfl⟩
theorem uW (hS:RS (fm:=fm) σ w X μ) {b blk base:Nat} (hm:μ b= .at blk base true) {arr arr':Array Value} {e:TypeId} (gz:w.heap[blk]? =some (.cells arr e (0,0)))
  (fb:arr'.size=arr.size) {cs':ai} (hl:base+cs'.length<=arr'.size) (hr: ∀j,j < cs'.length->RV fm w X μ (cs'.getD j .undef) (arr'.getD (base+j) Go.undef)) :
  RS (fm:=fm) (σ.set b (.own cs')) (w.setRow blk arr') X μ:=by
 have gM:=lU hm gz fb
 refine ⟨fun b' fk cm o fe=>by simpa using hS.lt b' fk cm o fe,hS.far,hS.frz,hS.inj,fun b' fk cm o fe=> ?_,fun b' hb=> ?_,fun b' x hb=> ?_,fun b' hb=> ?_,fun b' fe=> ?_,hS.tys.step (fun _ _ h=>mem_push (fun _=>by simp) h) (aD _) (fun _ _ _ o _ _ h=>⟨o,h⟩) gM⟩
 ·by_cases h:b'=b
  ·subst h
   rw [hm] at fe
   simp only [Loc.at.injEq] at fe
   obtain ⟨rfl,rfl,rfl⟩:=fe
   exact ⟨cs',arr',e,by rw [dr,if_pos rfl]; rfl,setRow_heap w blk arr arr' e (0,0) gz,hl,fun j hj=>(hr j hj).ext gM⟩
  ·obtain ⟨cs1,J6,e1,h1,h2,h3,h4⟩:=hS.cells b' fk cm o fe
   have fV:fk≠blk:=by
    rintro rfl
    cases o with
    | true=>exact h (hS.inj b' b fk cm base fe hm)
    | false=>exact hS.frz b' fk cm fe (.inr ⟨b,base,hm⟩)
   exact ⟨cs1,J6,e1,by rw [dr,if_neg h]; exact h1,by rw [setRow_other w blk fk arr' fV]; exact h2,h3,fun j hj=>(h4 j hj).ext gM⟩
 ·rw [dr] at hb
  by_cases h:b'=b
  ·rw [if_pos h] at hb; simp at hb
  ·rw [if_neg h] at hb; exact hS.born b' hb
 ·rw [dr] at hb
  show b' < σ.next
  by_cases h:b'=b
  ·subst h
   obtain ⟨_,_,_,h1,_⟩:=hS.cells b' blk base true hm
   exact hS.lim b' _ h1
  ·rw [if_neg h] at hb; exact hS.lim b' x hb
 ·rw [dr] at hb
  by_cases h:b'=b
  ·rw [if_pos h] at hb; simp at hb
  ·rw [if_neg h] at hb; exact hS.gone b' hb
 ·by_cases h:b'=b
  ·subst h; rw [hm] at fe; simp at fe
  ·have:=hS.dead b' fe
   simp only [ag.cells,dr,if_neg h] at this ⊢
   exact this
theorem Mm (hS:RS (fm:=fm) σ w X μ) (b:Nat) (hb:b < σ.next):Ext w μ w (μ.bind b .dead)/\RS (fm:=fm) (σ.set b .dead) w X (μ.bind b .dead):=by
 have gM:Ext w μ w (μ.bind b .dead):=by
  refine ⟨rfl,rfl,rfl,aD _,fun _ _ _=>rfl,fun _ ar _ fz h=>⟨ar,fz,h,rfl⟩,fun b' blk base hm=> ?_,fun b' blk base o hm=> ?_,fun b' hm=> ?_⟩
  ·by_cases h:b'=b
   ·simp [Mu.bind,h] at hm
   ·simp [Mu.bind,h] at hm; exact .inl ⟨b',base,hm⟩
  ·by_cases h:b'=b
   ·left; simp [Mu.bind,h]
   ·right; exact ⟨o,by simp [Mu.bind,h,hm]⟩
  ·by_cases h:b'=b
   ·simp [Mu.bind,h]
   ·simp [Mu.bind,h,hm]
 have back: ∀b' blk base o,(μ.bind b .dead) b'= .at blk base o->b'≠b/\μ b'= .at blk base o:=by
  intro b' blk base o hm
  by_cases h:b'=b
  ·simp [Mu.bind,h] at hm
  ·exact ⟨h,by simpa [Mu.bind,h] using hm⟩
 refine ⟨gM,?_⟩
 refine ⟨fun b' blk base o hm=>hS.lt b' blk base o (back _ _ _ _ hm).2,fun b' blk base hm=>hS.far b' blk base (back _ _ _ _ hm).2,
  fun b' blk base hm=>sM gM (hS.lt b' blk base false (back _ _ _ _ hm).2) (hS.frz b' blk base (back _ _ _ _ hm).2),
  fun b' b'' blk base cm hm fe=>hS.inj b' b'' blk base cm (back _ _ _ _ hm).2 (back _ _ _ _ fe).2,fun b' blk base o hm=> ?_,fun b' h=> ?_,fun b' x h=> ?_,fun b' h=> ?_,fun b' hm=> ?_,hS.tys.step (fun _ _ h=>mem_push (fun _=>by simp) h) (aD _) (fun _ _ _ o _ _ h=>⟨o,(back _ _ _ _ h).2⟩) gM⟩
 ·obtain ⟨fV,fe⟩:=back _ _ _ _ hm
  obtain ⟨cs1,J6,e1,h1,h2,h3,h4⟩:=hS.cells b' blk base o fe
  exact ⟨cs1,J6,e1,by rw [dr,if_neg fV]; exact h1,h2,h3,fun j hj=>(h4 j hj).ext gM⟩
 ·rw [dr] at h
  by_cases oN:b'=b
  ·rw [if_pos oN] at h; simp at h
  ·rw [if_neg oN] at h; simp [Mu.bind,oN,hS.born b' h]
 ·rw [dr] at h
  show b' < σ.next
  by_cases oN:b'=b
  ·omega
  ·rw [if_neg oN] at h; exact hS.lim b' x h
 ·rw [dr] at h
  by_cases oN:b'=b
  ·simp [Mu.bind,oN]
  ·rw [if_neg oN] at h; simp [Mu.bind,oN,hS.gone b' h]
 ·by_cases oN:b'=b
  ·simp [ag.cells,dr,oN]
  ·have fe:μ b'= .dead:=by simpa [Mu.bind,oN] using hm
   have:=hS.dead b' fe
   simp only [ag.cells,dr,if_neg oN] at this ⊢
   exact this
end
end Go.Ab
namespace Go.Ab
open Go.RowKit
section
variable {P:Program} {fm gm:Nat->aA} {G:Nat->ai}
variable {w:World} {X:Nat->Prop} {μ:Mu} {σ σ':ag} {N:Nat} {fr:Fr} {a:Act} {o:Oper} {v:AV}
def EO (P:Program) (fm:Nat->aA) (X:Nat->Prop) (μ:Mu) (o:Oper) (a:Act) (w:World) (v:AV) (σ':ag):Prop:=
 ∃cv w' μ',((execOp a.eval o).run P w= .ok (.value cv) w'∨((execOp a.eval o).run P w= .ok .skip w'/\cv=Go.undef))/\RV fm w' X μ' v cv/\Ext w μ w' μ'/\RS (fm:=fm) σ' w' X μ'
theorem jg {s:Sem Value} (h:execOp a.eval o=(do pure (.value (←s)))) (y: ∃cv w' μ',s.run P w= .ok cv w'/\RV fm w' X μ' v cv/\Ext w μ w' μ'/\RS (fm:=fm) σ' w' X μ'):EO P fm X μ o a w v σ':=by
 obtain ⟨cv,w',μ',h1,h2⟩:=y
 exact ⟨cv,w',μ', .inl (by rw [h]; simp [h1]),h2⟩
theorem R9 (g:bO P fm gm G w X μ σ N fr a) (y:c7 P fm X μ o a w v):EO P fm X μ o a w v σ:=by
 obtain ⟨cv,w',h1,h2,h3⟩:=y
 exact ⟨cv,w',μ, .inl h1,h2,Ext.of_below h3,g.rs.below h3⟩
theorem e_box (g:bO P fm gm G w X μ σ N fr a) {x:bB} (hc:aS P fm gm (.box x) o.op=true) (hk:(val G fr x).known=true) :
  EO P fm X μ o a w (.ptr σ.next 0) (σ.alloc (val G fr x).cells):=by
 obtain ⟨dst,op,type,pos,after,guard⟩:=o
 simp only [aS] at hc
 split at hc
 case h_2=>simp at hc
 rename_i el x'
 have rx:=bj g.glob g.rf hc
 obtain ⟨hl,hr⟩:=rx.cells hk
 obtain ⟨h1,h2⟩:=kM g.rs g.out el (Nat.le_of_eq hl) (fun j _=>hr j)
 refine jg (s:=Instr.box el (a.eval x')) rfl ⟨_,_,_,rfl,?_,h1,h2⟩
 have:=RV.ptr (fm:=fm) (w:=w.alloc (.cells (a.eval x').cells el)) (X:=X) (μ:=μ.bind σ.next (.at w.heap.size 0 true)) σ.next 0 w.heap.size 0 true (by simp [Mu.bind])
 exact this
theorem e_new (g:bO P fm gm G w X μ σ N fr a) {z:ai} (hc:aS P fm gm (.new z) o.op=true):EO P fm X μ o a w (.ptr σ.next 0) (σ.alloc z):=by
 obtain ⟨dst,op,type,pos,after,guard⟩:=o
 simp only [aS] at hc
 split at hc
 case h_2=>simp at hc
 rename_i t
 obtain ⟨zv,Ga,BH⟩:=jV (P:=P) (fm:=fm) (w:=w) (X:=X) (μ:=μ) hc
 obtain ⟨h1,h2⟩:=kM g.rs g.out t (Nat.le_of_eq BH.1) (fun j _=>BH.2 j)
 refine jg (s:=Instr.alloc t true (.tuple #[])) rfl ⟨_,_,_,?_,RV.ptr σ.next 0 w.heap.size 0 true (by simp [Mu.bind]),h1,h2⟩
 simp [Instr.alloc,Ga,newVar,newRow]
theorem PJ (g:bO P fm gm G w X μ σ N fr a) {sz len:Nat} {z:ai} {ps:List (Nat×bB)} (hc:aS P fm gm (.buildSl true sz len z ps) o.op=true) {cs:ai}
  (h:iy ((List.range len).flatMap fun _=>z) (ps.map fun (i,x)=>(i*sz,sz,val G fr x))=some cs) (hz:z.length=sz) :
  EO P fm X μ o a w (.sl σ.next 0 len sz (some len)) (σ.alloc cs):=by
 obtain ⟨dst,op,type,pos,after,guard⟩:=o
 have lF:=hc
 simp only [aS] at hc
 split at hc
 case h_2=>simp at hc
 rename_i t cI lY
 have hex:execOp a.eval ⟨dst, .buildSlice t cI lY,type,pos,after,guard⟩=(do pure (.value (←Instr.buildSlice t cI (lY.map fun (i,x)=>(i,a.eval x))))):=by
  simp only [execOp]
 obtain ⟨e,rN,h1,h2,h3⟩:=qy (w:=w) (X:=X) (μ:=μ) g.glob g.rf lF hz h
 have hlen:cs.length=len*sz:=by rw [oS _ _ _ h,il,hz]
 obtain ⟨k1,k2⟩:=kM g.rs g.out e (Nat.le_of_eq h2.1) (fun j _=>h2.2 j)
 refine jg hex ⟨_,_,_,h1,?_,k1,k2⟩
 have fb:rN.size=len*sz:=by rw [←h2.1,hlen]
 exact RV.sl σ.next 0 len sz (some len) w.heap.size 0 len true rN e (0,0) (by simp [Mu.bind]) (by simp [-World.alloc_eq]) aa (aD _) (.inr rfl)
theorem ox (l:List Value) (j:Nat):(l.toArray).getD j Go.undef=l.getD j Go.undef:=by simp
theorem s8 (l xs:List Value) (off k:Nat) (h:off+xs.length<=l.length) :
  (l.take off ++xs ++l.drop (off+xs.length)).getD k Go.undef=if off<=k/\k < off+xs.length then xs.getD (k - off) Go.undef else l.getD k Go.undef:=by
 simp only [bc,List.getElem?_append,bU,aq,List.getElem?_take,List.getElem?_drop]
 have hm:min off l.length=off:=by omega
 rw [hm]
 by_cases h1:k < off
 ·rw [if_pos aa,if_pos aa,if_pos h1,if_neg aa]
 ·by_cases h2:k < off+xs.length
  ·rw [if_pos aa,if_neg aa,if_pos aa]
  ·rw [if_neg aa,if_neg aa]
   congr 2
   omega
theorem uw {cs:ai} {vs:List Value} (hl:cs.length=vs.length) (hr: ∀j,RV fm w X μ (cs.getD j .undef) (vs.getD j Go.undef)) (h:cs.all AV.one=true): ∀v∈vs,v.oneCell'=true:=by
 intro v hv
 obtain ⟨j,hj,rfl⟩:=List.getElem_of_mem hv
 have h1:=hr j
 have MB:j < cs.length:=by omega
 simp only [bc,bx hj,bx MB,Option.getD_some] at h1
 exact h1.one (bG.1 h _ (List.getElem_mem MB))
theorem Zq (g:bO P fm gm G w X μ σ N fr a) {n:Nat} {p x:bB} (hc:aS P fm gm (.store n p x) o.op=true) {b off:Nat} {cs:ai} (hp:val G fr p= .ptr b off) (ho:σ.owned b=some cs)
  (hn:(val G fr x).cells.length=n) (hle:off+n<=cs.length) (dh:(val G fr x).cells.all AV.one=true) :
  EO P fm X μ o a w .undef (σ.set b (.own (splice cs off (val G fr x).cells))):=by
 obtain ⟨dst,op,type,pos,after,guard⟩:=o
 simp only [aS] at hc
 split at hc
 case h_2=>simp at hc
 rename_i t p' x'
 simp only [ak] at hc
 obtain ⟨⟨ht,Qm⟩,Ib⟩:=hc
 have rp:=bj g.glob g.rf Qm
 have rx:=bj g.glob g.rf Ib
 rw [hp] at rp
 have hkn:(val G fr x).known=true:=by
  cases hv:val G fr x <;> first | rfl | (rw [hv] at dh; simp [AV.cells,AV.one] at dh)
 obtain ⟨hl,hr⟩:=rx.cells hkn
 have hs:=fx (P:=P) (w:=w) ht
 generalize nU:a.eval x'=xv at rx hl hr
 generalize hpv:a.eval p'=pv at rp
 have di:σ.get b=some (.own cs):=by
  unfold ag.owned at ho
  split at ho <;> simp_all
 cases rp with
 | ptrDead _ _ ad hm=>have:=g.rs.dead b hm; simp [ag.cells,di] at this
 | ptr _ _ blk base ow hm=>
  obtain ⟨cs',arr,e,h1,h2,h3,h4⟩:=g.rs.cells b blk base ow hm
  rw [di] at h1
  cases ow with
  | false=>simp at h1
  | true=>
   simp only [if_true,ah,jP.own.injEq] at h1
   subst h1
   have Mw:xv.cells.toList.length=n:=by simp; omega
   have Gg: ∀u∈xv.cells.toList,u.oneCell'=true:=uw (cs:=(val G fr x).cells) (by simpa using hl) (fun j=>by simpa using hr j) dh
   have eL:=run_storeCells_at (P:=P) blk (base+off) e xv.cells.toList 0 arr w h2 aa Gg
   simp only [Nat.add_zero] at eL
   have fb:(arr.toList.take (base+off) ++xv.cells.toList ++arr.toList.drop (base+off+xv.cells.toList.length)).toArray.size=arr.size:=by simp; omega
   refine ⟨Go.undef,_,μ, .inr ⟨?_,rfl⟩, .undef _,lU hm h2 fb,uW g.rs hm h2 fb ?_ ?_⟩
   ·simp only [execOp,hpv,nU,Instr.storeAt,Instr.sureAddr,storeVar,Sem.run_bind,Sem.run_pure,Result.andThen_ok,hs,Sem.run_ite]
    rw [if_neg (by simp; omega)]
    simp [eL]
   ·rw [fq _ _ _ aa,fb]; omega
   ·intro j hj
    rw [fq _ _ _ aa] at hj
    rw [mM _ _ _ _ aa,ox,s8 _ _ _ _ (by simp; omega)]
    by_cases hk:off<=j/\j < off+(val G fr x).cells.length
    ·rw [if_pos hk,if_pos aa]
     have e1:base+j - (base+off)=j - off:=by omega
     rw [e1]
     simpa using hr (j - off)
    ·rw [if_neg hk,if_neg aa]
     simpa using h4 j hj
end
end Go.Ab
namespace Go.Ab
open Go.RowKit
section
variable {P:Program} {fm gm:Nat->aA} {G:Nat->ai}
variable {w:World} {X:Nat->Prop} {μ:Mu} {σ σ':ag}
theorem gj (z:Array Value) (n:Nat):(Builtin.zeroCells z n).size=n*z.size:=by simp [Builtin.zeroCells]
theorem Ak (w:World):Below w.heap.size w w.drew:=(Below.refl w.heap.size w).drew
theorem oG {cs:ai} {blk base:Nat} (h: ∀j,j < cs.length->∃u,w.cell? ⟨blk,base+j,none⟩=some u/\RV fm w X μ (cs.getD j .undef) u) :
  ∃vs:List Value,vs.length=cs.length/\(∀j u,vs[j]? =some u->w.cell? ⟨blk,base+j,none⟩=some u)/\∀j,RV fm w X μ (cs.getD j .undef) (vs.getD j Go.undef):=by
 let f:Nat->Value:=fun j=>(w.cell? ⟨blk,base+j,none⟩).getD Go.undef
 refine ⟨(List.range cs.length).map f,by simp,fun j u hu=> ?_,fun j=> ?_⟩
 ·have hj:j < cs.length:=by
   have:=(bI.1 hu).1
   simpa using this
  obtain ⟨u',hu',_⟩:=h j hj
  simp [hj,f,hu'] at hu
  rw [hu',hu]
 ·by_cases hj:j < cs.length
  ·obtain ⟨u,hu,hr⟩:=h j hj
   have:((List.range cs.length).map f).getD j Go.undef=u:=by simp [hj,f,hu]
   rw [this]; exact hr
  ·have:cs.getD j .undef= .undef:=by rw [bc,cM aa]; rfl
   rw [this]; exact .undef _
structure HR (P:Program) (fm:Nat->aA) (w:World) (X:Nat->Prop) (μ:Mu) (sz:Nat) (tx:TypeId) (x:Value) (n:Nat) (new:ai):Prop where
 len:new.length=n*sz
 src: ∃news:List Value,Src P sz tx x n news w/\news.length=new.length/\∀j,RV fm w X μ (new.getD j .undef) (news.getD j Go.undef)
theorem qC (hS:RS (fm:=fm) σ w X μ) {sz:Nat} {x:AV} {xv:Value} (hx:RV fm w X μ x xv) {new:ai} (h:rowOf σ sz x=some new) {n:Nat} (hn:lenOf x=some n)
  (dh:new.all AV.one=true) {tx e':TypeId} (hk:P.underlying tx=some (.slice e')):HR P fm w X μ sz tx xv n new:=by
 obtain ⟨ad,len,c,rfl,hl,gh,hc⟩:=td hS hx h
 rw [hn] at hl
 simp only [ah] at hl
 subst hl
 refine ⟨gh,?_⟩
 rcases hc with h0 | ⟨blk,base,rfl,gA⟩
 ·subst h0
  have wS:new= []:=ei aa
  subst wS
  refine ⟨[],⟨.inl ⟨e',hk⟩,fun _=>rfl,?_,?_,by simp,fun _ hh=>by cases hh⟩,rfl,fun j=> .undef _⟩
  ·cases ad <;> simp [Builtin.firstCells,loadCells,loadCellsFrom]
  ·cases ad <;> simp [Builtin.firstCells,loadCells,loadCellsFrom]
 ·obtain ⟨vs,h1,h2,h3⟩:=oG gA
  refine ⟨vs,Src.ofSlice w hk ⟨blk,base,none⟩ n c vs aa (fun j u hu=> ?_) (uw aa h3 dh),h1,h3⟩
  rw [eH]; exact h2 j u hu
theorem yI {s:ByteArray} {tx:TypeId} (hk:P.underlying tx=some .string):HR P fm w X μ 1 tx (.string s) s.size (af s.data.toList):=by
 refine ⟨by simp [af],byteCells s,Src.ofString w hk s,by simp [af,byteCells],fun j=> ?_⟩
 by_cases hj:j < s.size
 ·have e1:(af s.data.toList).getD j .undef= .int .u8 (s.data.toList.getD j 0).toNat:=by simp [af,hj]
  have e2:(byteCells s).getD j Go.undef= .int .u8 (s.data.toList.getD j 0).toNat:=by simp [byteCells,hj]
  rw [e1,e2]; exact .int _ _
 ·have e1:(af s.data.toList).getD j .undef= .undef:=by
   rw [bc,cM (by simp [af]; omega)]; rfl
  rw [e1]; exact .undef _
theorem MH (hS:RS (fm:=fm) σ w X μ) (hX: ∀b,X b->b < w.heap.size) {old new:ai} {olds news:List Value} (ho:old.length=olds.length) (hn:new.length=news.length)
  (hor: ∀j,RV fm w X μ (old.getD j .undef) (olds.getD j Go.undef)) (hnr: ∀j,RV fm w X μ (new.getD j .undef) (news.getD j Go.undef)) (rest:Array Value) (e:TypeId) :
  let w':=w.drew.alloc (.cells ((olds ++news).toArray ++rest) e)
  let μ':=μ.bind σ.next (.at w.heap.size 0 true)
  Ext w μ w' μ'/\RS (fm:=fm) (σ.alloc (old ++new)) w' X μ':=by
 have hb:=Ak w
 have hS':=hS.below hb
 have h:=kM (w:=w.drew) hS' hX (cs:=old ++new) (arr:=(olds ++news).toArray ++rest) e (by simp; omega) (fun j hj=>by
  have e1:((olds ++news).toArray ++rest).getD j Go.undef=(olds ++news).getD j Go.undef:=by
   have:j < (olds ++news).length:=by simp at hj ⊢; omega
   simp [Array.getElem?_append]
   simp at this
   rw [if_pos aa]
  rw [e1]
  simp only [bc,List.getElem?_append,ho]
  by_cases jK:j < olds.length
  ·rw [if_pos jK,if_pos jK]; exact (hor j).bel hb
  ·rw [if_neg jK,if_neg jK]; exact (hnr _).bel hb)
 exact ⟨(Ext.of_below hb).trans h.1,h.2⟩
theorem zt (hS:RS (fm:=fm) σ w X μ) {b blk base:Nat} (hm:μ b= .at blk base true) {cs:ai} (di:σ.get b=some (.own cs)) {arr kg:Array Value} {e:TypeId}
  (gz:w.heap[blk]? =some (.cells arr e (0,0))) (fb:kg.size=arr.size) {cs':ai} {off:Nat} (hl:base+off+cs'.length<=kg.size)
  (hr: ∀j,j < cs'.length->RV fm w X μ (cs'.getD j .undef) (kg.getD (base+off+j) Go.undef)) {len c sz:Nat} (Tp:len<=c) (tV:base+off+c*sz<=arr.size) :
  RV fm (w.setRow blk kg) X ((μ.bind b .dead).bind σ.next (.at blk (base+off) true)) (.sl σ.next 0 len sz none) (.slice (some ⟨blk,base+off,none⟩) len c)/\
  Ext w μ (w.setRow blk kg) ((μ.bind b .dead).bind σ.next (.at blk (base+off) true))/\
  RS (fm:=fm) ((σ.set b .dead).alloc cs') (w.setRow blk kg) X ((μ.bind b .dead).bind σ.next (.at blk (base+off) true)):=by
 have AK:b < σ.next:=hS.lim b _ di
 have AU:μ σ.next= .unborn:=by
  apply hS.born
  cases h:σ.get σ.next with
  | none=>rfl
  | some x=>exact absurd (hS.lim _ _ h) (Nat.lt_irrefl _)
 have zB:(w.setRow blk kg).heap[blk]? =some (.cells kg e (0,0)):=setRow_heap w blk arr kg e (0,0) gz
 have gM:Ext w μ (w.setRow blk kg) ((μ.bind b .dead).bind σ.next (.at blk (base+off) true)):=by
  have x1:=lU (w:=w) (arr':=kg) hm gz fb
  refine ⟨x1.os,x1.tape,x1.output,x1.size,x1.keep,x1.rows,fun b' fk cm fe=> ?_,fun b' fk cm o fe=> ?_,fun b' fe=> ?_⟩
  ·by_cases h1:b'=σ.next
   ·simp [Mu.bind,h1] at fe
    obtain ⟨rfl,_⟩:=fe
    exact .inl ⟨b,base,hm⟩
   ·by_cases h2:b'=b
    ·have:b≠σ.next:=by omega
     simp [Mu.bind,h2,this] at fe
    ·simp [Mu.bind,h1,h2] at fe; exact .inl ⟨b',cm,fe⟩
  ·have h1:b'≠σ.next:=by rintro rfl; rw [AU] at fe; simp at fe
   by_cases h2:b'=b
   ·left; subst h2; simp [Mu.bind,h1]
   ·right; exact ⟨o,by simp [Mu.bind,h1,h2,fe]⟩
  ·have h1:b'≠σ.next:=by rintro rfl; rw [AU] at fe; simp at fe
   by_cases h2:b'=b
   ·subst h2; simp [Mu.bind,h1]
   ·simp [Mu.bind,h1,h2,fe]
 have back: ∀b' fk cm o,((μ.bind b .dead).bind σ.next (.at blk (base+off) true)) b'= .at fk cm o->
   (b'=σ.next/\fk=blk/\cm=base+off/\o=true)∨(b'≠σ.next/\b'≠b/\μ b'= .at fk cm o):=by
  intro b' fk cm o fe
  by_cases h1:b'=σ.next
  ·simp [Mu.bind,h1] at fe; exact .inl ⟨h1,fe.1.symm,fe.2.1.symm,fe.2.2⟩
  ·by_cases h2:b'=b
   ·have:b≠σ.next:=by omega
    simp [Mu.bind,h2,this] at fe
   ·right; exact ⟨h1,h2,by simpa [Mu.bind,h1,h2] using fe⟩
 have zE: ∀b',((σ.set b .dead).alloc cs').get b'=if b'=σ.next then some (.own cs') else if b'=b then some .dead else σ.get b':=by
  intro b'
  rw [cW]
  show (if b'=σ.next then _ else _)=_
  by_cases h1:b'=σ.next
  ·rw [if_pos h1,if_pos h1]
  ·rw [if_neg h1,if_neg h1,dr]
 have BJ:b≠σ.next:=by omega
 refine ⟨?_,gM,?_⟩
 ·have:=RV.sl (fm:=fm) (w:=w.setRow blk kg) (X:=X) (μ:=(μ.bind b .dead).bind σ.next (.at blk (base+off) true)) σ.next 0 len sz none blk (base+off) c true kg e (0,0)
   (by simp [Mu.bind]) zB aa Tp (.inl rfl)
  exact this
 ·refine ⟨fun b' fk cm o fe=> ?_,fun b' fk cm fe=> ?_,fun b' fk cm fe=> ?_,fun b1 b2 fk base1 qz h1 h2=> ?_,fun b' fk cm o fe=> ?_,fun b' hb=> ?_,fun b' x hb=> ?_,fun b' hb=> ?_,fun b' fe=> ?_,hS.tys.step (fun _ _ h=>mem_push (fun _=>by simp) (mem_push (fun _=>by simp) h)) (Nat.le_succ _) (fun b' _ _ o hb _ h=>⟨o,(back _ _ _ _ h).elim (fun k=>absurd k.1 aa) (fun k=>k.2.2)⟩) gM⟩
  ·rcases back _ _ _ _ fe with ⟨_,rfl,_,_⟩ | ⟨_,_,h⟩
   ·simpa using hS.lt b fk base true hm
   ·simpa using hS.lt b' fk cm o h
  ·rcases back _ _ _ _ fe with ⟨_,rfl,_,_⟩ | ⟨_,_,h⟩
   ·exact hS.far b fk base hm
   ·exact hS.far b' fk cm h
  ·rcases back _ _ _ _ fe with ⟨_,_,_,h⟩ | ⟨_,_,h⟩
   ·simp at h
   ·exact sM gM (hS.lt b' fk cm false h) (hS.frz b' fk cm h)
  ·rcases back _ _ _ _ h1 with ⟨r1,q1,_,_⟩ | ⟨n1,m1,k1⟩ <;> rcases back _ _ _ _ h2 with ⟨r2,q2,_,_⟩ | ⟨n2,m2,k2⟩
   ·rw [r1,r2]
   ·subst q1; exact absurd (hS.inj b2 b fk qz base k2 hm) m2
   ·subst q2; exact absurd (hS.inj b1 b fk base1 base k1 hm) m1
   ·exact hS.inj b1 b2 fk base1 qz k1 k2
  ·rcases back _ _ _ _ fe with ⟨h1,rfl,rfl,rfl⟩ | ⟨h1,h2,h⟩
   ·exact ⟨cs',kg,e,by rw [zE,if_pos h1]; rfl,zB,hl,fun j hj=>(hr j hj).ext gM⟩
   ·obtain ⟨cs1,J6,e1,q1,q2,q3,q4⟩:=hS.cells b' fk cm o h
    have fV:fk≠blk:=by
     rintro rfl
     cases o with
     | true=>exact h2 (hS.inj b' b fk cm base h hm)
     | false=>exact hS.frz b' fk cm h (.inr ⟨b,base,hm⟩)
    exact ⟨cs1,J6,e1,by rw [zE,if_neg h1,if_neg h2]; exact q1,by rw [setRow_other w blk fk kg fV]; exact q2,q3,fun j hj=>(q4 j hj).ext gM⟩
  ·rw [zE] at hb
   by_cases h1:b'=σ.next
   ·rw [if_pos h1] at hb; simp at hb
   ·rw [if_neg h1] at hb
    by_cases h2:b'=b
    ·rw [if_pos h2] at hb; simp at hb
    ·rw [if_neg h2] at hb; simp [Mu.bind,h1,h2,hS.born b' hb]
  ·rw [zE] at hb
   show b' < σ.next+1
   by_cases h1:b'=σ.next
   ·omega
   ·rw [if_neg h1] at hb
    by_cases h2:b'=b
    ·omega
    ·rw [if_neg h2] at hb; have:=hS.lim b' x hb; omega
  ·rw [zE] at hb
   by_cases h1:b'=σ.next
   ·rw [if_pos h1] at hb; simp at hb
   ·rw [if_neg h1] at hb
    by_cases h2:b'=b
    ·subst h2; simp [Mu.bind,h1]
    ·rw [if_neg h2] at hb; simp [Mu.bind,h1,h2,hS.gone b' hb]
  ·by_cases h1:b'=σ.next
   ·simp [Mu.bind,h1] at fe
   ·by_cases h2:b'=b
    ·simp [ag.cells,zE,h2,BJ]
    ·have Pl:μ b'= .dead:=by simpa [Mu.bind,h1,h2] using fe
     have:=hS.dead b' Pl
     simp only [ag.cells,zE,if_neg h1,if_neg h2] at this ⊢
     exact this
def Vw (σ:ag) (x:AV) (e:TypeId) (w':World) (μ μ':Mu):Prop:=∀blk base o,μ' σ.next= .at blk base o->
 (base=0/\∃arr fz,w'.heap[blk]? =some (.cells arr e fz))∨∃b off l sz c Vc,x= .sl b off l sz c/\μ b= .at blk Vc true/\base=Vc+off
theorem nR (hS:RS (fm:=fm) σ w X μ) (x:AV) (e:TypeId) (w':World):Vw σ x e w' μ μ:=fun blk base o h=>by
 have:μ σ.next= .unborn:=by
  apply hS.born
  cases h:σ.get σ.next with
  | none=>rfl
  | some x=>exact absurd (hS.lim _ _ h) (Nat.lt_irrefl _)
 rw [this] at h; cases h
theorem BC {x:AV} {e:TypeId} {w':World} {μ μ1:Mu} {k:Nat} {o:Bool} {arr:Array Value} {fz:Nat×Nat} {n:Nat} (hn:n=σ.next) (h:w'.heap[k]? =some (.cells arr e fz)):Vw σ x e w' μ (μ1.bind n (.at k 0 o)):=fun blk base o' hm=>by
 subst hn
 simp only [Mu.bind,if_true,Loc.at.injEq] at hm
 obtain ⟨rfl,rfl,rfl⟩:=hm
 exact .inl ⟨rfl,_,_,h⟩
theorem qZ (hS:RS (fm:=fm) σ w X μ) (hX: ∀b,X b->b < w.heap.size) {sz bytes:Nat} {x v:AV} {xv yv:Value} {new:ai} {n:Nat} (hx:RV fm w X μ x xv)
  {t tx ty e:TypeId} {i:TypeInfo} {z:Value} (ht:P.underlying t=some (.slice e)) (hi:P.info? e=some i) (hz:i.zero=some z) (fb:i.size=sz) (ET:i.bytes=bytes) (C8:z.cells.size=sz)
  (hs:HR P fm w X μ sz tx yv n new) (h:aF σ sz bytes x new n=some (v,σ')) :
  ∃cv w' μ',(Builtin.append_ #[t,tx] ty #[xv,yv]).run P w= .ok cv w'/\RV fm w' X μ' v cv/\Ext w μ w' μ'/\RS (fm:=fm) σ' w' X μ'/\Vw σ x e w' μ μ':=by
 obtain ⟨hlen,news,tR,hnl,hnr⟩:=hs
 subst fb ET
 unfold aF at h
 cases jm:lenOf x with
 | none=>simp [jm] at h
 | some len=>
  simp only [jm] at h
  split at h
  case isFalse=>simp at h
  rename_i hc
  obtain ⟨hs0,Gv,wT,qg,dh⟩:=hc
  have hb63:((len+n:Nat):Int)<=9223372036854775807:=by
   have:len+n<=(len+n)*i.bytes:=Nat.le_mul_of_pos_right _ Gv
   unfold aY at wT
   omega
  have grow: ∀(base:Option Addr) (c:Nat) (old:ai) (olds:List Value),old.length=olds.length->old.length=len*i.size->(∀j,RV fm w X μ (old.getD j .undef) (olds.getD j Go.undef))->
    (Builtin.firstCells i.size len (.slice base len c)).run P w.drew= .ok olds.toArray w.drew->c < len+n->
    ∃cv w' μ',(Builtin.append_ #[t,tx] ty #[.slice base len c,yv]).run P w= .ok cv w'/\RV fm w' X μ' (.sl σ.next 0 (len+n) i.size none) cv/\Ext w μ w' μ'/\RS (fm:=fm) (σ.alloc (old ++new)) w' X μ'/\Vw σ x e w' μ μ':=by
   intro base c old olds h1 h2 h3 h4 h5
   have eL:=run_append_grow_src w t tx ty e i z ht hi hz base len c olds h4 yv n news tR h5 hb63 (growslice_fits h5 wT)
   obtain ⟨k1,k2⟩:=MH hS hX h1 aa h3 hnr (Builtin.zeroCells z.cells (grownCap w (len+n) c e - (len+n))) e
   refine ⟨_,_,_,eL,?_,k1,k2,BC rfl (heap_alloc_new w.drew _)⟩
   have bW:len+n<=grownCap w (len+n) c e:=by simp [grownCap,Question.cut]
   refine RV.sl σ.next 0 (len+n) i.size none w.heap.size 0 (grownCap w (len+n) c e) true _ e (0,0) (by simp [Mu.bind]) (heap_alloc_new w.drew _) ?_ bW (.inl rfl)
   simp only [Array.size_append,List.size_toArray,aq,gj,C8]
   have e1:olds.length+news.length=(len+n)*i.size:=by rw [Nat.add_mul]; omega
   have e2:(grownCap w (len+n) c e - (len+n))*i.size+(len+n)*i.size=grownCap w (len+n) c e*i.size:=by rw [←Nat.add_mul]; congr 1; omega
   omega
  have none_: ∀(base:Option Addr) (c:Nat),n=0->len<=c->(Builtin.append_ #[t,tx] ty #[.slice base len c,yv]).run P w= .ok (.slice base len c) w:=by
   intro base c h0 hle
   subst h0
   have hn0:news= []:=ei aa
   subst hn0
   exact run_append_nothing w t tx ty e i ht hi base len c hle yv tR
  cases x <;> try (simp only [reduceCtorEq] at h; done)
  case e0=>
   simp only [lenOf,ah] at jm
   subst jm
   have nU: ∃base c,xv= .slice base 0 c:=by cases hx; exact ⟨_,_,rfl⟩
   obtain ⟨base,c,rfl⟩:=nU
   replace h:(if n=0 then some (AV.e0,σ) else none)=some (v,σ'):=h
   split at h
   ·rename_i h0
    simp only [ah,aL] at h
    obtain ⟨rfl,rfl⟩:=h
    exact ⟨_,w,μ,none_ base c h0 (Nat.zero_le _),hx,Ext.refl _ _,hS,nR hS _ _ _⟩
   ·simp at h
  case nils=>
   simp only [lenOf,ah] at jm
   subst jm
   have nU: ∃base,xv= .slice base 0 0:=by cases hx; exact ⟨_,rfl⟩
   obtain ⟨base,rfl⟩:=nU
   replace h:(if n=0 then some (AV.nils,σ) else some (AV.sl σ.next 0 n i.size none,σ.alloc new))=some (v,σ'):=h
   split at h
   ·rename_i h0
    simp only [ah,aL] at h
    obtain ⟨rfl,rfl⟩:=h
    exact ⟨_,w,μ,none_ base 0 h0 (aD _),hx,Ext.refl _ _,hS,nR hS _ _ _⟩
   ·rename_i h0
    simp only [ah,aL] at h
    obtain ⟨rfl,rfl⟩:=h
    obtain ⟨cv,w',μ',r1,r2,r3,r4,r5⟩:=grow base 0 [] [] rfl (by simp) (fun j=> .undef _) (by cases base <;> simp [Builtin.firstCells,loadCells,loadCellsFrom]) aa
    simp only [Nat.zero_add,List.nil_append] at r2 r4
    exact ⟨cv,w',μ',r1,r2,r3,r4,r5⟩
  case vsl els cap=>
   cases cap <;> try (simp only [reduceCtorEq] at h; done)
   rename_i c
   replace h:(if n=0 then some (.vsl els (some c),σ) else if c=els.length then (match rowOf σ i.size (.vsl els (some c)) with | some old=>some (AV.sl σ.next 0 (len+n) i.size none,σ.alloc (old ++new)) | none=>none) else none)=some (v,σ'):=h
   by_cases Jy:n=0
   ·rw [if_pos Jy] at h
    simp only [ah,aL] at h
    obtain ⟨rfl,rfl⟩:=h
    simp only [lenOf,ah] at jm
    subst jm
    have nU: ∃base c',xv= .slice base els.length c'/\els.length<=c':=by
     cases hx with
     | vslEmpty=>exact ⟨_,_,rfl,Nat.zero_le _⟩
     | vslNil=>exact ⟨_,_,rfl,Nat.zero_le _⟩
     | vsl=>exact ⟨_,_,rfl,by assumption⟩
    obtain ⟨base,c',rfl,hle⟩:=nU
    exact ⟨_,w,μ,none_ base c' Jy hle,hx,Ext.refl _ _,hS,nR hS _ _ _⟩
   rw [if_neg Jy] at h
   split at h
   case isFalse=>simp at h
   rename_i Zb
   subst Zb
   have hn0:0 < n:=by omega
   simp only [lenOf,ah] at jm
   subst jm
   cases ll:rowOf σ i.size (.vsl els (some els.length)) with
   | none=>simp [ll] at h
   | some old=>
    simp only [ll,ah,aL] at h
    obtain ⟨rfl,rfl⟩:=h
    obtain ⟨ad,cI,c',nU,hl',Tl,gA⟩:=td hS hx ll
    simp only [lenOf,ah] at hl'
    subst hl'
    subst nU
    have bW:c'=els.length:=by
     cases hx with
     | vslEmpty _ _ _ bW=>
      have h0:0=c':=by simpa using bW
      exact h0.symm
     | vslNil=>rfl
     | vsl _ _ _ _ _ _ _ _ _ _ _ bW=>simp at bW; omega
    subst bW
    rcases gA with h0 | ⟨blk,base,rfl,gA⟩
    ·have hold:old= []:=ei (by rw [Tl,h0]; simp)
     subst hold
     obtain ⟨cv,w',μ',r1,r2,r3,r4,r5⟩:=grow ad els.length [] [] rfl (by rw [h0]; simp) (fun j=> .undef _) (by rw [h0]; cases ad <;> simp [Builtin.firstCells,loadCells,loadCellsFrom]) aa
     exact ⟨cv,w',μ',r1,r2,r3,r4,r5⟩
    ·obtain ⟨vs,h1,h2,h3⟩:=oG gA
     obtain ⟨cv,w',μ',r1,r2,r3,r4,r5⟩:=grow (some ⟨blk,base,none⟩) els.length old vs h1.symm Tl h3
      (run_firstCells_some w.drew i.size els.length _ els.length els.length vs aa (fun j u hu=>by rw [eH]; exact h2 j u hu)) aa
     exact ⟨cv,w',μ',r1,r2,r3,r4,r5⟩
  case sl b off cI kl cap=>
   cases cap
   case some c=>
    replace h:(if n=0 then some (.sl b off cI kl (some c),σ) else if c=cI then (match rowOf σ i.size (.sl b off cI kl (some c)) with | some old=>some (AV.sl σ.next 0 (len+n) i.size none,σ.alloc (old ++new)) | none=>none) else none)=some (v,σ'):=h
    by_cases Jy:n=0
    ·rw [if_pos Jy] at h
     simp only [ah,aL] at h
     obtain ⟨rfl,rfl⟩:=h
     simp only [lenOf,ah] at jm
     subst jm
     have nU: ∃base c',xv= .slice base cI c'/\cI<=c':=by
      cases hx with
      | sl=>exact ⟨_,_,rfl,by assumption⟩
      | slDead=>exact ⟨_,_,rfl,by assumption⟩
      | slZero=>exact ⟨_,_,rfl,aD _⟩
     obtain ⟨base,c',rfl,hle⟩:=nU
     exact ⟨_,w,μ,none_ base c' Jy hle,hx,Ext.refl _ _,hS,nR hS _ _ _⟩
    rw [if_neg Jy] at h
    split at h
    case isFalse=>simp at h
    rename_i Zb
    subst Zb
    have hn0:0 < n:=by omega
    simp only [lenOf,ah] at jm
    subst jm
    cases ll:rowOf σ i.size (.sl b off c kl (some c)) with
    | none=>simp [ll] at h
    | some old=>
     simp only [ll,ah,aL] at h
     obtain ⟨rfl,rfl⟩:=h
     obtain ⟨ad,len2,c',nU,hl',Tl,gA⟩:=td hS hx ll
     simp only [lenOf,ah] at hl'
     subst hl'
     subst nU
     have bW:c'=c:=by
      cases hx with
      | sl _ _ _ _ _ _ _ _ _ _ _ _ _ _ _ _ bW=>simp at bW; omega
      | slDead _ _ _ _ _ _ _ hl hm=>
       have hd:=hS.dead b hm
       simp [rowOf,hd] at ll
      | slZero=>rfl
     subst bW
     rcases gA with h0 | ⟨blk,base,rfl,gA⟩
     ·have hold:old= []:=ei (by rw [Tl,h0]; simp)
      subst hold
      obtain ⟨cv,w',μ',r1,r2,r3,r4,r5⟩:=grow ad c' [] [] rfl (by rw [h0]; simp) (fun j=> .undef _) (by rw [h0]; cases ad <;> simp [Builtin.firstCells,loadCells,loadCellsFrom]) aa
      exact ⟨cv,w',μ',r1,r2,r3,r4,r5⟩
     ·obtain ⟨vs,h1,h2,h3⟩:=oG gA
      obtain ⟨cv,w',μ',r1,r2,r3,r4,r5⟩:=grow (some ⟨blk,base,none⟩) c' old vs h1.symm Tl h3
       (run_firstCells_some w.drew i.size c' _ c' c' vs aa (fun j u hu=>by rw [eH]; exact h2 j u hu)) aa
      exact ⟨cv,w',μ',r1,r2,r3,r4,r5⟩
   replace h:(if kl=i.size then (match σ.owned b with | some cs=>if n=0 then some (AV.sl b off cI kl none,σ) else if cs.length=off+cI*i.size then some (AV.sl σ.next 0 (cI+n) i.size none,(σ.set b .dead).alloc (cs.drop off ++new)) else none | none=>none) else none)=some (v,σ'):=h
   split at h
   case isFalse=>simp at h
   rename_i hszz
   subst hszz
   cases how:σ.owned b with
   | none=>simp [how] at h
   | some cs=>
    simp only [how] at h
    simp only [lenOf,ah] at jm
    subst jm
    have di:σ.get b=some (.own cs):=by
     unfold ag.owned at how
     split at how <;> simp_all
    have AK:b < σ.next:=hS.lim b _ di
    have nU: ∃base c,xv= .slice base cI c/\cI<=c:=by
     cases hx with
     | sl=>exact ⟨_,_,rfl,by assumption⟩
     | slDead=>exact ⟨_,_,rfl,by assumption⟩
     | slZero=>exact ⟨_,_,rfl,aD _⟩
    split at h
    ·rename_i h0
     simp only [ah,aL] at h
     obtain ⟨rfl,rfl⟩:=h
     obtain ⟨base,c,rfl,hle⟩:=nU
     exact ⟨_,w,μ,none_ base c h0 hle,hx,Ext.refl _ _,hS,nR hS _ _ _⟩
    ·rename_i h0
     split at h
     case isFalse=>simp at h
     rename_i hend
     simp only [ah,aL] at h
     obtain ⟨rfl,rfl⟩:=h
     have Za:(cs.drop off).length=cI*i.size:=by simp; omega
     obtain ⟨kx,ks⟩:=Mm hS b AK
     have rY:(σ.set b .dead).next=σ.next:=rfl
     have Ts: ∀(base:Option Addr) (c:Nat) (olds:List Value),(cs.drop off).length=olds.length->(∀j,RV fm w X μ ((cs.drop off).getD j .undef) (olds.getD j Go.undef))->
       (Builtin.firstCells i.size cI (.slice base cI c)).run P w.drew= .ok olds.toArray w.drew->c < cI+n->
       ∃cv w' μ',(Builtin.append_ #[t,tx] ty #[.slice base cI c,yv]).run P w= .ok cv w'/\RV fm w' X μ' (.sl σ.next 0 (cI+n) i.size none) cv/\Ext w μ w' μ'/\
        RS (fm:=fm) ((σ.set b .dead).alloc (cs.drop off ++new)) w' X μ'/\Vw σ (.sl b off cI i.size none) e w' μ μ':=by
      intro base c olds h1 h3 h4 h5
      have eL:=run_append_grow_src w t tx ty e i z ht hi hz base cI c olds h4 yv n news tR h5 hb63 (growslice_fits h5 wT)
      obtain ⟨k1,k2⟩:=MH ks hX h1 aa (fun j=>(h3 j).ext kx) (fun j=>(hnr j).ext kx) (Builtin.zeroCells z.cells (grownCap w (cI+n) c e - (cI+n))) e
      refine ⟨_,_,_,eL,?_,kx.trans k1,k2,BC rY (heap_alloc_new w.drew _)⟩
      have bW:cI+n<=grownCap w (cI+n) c e:=by simp [grownCap,Question.cut]
      refine RV.sl σ.next 0 (cI+n) i.size none w.heap.size 0 (grownCap w (cI+n) c e) true _ e (0,0) (by simp [Mu.bind,rY]) (heap_alloc_new w.drew _) ?_ bW (.inl rfl)
      simp only [Array.size_append,List.size_toArray,aq,gj,C8]
      have e1:olds.length+news.length=(cI+n)*i.size:=by rw [Nat.add_mul]; omega
      have e2:(grownCap w (cI+n) c e - (cI+n))*i.size+(cI+n)*i.size=grownCap w (cI+n) c e*i.size:=by rw [←Nat.add_mul]; congr 1; omega
      omega
     cases hx with
     | slDead _ _ _ _ _ ad c hl hm=>have:=hS.dead b hm; simp [ag.cells,di] at this
     | slZero _ _ _ _ ad bW=>
      have wS:cs.drop off= []:=ei (by rw [Za]; simp)
      refine Ts (some ad) 0 [] (by rw [wS]; rfl) (fun j=>by rw [wS]; exact .undef _) (by simp [Builtin.firstCells,loadCells,loadCellsFrom]) aa
     | sl _ _ _ _ _ blk base c ow arr el fz hm gz tV hl bW=>
      obtain ⟨cs',arr',e',q1,q2,q3,q4⟩:=hS.cells b blk base ow hm
      rw [di] at q1
      cases ow with
      | false=>simp at q1
      | true=>
       simp only [if_true,ah,jP.own.injEq] at q1
       subst q1
       rw [gz] at q2
       simp only [ah,Obj.cells.injEq] at q2
       obtain ⟨rfl,rfl,rfl⟩:=q2
       by_cases hfit:cI+n<=c
       ·
        have zC:base+off+(cI+n)*i.size<=arr.size:=by
         have:(cI+n)*i.size<=c*i.size:=Nat.mul_le_mul_right _ hfit
         omega
        have hnl2:news.length=n*i.size:=by omega
        have sF:=run_storeCells_at (P:=P) blk (base+(off+cI*i.size)) el news 0 arr w gz (by rw [Nat.add_mul] at zC; omega) tR.one
        simp only [Nat.add_zero] at sF
        have eL:(Builtin.append_ #[t,tx] ty #[.slice (some ⟨blk,base+off,none⟩) cI c,yv]).run P w= .ok (.slice (some ⟨blk,base+off,none⟩) (cI+n) c)
          (w.setRow blk (arr.toList.take (base+(off+cI*i.size)) ++news ++arr.toList.drop (base+(off+cI*i.size)+news.length)).toArray):=by
         rcases tR.kind with ⟨e',hk⟩ | hk <;>
          simp [Builtin.append_,run_underlying ht,run_underlying hk,sizeOf,typeInfo,hi,tR.len,hfit,tR.cells,eH,Nat.add_assoc,sF]
        generalize Gw:(arr.toList.take (base+(off+cI*i.size)) ++news ++arr.toList.drop (base+(off+cI*i.size)+news.length)).toArray=kg at eL
        have Th:kg.size=arr.size:=by
         rw [←Gw]; simp; rw [Nat.add_mul] at zC; omega
        have Tt: ∀k,kg.getD k Go.undef=if base+(off+cI*i.size)<=k/\k < base+(off+cI*i.size)+news.length then news.getD (k - (base+(off+cI*i.size))) Go.undef else arr.getD k Go.undef:=by
         intro k
         rw [←Gw,ox,s8 _ _ _ _ (by simp; rw [Nat.add_mul] at zC; omega)]
         by_cases hk:base+(off+cI*i.size)<=k/\k < base+(off+cI*i.size)+news.length
         ·rw [if_pos hk,if_pos hk]
         ·rw [if_neg hk,if_neg hk]; simp
        have wV:=zt hS hm di gz Th (cs':=cs.drop off ++new) (off:=off) (by simp only [aq]; rw [Nat.add_mul] at zC; omega) (fun j hj=>by
         rw [Tt]
         simp only [aq] at hj
         by_cases hj1:j < (cs.drop off).length
         ·rw [if_neg aa]
          have e1:(cs.drop off ++new).getD j .undef=cs.getD (off+j) .undef:=by
           simp only [bc]
           rw [eX hj1]; simp
          rw [e1,Nat.add_assoc]
          exact q4 (off+j) aa
         ·rw [if_pos aa]
          have e1:(cs.drop off ++new).getD j .undef=new.getD (j - cI*i.size) .undef:=by
           simp only [bc]
           rw [eI aa,Za]
          have e2:base+off+j - (base+(off+cI*i.size))=j - cI*i.size:=by omega
          rw [e1,e2]
          exact hnr _) (len:=cI+n) (c:=c) (sz:=i.size) hfit (by
           have:c*i.size+(base+off)<=arr.size:=by omega
           omega)
        refine ⟨_,_,_,eL,wV.1,wV.2.1,wV.2.2,fun fk cm o' fe=> .inr ⟨b,off,cI,i.size,none,base,rfl,?_⟩⟩
        simp only [Mu.bind,if_true,Loc.at.injEq] at fe
        obtain ⟨rfl,rfl,rfl⟩:=fe
        exact ⟨hm,rfl⟩
       ·have gA: ∀j,j < (cs.drop off).length->∃u,w.cell? ⟨blk,base+off+j,none⟩=some u/\RV fm w X μ ((cs.drop off).getD j .undef) u:=by
         intro j hj
         rw [Za] at hj
         have aR:base+off+j < arr.size:=by omega
         refine ⟨arr.getD (base+(off+j)) Go.undef,?_,?_⟩
         ·rw [Nat.add_assoc] at aR ⊢
          simp [World.cell?,gz,aR]
         ·have:=q4 (off+j) aa
          simpa using this
        obtain ⟨vs,h1,h2,h3⟩:=oG gA
        exact Ts (some ⟨blk,base+off,none⟩) c vs h1.symm h3
         (run_firstCells_some w.drew i.size cI _ cI c vs aa (fun j u hu=>by rw [eH]; exact h2 j u hu)) aa
end
end Go.Ab
namespace Go.Ab
open Go.RowKit
section
variable {P:Program} {fm gm:Nat->aA} {G:Nat->ai}
variable {w:World} {X X':Nat->Prop} {μ μ':Mu} {σ:ag}
theorem ir {f:AV->Option AV}: ∀ {l m:ai},cS f l=some m->l.length=m.length/\∀j,j < l.length->f (l.getD j .undef)=some (m.getD j .undef)
 | [],m,h=>by simp only [cS,ah] at h; subst h; exact ⟨rfl,fun j hj=>absurd hj (by simp)⟩
 | a ::l,m,h=>by
  simp only [cS] at h
  split at h
  case h_2=>simp at h
  rename_i b hb
  split at h <;> simp only [ah,reduceCtorEq] at h
  rename_i m' hm
  subst h
  obtain ⟨h1,h2⟩:=ir hm
  refine ⟨by simp [h1],fun j hj=> ?_⟩
  cases j with
  | zero=>simpa using hb
  | succ j=>simpa using h2 j (by simpa using hj)
theorem eT: ∀ {l:ai},ay l=true->∀j,(l.getD j .undef).closed=true
 | [],_,j=>by simp [AV.closed]
 | a ::l,h,j=>by
  simp only [ay,ak] at h
  cases j with
  | zero=>simpa using h.1
  | succ j=>simpa using eT h.2 j
theorem qu: ∀ {l m:ai},ay (l ++m)=(ay l && ay m)
 | [],m=>by simp [ay]
 | a ::l,m=>by simp [ay,qu,Bool.and_assoc]
theorem Dr {a:AV}:a.closed=true->ay a.cells=true:=by
 intro h
 cases a <;> simp_all [AV.cells,ay,AV.closed]
theorem ui: ∀ {l:ai},ay l=true->ay (l.flatMap AV.cells)=true
 | [],_=>by simp [ay]
 | a ::l,h=>by
  simp only [ay,ak] at h
  simp only [List.flatMap_cons,qu,Dr h.1,ui h.2,aW]
theorem kd {v:AV} {cv:Value} (r:RV fm w X μ v cv) (h:v.closed=true) (hA: ∀blk,Av X' μ' blk->Av X μ blk):RV fm w X' μ' v cv:=by
 induction r with
 | undef v=>exact .undef v
 | bool b=>exact .bool b
 | int k n=>exact .int k n
 | str l s hs=>exact .str l s hs
 | lit v hv=>exact .lit v hv
 | fn f f' a c a' c' hf ha hc _ _ i1 i2=>
  simp only [AV.closed,ak] at h
  exact .fn f f' a c a' c' hf ha hc (fun j=>i1 j (eT h.1 j)) (fun j=>i2 j (eT h.2 j))
 | ptr=>simp [AV.closed] at h
 | ptrDead=>simp [AV.closed] at h
 | vptr cells off blk base g hAv aR hc _ ih=>
  simp only [AV.closed] at h
  exact .vptr cells off blk base g (fun h'=>hAv (hA _ h')) aR hc (fun j=>ih j (eT h j))
 | sl=>simp [AV.closed] at h
 | slDead=>simp [AV.closed] at h
 | slZero=>simp [AV.closed] at h
 | vslEmpty cap a c bW=>exact .vslEmpty cap a c bW
 | vslNil cap bW=>exact .vslNil cap bW
 | vsl els cap blk base sz c g hAv aR hs hl bW hc _ ih=>
  simp only [AV.closed] at h
  exact .vsl els cap blk base sz c g (fun h'=>hAv (hA _ h')) aR hs hl bW hc (fun j=>ih j (eT (ui h) j))
 | nils=>exact .nils
 | e0 a c=>exact .e0 a c
 | agg cs vs hl _ ih=>
  simp only [AV.closed] at h
  exact .agg cs vs hl (fun j=>ih j (eT h j))
 | tup cs vs hl _ ih=>
  simp only [AV.closed] at h
  exact .tup cs vs hl (fun j=>ih j (eT h j))
theorem nW: ∀ {l:ai},po l=true->∀j,(l.getD j .undef).flat=true
 | [],_,j=>by simp [AV.flat]
 | a ::l,h,j=>by
  simp only [po,ak] at h
  cases j with
  | zero=>simpa using h.1
  | succ j=>simpa using nW h.2 j
theorem Zh {v:AV} {cv:Value} (r:RV fm w X μ v cv) (h:v.flat=true):RV fm w X' μ' v cv:=by
 induction r with
 | undef v=>exact .undef v
 | bool b=>exact .bool b
 | int k n=>exact .int k n
 | str l s hs=>exact .str l s hs
 | lit v hv=>exact .lit v hv
 | fn f f' a c a' c' hf ha hc _ _ i1 i2=>
  simp only [AV.flat,ak] at h
  exact .fn f f' a c a' c' hf ha hc (fun j=>i1 j (nW h.1 j)) (fun j=>i2 j (nW h.2 j))
 | ptr=>simp [AV.flat] at h
 | ptrDead=>simp [AV.flat] at h
 | vptr=>simp [AV.flat] at h
 | sl=>simp [AV.flat] at h
 | slDead=>simp [AV.flat] at h
 | slZero=>simp [AV.flat] at h
 | vslEmpty cap a c bW=>exact .vslEmpty cap a c bW
 | vslNil cap bW=>exact .vslNil cap bW
 | vsl els cap blk base sz c g hAv aR hs hl bW hc _ ih=>
  cases els with
  | nil=>exact .vslEmpty cap _ _ bW
  | cons=>simp [AV.flat] at h
 | nils=>exact .nils
 | e0 a c=>exact .e0 a c
 | agg cs vs hl _ ih=>
  simp only [AV.flat] at h
  exact .agg cs vs hl (fun j=>ih j (nW h j))
 | tup cs vs hl _ ih=>
  simp only [AV.flat] at h
  exact .tup cs vs hl (fun j=>ih j (nW h j))
def Mu.none:Mu:=fun _=> .unborn
theorem oZ: ∀ {l:ai},(∀j,j < l.length->(l.getD j .undef).closed=true)->ay l=true
 | [],_=>rfl
 | a ::l,h=>by
  simp only [ay,ak]
  exact ⟨by simpa using h 0 (by simp),oZ (fun j hj=>by simpa using h (j+1) (by simpa using hj))⟩
theorem qt {sz:Nat}: ∀(n:Nat) {cs:ai},ay cs=true->ay (chunks sz n cs)=true
 | 0,_,_=>rfl
 | n+1,cs,h=>by
  have hd:ay (cs.drop sz)=true:=oZ (fun j _=>by
   have:=eT h (sz+j)
   simpa [List.getElem?_drop] using this)
  have ht:ay (cs.take sz)=true:=oZ (fun j hj=>by
   have:=eT h j
   have MB:j < sz:=by simp at hj; omega
   simpa [List.getElem?_take,MB] using this)
  simp only [chunks,ay,qt n hd,Bool.and_true]
  split
  ·cases cs with
   | nil=>rfl
   | cons c cs=>simp only [ay,ak] at h; simpa using h.1
  ·simpa [AV.closed] using ht
theorem uZ: ∀(d:Nat) {v v':AV},rb σ d v=some v'->v'.closed=true
 | 0,v,v',h=>by
  simp only [rb] at h
  split at h <;> simp only [ah,reduceCtorEq] at h
  rename_i hc; subst h; exact hc
 | d+1,v,v',h=>by
  have mo: ∀ {l m:ai},cS (rb σ d) l=some m->ay m=true:=fun {l m} hm=>by
   obtain ⟨h1,h2⟩:=ir hm
   exact oZ (fun j hj=>uZ d (h2 j aa))
  simp only [rb] at h
  split at h
  ·rename_i hc
   simp only [ah] at h
   subst h; exact hc
  ·cases v <;> simp only [reduceCtorEq] at h
   case fn=>
    split at h <;> simp only [ah,reduceCtorEq] at h
    rename_i h1 h2
    subst h
    simp [AV.closed,mo h1,mo h2]
   case ptr=>
    split at h
    case h_2=>simp at h
    split at h <;> simp only [ah,reduceCtorEq] at h
    rename_i h1
    subst h
    simp [AV.closed,mo h1]
   case sl=>
    split at h
    case h_2=>simp at h
    split at h
    case isFalse=>simp at h
    split at h
    case h_2=>simp at h
    rename_i h1
    split at h <;> simp only [ah,reduceCtorEq] at h
    subst h
    simp only [AV.closed]
    exact qt _ (mo h1)
   case agg=>
    split at h <;> simp only [ah,reduceCtorEq] at h
    rename_i h1
    subst h
    simp [AV.closed,mo h1]
   case tup=>
    split at h <;> simp only [ah,reduceCtorEq] at h
    rename_i h1
    subst h
    simp [AV.closed,mo h1]
theorem LH (hS:RS (fm:=fm) σ w X μ) (hX: ∀blk,X' blk->Av X μ blk) (BL: ∀b blk base o,μ b= .at blk base o->¬X' blk) :
  ∀(d:Nat) {v v':AV} {cv:Value},rb σ d v=some v'->RV fm w X μ v cv->RV fm w X' Mu.none v' cv:=by
 have hA: ∀blk,Av X' Mu.none blk->Av X μ blk:=by
  rintro blk (h | ⟨b,base,h⟩)
  ·exact hX blk h
  ·simp [Mu.none] at h
 have hnot: ∀b blk base o,μ b= .at blk base o->¬Av X' Mu.none blk:=by
  rintro b blk base o hm (h | ⟨b',cm,h⟩)
  ·exact BL b blk base o hm h
  ·simp [Mu.none] at h
 intro d
 induction d with
 | zero=>
  intro v v' cv h r
  simp only [rb] at h
  split at h <;> simp only [ah,reduceCtorEq] at h
  rename_i hc; subst h; exact kd r hc hA
 | succ d ih=>
  intro v v' cv h r
  have mo: ∀ {l m:ai} {vs:Nat->Value},cS (rb σ d) l=some m->(∀j,j < l.length->RV fm w X μ (l.getD j .undef) (vs j))->∀j,RV fm w X' Mu.none (m.getD j .undef) (vs j):=by
   intro l m vs hm hr j
   obtain ⟨h1,h2⟩:=ir hm
   by_cases hj:j < l.length
   ·exact ih (h2 j hj) (hr j hj)
   ·have:m.getD j .undef= .undef:=by rw [bc,cM aa]; rfl
    rw [this]; exact .undef _
  simp only [rb] at h
  split at h
  ·rename_i hc
   simp only [ah] at h
   subst h; exact kd r hc hA
  ·cases r with
   | undef | bool | int | str | lit | vptr | vslEmpty | vslNil | vsl | nils | e0=>simp at h
   | fn f f' a c a' c' hf ha hc h1 h2=>
    simp only at h
    split at h <;> simp only [ah,reduceCtorEq] at h
    rename_i m1 m2 e1 e2
    subst h
    exact .fn f f' _ _ a' c' hf (by rw [←(ir e1).1,ha]) (by rw [←(ir e2).1,hc]) (mo e1 (fun j _=>h1 j)) (mo e2 (fun j _=>h2 j))
   | agg cs vs hl hr=>
    simp only at h
    split at h <;> simp only [ah,reduceCtorEq] at h
    rename_i m1 e1
    subst h
    exact .agg _ vs (by rw [←(ir e1).1,hl]) (mo e1 (fun j _=>hr j))
   | tup cs vs hl hr=>
    simp only at h
    split at h <;> simp only [ah,reduceCtorEq] at h
    rename_i m1 e1
    subst h
    exact .tup _ vs (by rw [←(ir e1).1,hl]) (mo e1 (fun j _=>hr j))
   | ptrDead b off ad hm=>simp [hS.dead b hm] at h
   | ptr b off blk base o hm=>
    obtain ⟨cs,arr,e,h1,h2,h3,h4⟩:=hS.cells b blk base o hm
    have hc:σ.cells b=some cs:=by cases o <;> simp [ag.cells,h1]
    simp only [hc] at h
    split at h <;> simp only [ah,reduceCtorEq] at h
    rename_i m1 e1
    subst h
    obtain ⟨l1,_⟩:=ir e1
    exact .vptr m1 off blk base (fun j=>arr.getD (base+j) Go.undef) (hnot b blk base o hm) (hS.lt b blk base o hm)
     (fun j hj=>by
      have:base+j < arr.size:=by omega
      simp [World.cell?,h2,this])
     (mo e1 (fun j hj=>h4 j hj))
   | slDead b off len sz cap ad c hl hm=>simp [hS.dead b hm] at h
   | slZero b off sz cap ad bW=>
    simp only at h
    split at h
    case h_2=>simp at h
    split at h
    case isFalse=>simp at h
    split at h
    case h_2=>simp at h
    split at h <;> simp only [ah,reduceCtorEq] at h
    subst h
    exact .vslEmpty none _ _ (.inl rfl)
   | sl b off len sz cap blk base c o arr e fz hm hb tV hl bW=>
    obtain ⟨cs,arr',e',h1,h2,h3,h4⟩:=hS.cells b blk base o hm
    have hc:σ.cells b=some cs:=by cases o <;> simp [ag.cells,h1]
    rw [hb] at h2
    simp only [ah,Obj.cells.injEq] at h2
    obtain ⟨rfl,rfl,rfl⟩:=h2
    simp only [hc] at h
    split at h
    case isFalse=>simp at h
    rename_i aK
    obtain ⟨hle,fb⟩:=aK
    split at h
    case h_2=>simp at h
    rename_i m1 e1
    split at h <;> simp only [ah,reduceCtorEq] at h
    rename_i YX
    subst h
    obtain ⟨l1,_⟩:=ir e1
    have Jz:m1.length=len*sz:=by rw [←l1]; simp; omega
    obtain ⟨f1,f2,f3⟩:=kK fb len m1 Jz YX
    have:=RV.vsl (fm:=fm) (w:=w) (X:=X') (μ:=Mu.none) (chunks sz len m1) none blk (base+off) sz c (fun j=>arr.getD (base+(off+j)) Go.undef) (hnot b blk base o hm) (hS.lt b blk base o hm) f3
     aa (.inl rfl)
     (by
      intro j hj
      rw [f2] at hj
      have:base+(off+j) < arr.size:=by omega
      rw [Nat.add_assoc]
      simp [World.cell?,hb,this])
     (by
      rw [f1]
      exact mo e1 (fun j hj=>by
       rw [l1,Jz] at hj
       have e2:((cs.drop off).take (len*sz)).getD j .undef=cs.getD (off+j) .undef:=by simp [hj]
       rw [e2]
       exact h4 (off+j) aa))
    rw [f2] at this
    exact this
theorem mh (l:ai) (j:Nat):(eP l).getD j .undef=(l.getD j .undef).er:=by
 rw [iI]
 simp only [bc,bV]
 cases l[j]? <;> rfl
theorem Ht (v:AV):v.er.cells=v.cells.map AV.er:=by
 cases v <;> simp [AV.er,AV.cells,iI]
theorem Us (l:ai):(eP l).flatMap AV.cells=(l.flatMap AV.cells).map AV.er:=by
 rw [iI]
 induction l with
 | nil=>rfl
 | cons v l ih=>simp [Ht,ih]
theorem Hr {v:AV} {cv:Value} (r:RV fm w X μ v cv):RV fm w X μ v.er cv:=by
 induction r with
 | undef v=>exact .undef v
 | bool b=>exact .bool b
 | int k n=>exact .int k n
 | str l s hs=>exact .str l s hs
 | lit v hv=>exact .lit v hv
 | fn f f' a c a' c' hf ha hc _ _ i1 i2=>
  exact .fn f f' _ _ a' c' hf (by simp [iI,ha]) (by simp [iI,hc]) (fun j=>by rw [mh]; exact i1 j) (fun j=>by rw [mh]; exact i2 j)
 | ptr b off blk base o h=>exact .ptr b off blk base o h
 | ptrDead b off x h=>exact .ptrDead b off x h
 | vptr cells off blk base g hAv aR hc _ ih=>
  exact .vptr _ off blk base g hAv aR (fun j hj=>hc j (by simpa [iI] using hj)) (fun j=>by rw [mh]; exact ih j)
 | sl b off len sz cap blk base c o arr e fz h hb hr hl bW=>exact .sl b off len sz cap blk base c o arr e fz h hb hr hl bW
 | slDead b off len sz cap a c hl h=>exact .slDead b off len sz cap a c hl h
 | slZero b off sz cap a bW=>exact .slZero b off sz cap a bW
 | vslEmpty cap a c bW=>exact .vslEmpty none a c (.inl rfl)
 | vslNil cap bW=>exact .vslNil none (.inl rfl)
 | vsl els cap blk base sz c g hAv aR hs hl bW hc _ ih=>
  have hlen:(eP els).length=els.length:=by simp [iI]
  have:=RV.vsl (fm:=fm) (w:=w) (X:=X) (μ:=μ) (eP els) none blk base sz c g hAv aR
   (by
    intro x hx
    rw [iI] at hx
    obtain ⟨y,hy,rfl⟩:=List.mem_map.1 hx
    rw [Ht,aH]
    exact hs y hy) aa (.inl rfl) (by rw [hlen]; exact hc)
   (by
    intro j
    have e1:((eP els).flatMap AV.cells).getD j .undef=((els.flatMap AV.cells).getD j .undef).er:=by
     rw [Us,←iI,mh]
    rw [e1]; exact ih j)
  rw [hlen] at this
  exact this
 | nils=>exact .vslNil none (.inl rfl)
 | e0 a c=>exact .vslEmpty none a c (.inl rfl)
 | agg cs vs hl _ ih=>exact .agg _ vs (by simp [iI,hl]) (fun j=>by rw [mh]; exact ih j)
 | tup cs vs hl _ ih=>exact .tup _ vs (by simp [iI,hl]) (fun j=>by rw [mh]; exact ih j)
end
end Go.Ab
namespace Go.Ab
open Go.RowKit
section
variable (P:Program) (fm gm:Nat->aA)
def qk (ops:Array Oper):Option (Nat×Bool)->Option (Nat×Bool)->Bool
 | none,none=>true
 | some (t,b),some (j,b')=>(b == b') && (match ops[j]? with
  | some o=>o.dst == some t
  | none=>false)
 | _,_=>false
def tA (N:Nat) (ops:Array Oper) (io:a8) (o:Oper):Bool:=
 (io.dst == o.dst) && (match o.dst with | some d=>decide (d < N) | none=>true) && qk ops io.guard o.guard && aS P fm gm io.op o.op
def fB (N:Nat) (ops:Array Oper):List a8->List Oper->Bool
 | [], []=>true
 | io ::r,o ::s=>tA P fm gm N ops io o && fB N ops r s
 | _,_=>false
def eC (dc:List a8->Array Oper->Bool) (N:Nat):al->Code->Bool
 | .skip, .skip=>true
 | .region ops, .region _ ops' draw=>fB P fm gm N ops' ops ops'.toList && (!draw || dc ops ops')
 | .seq a b, .seq a' b'=>eC dc N a a' && eC dc N b b'
 | .cond c a b, .cond c' a' b'=>bu fm gm c c' && eC dc N a a' && eC dc N b b'
 | .block id c, .block id' c'=>(id == id') && eC dc N c c'
 | .loop _ c, .loop c'=>eC dc N c c'
 | .keep _ c,c'=>eC dc N c c'
 | .frz _ c,c'=>eC dc N c c'
 | .arity _ _,_=>false
 | .exit id, .exit id'=>id == id'
 | .ret, .ret=>true
 | .stop,_=>true
 | _,_=>false
def kS:List Qa->List ResultVar->Bool
 | [], []=>true
 | .tmp t ::r, .tmp t' ::s=>(t == t') && kS r s
 | .cell t n ::r, .cell t' ty ::s=>(t == t') && j6 P ty n && kS r s
 | _,_=>false
def Dd (dc:List a8->Array Oper->Bool) (F:au) (f:Nat):Bool:=
 match P.funcs[f]? with
 | some fn=>(match fn.body with
  | some c=>eC P fm gm dc fn.ntmps F.body c
  | none=>false) && kS P F.res fn.results.toList && (fn.name != "runtime.NumGoroutine")
 | none=>false
end
section
variable {P:Program} {fm gm:Nat->aA} {G:Nat->ai} {ip:Nat->Option au}
inductive oi (ip:Nat->Option au) (G:Nat->ai) (n:Nat):List a8->Fr->ag->Fr->ag->Prop
 | nil (fr:Fr) (σ:ag):oi ip G n [] fr σ fr σ
 | step (o:a8) (os:List a8) (fr fr':Fr) (σ σ1 σ':ag) (v:AV) (m:Nat) (hm:m < n) (hw:wanted o.guard fr=some true)
   (hd:bH ip G (run ip G m) o.op fr σ=some (v,σ1)) (t:oi ip G n os (fr.put o.dst v) σ1 fr' σ'):oi ip G n (o ::os) fr σ fr' σ'
 | skip (o:a8) (os:List a8) (fr fr':Fr) (σ σ':ag) (hw:wanted o.guard fr=some false)
   (t:oi ip G n os (fr.put o.dst (.tup [])) σ fr' σ'):oi ip G n (o ::os) fr σ fr' σ'
theorem oi.mono {n m:Nat} (h:n<=m) {os:List a8} {fr fr':Fr} {σ σ':ag} (x:oi ip G n os fr σ fr' σ'):oi ip G m os fr σ fr' σ':=by
 induction x with
 | nil fr σ=>exact .nil fr σ
 | step o os fr fr' σ σ1 σ' v k hm hw hd _ ih=>exact .step o os fr fr' σ σ1 σ' v k aa hw hd ih
 | skip o os fr fr' σ σ' hw _ ih=>exact .skip o os fr fr' σ σ' hw ih
theorem CA: ∀(n:Nat) (os:List a8) (k:List Item) (fr fr':Fr) (σ σ':ag),run ip G n (.ops os ::k) fr σ=some (fr',σ')->
  ∃m sP σ1,m < n/\oi ip G n os fr σ sP σ1/\run ip G m k sP σ1=some (fr',σ')
 | 0,os,k,fr,fr',σ,σ',h=>by simp [run] at h
 | n+1, [],k,fr,fr',σ,σ',h=>by
  simp only [run] at h
  exact ⟨n,fr,σ,by omega, .nil fr σ,h⟩
 | n+1,o ::os,k,fr,fr',σ,σ',h=>by
  simp only [run] at h
  split at h
  ·rename_i hw
   split at h
   case h_2=>simp at h
   rename_i v σ1 hd
   obtain ⟨m,sP,σ2,h1,h2,h3⟩:=CA n os k _ fr' σ1 σ' h
   exact ⟨m,sP,σ2,by omega, .step o os fr sP σ σ1 σ2 v n aa hw hd (h2.mono aa),h3⟩
  ·rename_i hw
   obtain ⟨m,sP,σ2,h1,h2,h3⟩:=CA n os k _ fr' σ σ' h
   exact ⟨m,sP,σ2,by omega, .skip o os fr sP σ σ2 hw (h2.mono aa),h3⟩
  ·simp at h
structure Out (fm:Nat->aA) (N:Nat) (X:Nat->Prop) (w:World) (μ:Mu) (a:Act) (fr':Fr) (σ':ag) (a':Act) (w':World) (μ':Mu):Prop where
 rf:RF (fm:=fm) N fr' a'.tmps w' X μ'
 rs:RS (fm:=fm) σ' w' X μ'
 ext:Ext w μ w' μ'
 defers:a'.defers=a.defers
def K0 (P:Program) (fm:Nat->aA) (X:Nat->Prop) (μ:Mu) (f:FuncId) (args:Array Value) (w:World) (r:AV) (σ':ag):Prop:=
 Calls P f args w fun e w'=>∃cv μ',e= .returned cv/\RV fm w' X μ' r cv/\RS (fm:=fm) σ' w' X μ'/\Ext w μ w' μ'
def gF (P:Program) (fm gm:Nat->aA) (G:Nat->ai) (ip:Nat->Option au) (n:Nat):Prop:=
 ∀(m:Nat),m < n->∀(X:Nat->Prop) (μ:Mu) (w:World) (σ σ':ag) (id:Nat) (first args caps:ai) (r:AV),
  dd ip (run ip G m) (.fn id first caps) args σ=some (r,σ')->eM fm gm G w X μ->RS (fm:=fm) σ w X μ->(∀b,X b->b < w.heap.size)->
  ∀(f':FuncId) (c6 args' fu:Array Value),fm id=some f'->first.length=c6.size->args.length=args'.size->caps.length=fu.size->
   (∀j,RV fm w X μ (first.getD j .undef) (c6.getD j Go.undef))->(∀j,RV fm w X μ (args.getD j .undef) (args'.getD j Go.undef))->(∀j,RV fm w X μ (caps.getD j .undef) (fu.getD j Go.undef))->
   (∃fn,P.funcs[f']? =some fn/\fn.body.isSome=true/\fn.name≠ "runtime.NumGoroutine")/\K0 P fm X μ f' (c6 ++args' ++fu) w r σ'
end
end Go.Ab
namespace Go.Ab
open Go.RowKit
section
variable {P:Program} {fm gm:Nat->aA} {G:Nat->ai} {ip:Nat->Option au}
variable {w:World} {X:Nat->Prop} {μ:Mu} {σ σ':ag} {N:Nat} {fr:Fr} {a:Act} {o:Oper} {v:AV}
def DH (P:Program) (fm:Nat->aA) (X:Nat->Prop) (μ:Mu) (o:Oper) (a:Act) (w:World) (v:AV) (σ':ag):Prop:=
 ∀(next:Act->World->Prop) (Q:Exit->Act->World->Prop),
  (∀cv w' μ',RV fm w' X μ' v cv->Ext w μ w' μ'->RS (fm:=fm) σ' w' X μ'->next (a.put o.dst cv) w')->o.wp P a w next Q
def M4 (P:Program) (fm:Nat->aA) (X:Nat->Prop) (μ:Mu) (o:Oper) (a:Act) (w:World) (v:AV):Prop:=
 ∀(next:Act->World->Prop) (Q:Exit->Act->World->Prop),
  (∀cv w',RV fm w' X μ v cv->Below w.heap.size w w'->next (a.put o.dst cv) w')->o.wp P a w next Q
theorem M4.of_yld (h:c7 P fm X μ o a w v):M4 P fm X μ o a w v:=by
 intro next Q hk
 obtain ⟨cv,w',h1,h2,h3⟩:=h
 unfold Oper.wp
 rw [h1]; exact hk cv w' h2 h3
theorem M4.opWp (g:bO P fm gm G w X μ σ N fr a) (h:M4 P fm X μ o a w v):DH P fm X μ o a w v σ:=by
 intro next Q hk
 exact h next Q (fun cv w' h1 h2=>hk cv w' μ h1 (Ext.of_below h2) (g.rs.below h2))
theorem DH.of_eff (h:EO P fm X μ o a w v σ'):DH P fm X μ o a w v σ':=by
 intro next Q hk
 obtain ⟨cv,w',μ',h1,h2,h3,h4⟩:=h
 unfold Oper.wp
 rcases h1 with h1 | ⟨h1,rfl⟩
 ·rw [h1]; exact hk cv w' μ' h2 h3 h4
 ·rw [h1]; exact hk _ w' μ' h2 h3 h4
theorem E4 {n:Nat} {p x v:AV} (h:gp σ n p x=some (v,σ')):σ'=σ:=by
 unfold gp at h
 split at h
 ·split at h
  ·split at h <;> simp only [ah,aL,reduceCtorEq] at h
   exact h.2.symm
  ·cases h
 ·cases h
theorem ta: ∀ {l m:ai},gq l m=true->l.length=m.length/\∀j,j < l.length->∃k z,l.getD j .undef= .int k z/\m.getD j .undef= .int k z
 | [], [],_=>⟨rfl,fun j h=>by simp at h⟩
 | .int k z ::l, .int k' z' ::m,h=>by
  simp only [gq,ak,beq_iff_eq] at h
  obtain ⟨⟨rfl,rfl⟩,h⟩:=h
  obtain ⟨h1,h2⟩:=ta h
  refine ⟨by simp [h1],fun j hj=> ?_⟩
  cases j with
  | zero=>exact ⟨_,_,rfl,rfl⟩
  | succ j=>simpa using h2 j (by simpa using hj)
 | [],_ ::_,h=>by simp [gq] at h
 | _ ::_, [],h=>by simp [gq] at h
 | .undef ::_,_ ::_,h | .bool _ ::_,_ ::_,h | .str _ ::_,_ ::_,h | .lit _ ::_,_ ::_,h | .fn .. ::_,_ ::_,h | .ptr .. ::_,_ ::_,h | .vptr .. ::_,_ ::_,h | .sl .. ::_,_ ::_,h | .vsl .. ::_,_ ::_,h | .e0 ::_,_ ::_,h | .nils ::_,_ ::_,h | .agg _ ::_,_ ::_,h | .tup _ ::_,_ ::_,h=>by simp [gq] at h
 | .int _ _ ::_, .undef ::_,h | .int _ _ ::_, .bool _ ::_,h | .int _ _ ::_, .str _ ::_,h | .int _ _ ::_, .lit _ ::_,h | .int _ _ ::_, .fn .. ::_,h | .int _ _ ::_, .ptr .. ::_,h | .int _ _ ::_, .vptr .. ::_,h | .int _ _ ::_, .sl .. ::_,h | .int _ _ ::_, .vsl .. ::_,h | .int _ _ ::_, .e0 ::_,h | .int _ _ ::_, .nils ::_,h | .int _ _ ::_, .agg _ ::_,h | .int _ _ ::_, .tup _ ::_,h=>by simp [gq] at h
theorem Fc {w:World} {blk:Nat} {arr:Array Value} {e:TypeId} {fz:Nat×Nat} (h:w.heap[blk]? =some (.cells arr e fz)):w.setRow blk arr=w:=by
 have key:(w.setRow blk arr).heap=w.heap:=by
  apply Array.ext_getElem?
  intro i
  show (w.heap.modify blk _)[i]? =_
  rw [Array.getElem?_modify]
  split
  ·rename_i hi; subst hi; rw [h]; rfl
  ·rfl
 have e:w.setRow blk arr= { w with heap:=(w.setRow blk arr).heap }:=rfl
 rw [e,key]
theorem FD (g:bO P fm gm G w X μ σ N fr a) {n:Nat} {p x:bB} (hc:aS P fm gm (.storeS n p x) o.op=true) (h:gp σ n (val G fr p) (val G fr x)=some (v,σ')):M4 P fm X μ o a w v:=by
 obtain ⟨dst,op,type,pos,after,guard⟩:=o
 simp only [aS] at hc
 split at hc
 case h_2=>simp at hc
 rename_i t p' x'
 simp only [ak] at hc
 obtain ⟨⟨ht,Qm⟩,Ib⟩:=hc
 have rp:=bj g.glob g.rf Qm
 have rx:=bj g.glob g.rf Ib
 generalize val G fr p=pa at rp h
 unfold gp at h
 split at h
 case h_2=>cases h
 rename_i b off
 split at h
 case h_2=>cases h
 rename_i cs ma
 split at h <;> simp only [ah,aL,reduceCtorEq] at h
 rename_i aK
 obtain ⟨hle,hn,wu,how⟩:=aK
 obtain ⟨rfl,rfl⟩:=h
 obtain ⟨cs',ho⟩:=Option.isSome_iff_exists.1 how
 have di:σ.get b=some (.own cs'):=by
  unfold ag.owned at ho
  split at ho
  ·rename_i hh; rw [hh]; rw [bT ho]
  ·cases ho
 obtain rfl:cs'=cs:=by unfold ag.cells at ma; rw [di] at ma; exact bT ma
 obtain ⟨C9,hsg⟩:=ta wu
 have htl:((cs'.drop off).take n).length=n:=by simp; omega
 have dh:(val G fr x).cells.all AV.one=true:=by
  rw [bG]
  intro y hy
  obtain ⟨j,hj,rfl⟩:=List.getElem_of_mem hy
  obtain ⟨k,z,_,h2⟩:=hsg j aa
  rw [bc,bx hj] at h2
  simp only [Option.getD_some] at h2
  rw [h2]; rfl
 have hkn:(val G fr x).known=true:=by
  cases hv:val G fr x <;> first | rfl | (rw [hv] at dh; simp [AV.cells,AV.one] at dh)
 obtain ⟨hl,hr⟩:=rx.cells hkn
 have hs:=fx (P:=P) (w:=w) ht
 generalize nU:a.eval x'=xv at rx hl hr
 generalize hpv:a.eval p'=pv at rp
 cases rp with
 | ptrDead _ _ ad hm=>have:=g.rs.dead b hm; simp [ag.cells,di] at this
 | ptr _ _ blk base ow hm=>
  obtain ⟨cs2,arr,e,h1,h2,h3,h4⟩:=g.rs.cells b blk base ow hm
  rw [di] at h1
  cases ow with
  | false=>simp at h1
  | true=>
   simp only [if_true,ah,jP.own.injEq] at h1
   subst h1
   have Mw:xv.cells.toList.length=n:=by simp; omega
   have Gg: ∀u∈xv.cells.toList,u.oneCell'=true:=uw (cs:=(val G fr x).cells) (by simpa using hl) (fun j=>by simpa using hr j) dh
   have eL:=run_storeCells_at (P:=P) blk (base+off) e xv.cells.toList 0 arr w h2 aa Gg
   simp only [Nat.add_zero] at eL
   have Gw:(arr.toList.take (base+off) ++xv.cells.toList ++arr.toList.drop (base+off+xv.cells.toList.length)).toArray=arr:=by
    apply Array.ext'
    have Jv:xv.cells.toList=(arr.toList.drop (base+off)).take n:=by
     apply List.ext_getElem?
     intro j
     by_cases hj:j < n
     ·obtain ⟨k,z,q1,q2⟩:=hsg j aa
      have r1:=hr j
      rw [q2] at r1
      have r2:=h4 (off+j) aa
      have q3:cs'.getD (off+j) .undef= .int k z:=by
       rw [←q1]
       simp only [bc,List.getElem?_take,List.getElem?_drop,if_pos hj]
      rw [q3] at r2
      have hja:base+off+j < arr.size:=by omega
      have hjx:j < xv.cells.size:=by have:=Mw; simp at this; omega
      have w1:xv.cells.getD j Go.undef= .int k z:=by
       generalize xv.cells.getD j Go.undef=u at r1; cases r1; rfl
      have w2:arr.getD (base+(off+j)) Go.undef= .int k z:=by
       generalize arr.getD (base+(off+j)) Go.undef=u at r2; cases r2; rfl
      rw [←Nat.add_assoc] at w2
      rw [List.getElem?_take,if_pos hj,List.getElem?_drop]
      simp [hjx] at w1
      simp [hja] at w2
      simp [hjx,hja,w1,w2]
     ·rw [cM aa,cM (by simp; omega)]
    rw [Mw]
    show arr.toList.take (base+off) ++xv.cells.toList ++arr.toList.drop (base+off+n)=arr.toList
    have hd:arr.toList.drop (base+off+n)=(arr.toList.drop (base+off)).drop n:=by rw [List.drop_drop]
    rw [Jv,hd,bb,ed,ed]
   rw [Gw,Fc h2] at eL
   intro next Q hk
   unfold Oper.wp
   have hex:(execOp a.eval ⟨dst, .store t p' x',type,pos,after,guard⟩).run P w= .ok .skip w:=by
    simp only [execOp,hpv,nU,Instr.storeAt,Instr.sureAddr,storeVar,Sem.run_bind,Sem.run_pure,Result.andThen_ok,hs,Sem.run_ite]
    rw [if_neg (by simp; omega)]
    simp [eL]
   rw [hex]; exact hk _ w (.undef _) (Below.refl _ _)
theorem Uv (g:bO P fm gm G w X μ σ N fr a) {sz bytes:Nat} {str:Bool} {x y:bB} (hc:aS P fm gm (.append sz bytes str x y) o.op=true) {run:kN}
  (h:bH ip G run (.append sz bytes str x y) fr σ=some (v,σ')):EO P fm X μ o a w v σ':=by
 obtain ⟨dst,op,type,pos,after,guard⟩:=o
 simp only [aS] at hc
 split at hc
 case h_2=>simp at hc
 rename_i args argTypes
 simp only [ak] at hc
 obtain ⟨⟨hx,h0⟩,h1⟩:=hc
 obtain ⟨x',y',rfl,nV,YO⟩:=od hx
 have rx:=bj g.glob g.rf nV
 have ry:=bj g.glob g.rf YO
 unfold og at h0 h1
 cases xx:argTypes[0]? with
 | none=>simp [xx] at h0
 | some t=>
  cases Qt:argTypes[1]? with
  | none=>simp [Qt] at h1
  | some tx=>
   simp only [xx] at h0
   simp only [Qt] at h1
   split at h0
   case h_2=>simp at h0
   rename_i e hu
   cases hi:P.info? e with
   | none=>simp [hi] at h0
   | some i=>
    simp only [hi,ak,beq_iff_eq] at h0
    obtain ⟨⟨fb,ET⟩,hz⟩:=h0
    cases Td:i.zero with
    | none=>simp [Td] at hz
    | some z=>
     simp only [Td,beq_iff_eq] at hz
     have Th:argTypes.size≥2:=by
      have:=(Array.getElem?_eq_some_iff.1 Qt).1
      omega
     have iS: ∀(av:Array Value),Builtin.append_ argTypes type av=Builtin.append_ #[t,tx] type av:=by
      intro av
      unfold Builtin.append_
      simp only [xx,Qt]
      rfl
     have fin: ∀(new:ai) (n:Nat),HR P fm w X μ sz tx (a.eval y') n new->aF σ sz bytes (val G fr x) new n=some (v,σ')->
       EO P fm X μ ⟨dst, .call { callee:= .builtin .append,args:=#[x',y'],argTypes:=argTypes },type,pos,after,guard⟩ a w v σ':=by
      intro new n hs da
      obtain ⟨cv,w',μ',r1,r2,r3,r4,_⟩:=qZ (P:=P) (ty:=type) g.rs g.out rx hu hi Td fb ET (by rw [hz]) hs da
      refine ⟨cv,w',μ', .inl ?_,r2,r3,r4⟩
      simp [execOp,resolve,invoke,builtin,iS,r1]
     simp only [bH] at h
     split at h1
     ·rename_i YP
      subst h1
      simp only [if_true] at h
      generalize hyv:val G fr y=yv at ry h
      split at h
      case h_2=>simp at h
      rename_i s
      split at h
      case isFalse=>simp at h
      rename_i hsz1
      subst hsz1
      generalize hyc:a.eval y'=yc at ry fin
      cases ry with
      | str _ b hb=>
       have hl:s.length=b.size:=by rw [←hb]; simp
       rw [←hb] at h
       have:=yI (P:=P) (fm:=fm) (w:=w) (X:=X) (μ:=μ) (s:=b) YP
       refine fin _ _ this ?_
       rw [show b.size=b.data.toList.length from by simp]
       exact h
     ·rename_i e' YP
      simp only [Bool.not_eq_true'] at h1
      subst h1
      simp only [bh,if_false] at h
      split at h
      case h_2=>simp at h
      rename_i n new hn ll
      have dh:new.all AV.one=true:=by
       unfold aF at h
       split at h
       ·simp at h
       ·split at h
        ·rename_i aK; exact aK.2.2.2.2
        ·simp at h
      exact fin _ _ (qC g.rs ry ll hn dh YP) h
     ·simp at h1
theorem uX {dst:Option Tmp} {c:Call} {type:TypeId} {pos:String} {after:Array Edge} {guard:Option (Nat×Bool)} {fo:Operand} (hcal:c.callee= .value fo)
  {f':FuncId} {c6 fu:Array Value} (hf:a.eval fo= .func (.func f') c6 fu) {fn:Func} (h1:P.funcs[f']? =some fn) (h2:fn.body.isSome=true) (h3:fn.name≠ "runtime.NumGoroutine") :
  (execOp a.eval ⟨dst, .call c,type,pos,after,guard⟩).run P w= .ok (.enter f' (c6 ++c.args.map a.eval ++fu)) w:=by
 have hb:fn.body.isNone=false:=by cases hb:fn.body <;> simp_all
 simp only [execOp,resolve,hcal,hf,Deferred.ofValue,Sem.run_bind,Sem.run_pure,Result.andThen_ok,invoke,callFunc,run_program,h1]
 simp [h3,hb]
theorem Mc (g:bO P fm gm G w X μ σ N fr a) {n m:Nat} (hS:gF P fm gm G ip n) (hm:m < n) {sh:uH} {f:bB} {xs:List bB} (hc:aS P fm gm (.call sh f xs) o.op=true)
  (h:dd ip (run ip G m) (val G fr f) (xs.map (val G fr)) σ=some (v,σ')):DH P fm X μ o a w v σ':=by
 obtain ⟨dst,op,type,pos,after,guard⟩:=o
 simp only [aS] at hc
 split at hc
 case h_2=>simp at hc
 rename_i fo args argTypes
 simp only [ak] at hc
 obtain ⟨hf,hx⟩:=hc
 have rf:=bj g.glob g.rf hf
 obtain ⟨l1,r1⟩:=sZ g.glob g.rf hx
 cases Wa:val G fr f with
 | fn id first caps=>
  rw [Wa] at h rf
  generalize nI:a.eval fo=fv at rf
  cases rf with
  | fn _ f' _ _ c6 fu hfm ha hcp q1 q2=>
   obtain ⟨⟨fn,k1,k2,k3⟩,bP⟩:=hS m hm X μ w σ σ' id first (xs.map (val G fr)) caps v h g.glob g.rs g.out f' c6 (args.map a.eval) fu hfm ha
    (by simpa using l1) hcp q1 (fun j=>by have:=r1 j; simpa using this) q2
   intro next Q hk
   have eL:=uX (P:=P) (w:=w) (dst:=dst) (c:={ callee:= .value fo,args:=args,argTypes:=argTypes }) (type:=type) (pos:=pos) (after:=after) (guard:=guard) rfl nI k1 k2 k3
   unfold Oper.wp
   rw [eL]
   show Calls P f' _ w _
   refine Calls.mono bP ?_
   rintro e w' ⟨cv,μ',rfl,h2,h3,h4⟩
   exact hk cv w' μ' h2 h4 h3
 | _=>rw [Wa] at h; simp [dd] at h
def Mu.frozen (μ:Mu):Mu:=fun b=>match μ b with
 | .at blk base _=> .at blk base false
 | l=>l
theorem iw (μ:Mu) (b blk base:Nat):μ.frozen b≠ .at blk base true:=by
 unfold Mu.frozen
 split <;> simp_all
theorem ka (σ:ag) (b:Nat):σ.freeze.get b=(σ.get b).map fun x=>match x with | .own cs=> .frz cs | x=>x:=by
 unfold ag.freeze ag.get
 simp only
 induction σ.m with
 | nil=>rfl
 | cons p l ih=>
  obtain ⟨i,x⟩:=p
  simp only [List.map_cons,j5]
  by_cases h:i=b
  ·rw [if_pos h,if_pos h]; rfl
  ·rw [if_neg h,if_neg h]; exact ih
theorem Jj {σ:ag} {b e:Nat} (h:(b,jP.tag e)∈σ.freeze.m):(b,jP.tag e)∈σ.m:=by
 obtain ⟨⟨i,x⟩,h1,h2⟩:=List.mem_map.1 h
 simp only [aL] at h2
 obtain ⟨rfl,h2⟩:=h2
 cases x <;> simp at h2
 subst h2; exact h1
theorem Df (σ:ag) (b:Nat):(σ.freeze1 b).next=σ.next:=by unfold ag.freeze1; split <;> rfl
theorem FY {σ:ag} {b0 b e:Nat} (h:(b,jP.tag e)∈(σ.freeze1 b0).m):(b,jP.tag e)∈σ.m:=by
 unfold ag.freeze1 at h
 split at h
 ·exact mem_push (fun _=>by simp) h
 ·exact h
theorem Pz (hS:RS (fm:=fm) σ w X μ):Ext w μ w μ.frozen/\RS (fm:=fm) σ.freeze w X μ.frozen:=by
 have iS: ∀b blk base o,μ.frozen b= .at blk base o->o=false/\∃o',μ b= .at blk base o':=by
  intro b blk base o h
  unfold Mu.frozen at h
  split at h
  ·rename_i bl ba oo hh
   simp only [Loc.at.injEq] at h
   obtain ⟨rfl,rfl,rfl⟩:=h
   exact ⟨rfl,oo,hh⟩
  ·rename_i l hh
   exact absurd h (hh _ _ _)
 have gM:Ext w μ w μ.frozen:=by
  refine ⟨rfl,rfl,rfl,aD _,fun _ _ _=>rfl,fun _ ar _ fz h=>⟨ar,fz,h,rfl⟩,fun b blk base h=>absurd h (iw μ b blk base),fun b blk base o h=> .inr ⟨false,by simp [Mu.frozen,h]⟩,fun b h=>by simp [Mu.frozen,h]⟩
 refine ⟨gM,?_⟩
 refine ⟨fun b blk base o h=> ?_,fun b blk base h=>absurd h (iw μ b blk base),fun b blk base h=> ?_,fun b b' blk base cm h=>absurd h (iw μ b blk base),fun b blk base o h=> ?_,fun b h=> ?_,fun b x h=> ?_,fun b h=> ?_,fun b h=> ?_,hS.tys.step (fun _ _ h=>Jj h) (aD _) (fun b blk base o _ _ h=>(iS b blk base o h).2) gM⟩
 ·obtain ⟨_,o',h'⟩:=iS b blk base o h
  exact hS.lt b blk base o' h'
 ·obtain ⟨_,o',h'⟩:=iS b blk base false h
  rintro (hx | ⟨b',cm,hx⟩)
  ·cases o' with
   | true=>exact hS.far b blk base h' hx
   | false=>exact hS.frz b blk base h' (.inl hx)
  ·exact iw μ b' blk cm hx
 ·obtain ⟨rfl,o',h'⟩:=iS b blk base o h
  obtain ⟨cs,arr,e,h1,h2,h3,h4⟩:=hS.cells b blk base o' h'
  exact ⟨cs,arr,e,by rw [ka,h1]; cases o' <;> rfl,h2,h3,fun j hj=>(h4 j hj).ext gM⟩
 ·rw [ka] at h
  have h':σ.get b=none:=by cases hg:σ.get b <;> simp_all
  simp [Mu.frozen,hS.born b h']
 ·rw [ka] at h
  cases hg:σ.get b with
  | none=>simp [hg] at h
  | some y=>exact hS.lim b y hg
 ·rw [ka] at h
  cases hg:σ.get b with
  | none=>simp [hg] at h
  | some y=>
   rw [hg] at h
   cases y <;> simp at h
   simp [Mu.frozen,hS.gone b hg]
 ·have h':μ b= .dead:=by
   unfold Mu.frozen at h
   split at h
   ·simp at h
   ·exact h
  have:=hS.dead b h'
  simp only [ag.cells,ka] at this ⊢
  cases hg:σ.get b with
  | none=>rfl
  | some y=>rw [hg] at this; cases y <;> simp_all
def Mu.frozen1 (μ:Mu) (b:Nat):Mu:=fun b'=>if b'=b then (match μ b with
 | .at blk base _=> .at blk base false
 | l=>l) else μ b'
theorem kI (σ:ag) (b b':Nat):(σ.freeze1 b).get b'=if b'=b then (match σ.get b with | some (.own cs)=>some (.frz cs) | x=>x) else σ.get b':=by
 unfold ag.freeze1
 by_cases h:b'=b
 ·subst h
  rw [if_pos rfl]
  split
  ·rename_i cs hg
   rw [dr,if_pos rfl]
   rw [hg]
  ·rename_i hg
   cases hx:σ.get b' with
   | none=>rfl
   | some y=>cases y <;> simp_all
 ·rw [if_neg h]
  split
  ·rw [dr,if_neg h]
  ·rfl
theorem zN (hS:RS (fm:=fm) σ w X μ) (b0:Nat):Ext w μ w (μ.frozen1 b0)/\RS (fm:=fm) (σ.freeze1 b0) w X (μ.frozen1 b0):=by
 have iS: ∀b blk base o,μ.frozen1 b0 b= .at blk base o->(b=b0->o=false)/\(b≠b0->μ b= .at blk base o)/\∃o',μ b= .at blk base o':=by
  intro b blk base o h
  unfold Mu.frozen1 at h
  by_cases hb:b=b0
  ·subst hb
   rw [if_pos rfl] at h
   split at h
   ·rename_i bl ba oo hh
    simp only [Loc.at.injEq] at h
    obtain ⟨rfl,rfl,rfl⟩:=h
    exact ⟨fun _=>rfl,fun hn=>absurd rfl hn,oo,hh⟩
   ·rename_i l hh
    exact absurd h (hh _ _ _)
  ·rw [if_neg hb] at h
   exact ⟨fun e=>absurd e hb,fun _=>h,o,h⟩
 have tW: ∀b blk base,μ.frozen1 b0 b= .at blk base true->b≠b0/\μ b= .at blk base true:=by
  intro b blk base h
  obtain ⟨h1,h2,_⟩:=iS b blk base true h
  have hb:b≠b0:=fun e=>by have:=h1 e; simp at this
  exact ⟨hb,h2 hb⟩
 have gM:Ext w μ w (μ.frozen1 b0):=by
  refine ⟨rfl,rfl,rfl,aD _,fun _ _ _=>rfl,fun _ ar _ fz h=>⟨ar,fz,h,rfl⟩,fun b blk base h=> .inl ⟨_,_,(tW b blk base h).2⟩,fun b blk base o h=> .inr ?_,fun b h=> ?_⟩
  ·unfold Mu.frozen1
   by_cases hb:b=b0
   ·subst hb; exact ⟨false,by simp [h]⟩
   ·exact ⟨o,by simp [hb,h]⟩
  ·unfold Mu.frozen1
   by_cases hb:b=b0
   ·subst hb; simp [h]
   ·simp [hb,h]
 refine ⟨gM,?_⟩
 refine ⟨fun b blk base o h=> ?_,fun b blk base h=>hS.far b blk base (tW b blk base h).2,fun b blk base h=> ?_,fun b b' blk base cm h h'=>hS.inj b b' blk base cm (tW b blk base h).2 (tW b' blk cm h').2,fun b blk base o h=> ?_,fun b h=> ?_,fun b x h=> ?_,fun b h=> ?_,fun b h=> ?_,hS.tys.step (fun _ _ h=>FY h) (by rw [Df]; exact aD _) (fun b blk base o _ _ h=>(iS b blk base o h).2.2) gM⟩
 ·obtain ⟨_,_,o',h'⟩:=iS b blk base o h
  exact hS.lt b blk base o' h'
 ·obtain ⟨_,h2,o',h'⟩:=iS b blk base false h
  rintro (hx | ⟨b',cm,hx⟩)
  ·cases o' with
   | true=>exact hS.far b blk base h' hx
   | false=>exact hS.frz b blk base h' (.inl hx)
  ·obtain ⟨nJ,Ib⟩:=tW b' blk cm hx
   cases o' with
   | false=>exact hS.frz b blk base h' (.inr ⟨b',cm,Ib⟩)
   | true=>
    have:=hS.inj b b' blk base cm h' Ib
    subst this
    have:=h2 nJ
    rw [h'] at this; simp at this
 ·obtain ⟨h1,h2,o',h'⟩:=iS b blk base o h
  obtain ⟨cs,arr,e,k1,k2,k3,k4⟩:=hS.cells b blk base o' h'
  refine ⟨cs,arr,e,?_,k2,k3,fun j hj=>(k4 j hj).ext gM⟩
  rw [kI]
  by_cases hb:b=b0
  ·subst hb
   have:=h1 rfl
   subst this
   rw [if_pos rfl,k1]
   cases o' <;> rfl
  ·rw [if_neg hb]
   have:=h2 hb
   rw [h'] at this
   simp only [Loc.at.injEq,true_and] at this
   subst this
   exact k1
 ·rw [kI] at h
  unfold Mu.frozen1
  by_cases hb:b=b0
  ·subst hb
   rw [if_pos rfl] at h
   have h':σ.get b=none:=by cases hg:σ.get b with
    | none=>rfl
    | some y=>rw [hg] at h; cases y <;> simp at h
   simp [hS.born b h']
  ·rw [if_neg hb] at h
   simp [hb,hS.born b h]
 ·have hn:(σ.freeze1 b0).next=σ.next:=by unfold ag.freeze1; split <;> rfl
  rw [hn]
  rw [kI] at h
  by_cases hb:b=b0
  ·subst hb
   cases hg:σ.get b with
   | none=>rw [if_pos rfl,hg] at h; simp at h
   | some y=>exact hS.lim b y hg
  ·rw [if_neg hb] at h; exact hS.lim b x h
 ·rw [kI] at h
  unfold Mu.frozen1
  by_cases hb:b=b0
  ·subst hb
   rw [if_pos rfl] at h
   have h':σ.get b=some .dead:=by cases hg:σ.get b with
    | none=>rw [hg] at h; simp at h
    | some y=>rw [hg] at h; cases y <;> simp_all
   simp [hS.gone b h']
  ·rw [if_neg hb] at h
   simp [hb,hS.gone b h]
 ·have h':μ b= .dead:=by
   unfold Mu.frozen1 at h
   by_cases hb:b=b0
   ·subst hb
    rw [if_pos rfl] at h
    split at h
    ·simp at h
    ·exact h
   ·rw [if_neg hb] at h; exact h
  have:=hS.dead b h'
  simp only [ag.cells,kI] at this ⊢
  by_cases hb:b=b0
  ·subst hb
   rw [if_pos rfl]
   cases hg:σ.get b with
   | none=>rfl
   | some y=>rw [hg] at this; cases y <;> simp_all
  ·rw [if_neg hb]; exact this
theorem JJ (hS:RS (fm:=fm) σ w X μ) (v:AV): ∃μ',Ext w μ w μ'/\RS (fm:=fm) (σ.freezeV v) w X μ':=by
 unfold ag.freezeV
 split
 ·exact ⟨_,zN hS _⟩
 ·exact ⟨_,zN hS _⟩
 ·exact ⟨μ,Ext.refl _ _,hS⟩
theorem wz {fr:Fr}: ∀(ts:List Nat) {σ:ag} {μ:Mu},RS (fm:=fm) σ w X μ->∃μ',Ext w μ w μ'/\RS (fm:=fm) (kH fr ts σ) w X μ'
 | [],_,μ,hS=>⟨μ,Ext.refl _ _,hS⟩
 | t ::ts,_,_,hS=>by
  obtain ⟨μ1,x1,r1⟩:=JJ hS (fr.get t)
  obtain ⟨μ2,x2,r2⟩:=wz ts r1
  exact ⟨μ2,x1.trans x2,r2⟩
theorem Hv:RS (fm:=fm) ag.empty w X Mu.none:=by
 refine ⟨?_,?_,?_,?_,?_,?_,?_,?_,?_,fun _ _ h=>by simp [ag.empty] at h⟩ <;> intros <;> simp_all [Mu.none,ag.empty,ag.get,look]
theorem uq {w w':World} {μ':Mu} (h:Ext w Mu.none w' μ'):Below w.heap.size w w':=
 ⟨h.os,h.tape,h.output,h.size,fun k hk=>h.keep k hk (by rintro ⟨b,base,hb⟩; simp [Mu.none] at hb)⟩
theorem rb_fn {d:Nat} {x y:AV} (h:rb σ d x=some y) {id:Nat} {p q:ai} (hy:y= .fn id p q): ∃p' q',x= .fn id p' q':=by
 subst hy
 cases d with
 | zero=>
  simp only [rb] at h
  split at h <;> simp only [ah,reduceCtorEq] at h
  exact ⟨p,q,h⟩
 | succ d=>
  simp only [rb] at h
  split at h
  ·simp only [ah] at h; exact ⟨p,q,h⟩
  ·cases x <;> simp only [reduceCtorEq] at h
   case fn=>
    split at h <;> simp only [ah,reduceCtorEq,AV.fn.injEq] at h
    obtain ⟨rfl,_,_⟩:=h
    exact ⟨_,_,rfl⟩
   all_goals
    (repeat' split at h) <;> simp only [ah,reduceCtorEq] at h
theorem Yu {d:Nat} (hS:RS (fm:=fm) σ w X μ) {X':Nat->Prop} (hX: ∀blk,X' blk->Av X μ blk) (BL: ∀b blk base o,μ b= .at blk base o->¬X' blk) {l m:ai} {vs:Array Value}
  (h:cS (rb σ d) l=some m) (hr: ∀j,RV fm w X μ (l.getD j .undef) (vs.getD j Go.undef)):l.length=m.length/\∀j,RV fm w X' Mu.none (m.getD j .undef) (vs.getD j Go.undef):=by
 obtain ⟨h1,h2⟩:=ir h
 refine ⟨h1,fun j=> ?_⟩
 by_cases hj:j < l.length
 ·exact LH hS hX BL d (h2 j hj) (hr j)
 ·have:m.getD j .undef= .undef:=by rw [bc,cM aa]; rfl
  rw [this]; exact .undef _
theorem LG {d:Nat} {x:AV} (h:x.closed=true):rb σ d x=some x:=by
 cases d <;> simp [rb,h]
theorem F1 {d:Nat} {l m:ai} (h:cS (rb σ d) l=some m) (hc:ay l=true):m=l:=by
 obtain ⟨h1,h2⟩:=ir h
 apply List.ext_getElem?
 intro j
 by_cases hj:j < l.length
 ·have h3:=h2 j hj
  have h4:=eT hc j
  have h5:rb σ d (l.getD j .undef)=some (l.getD j .undef):=LG h4
  rw [h5] at h3
  simp only [ah] at h3
  have MB:j < m.length:=by omega
  simp only [bc,bx hj,bx MB,Option.getD_some] at h3
  rw [bx hj,bx MB,h3]
 ·rw [cM aa,cM aa]
theorem lf (g:bO P fm gm G w X μ σ N fr a) {n m:Nat} (uM:gF P fm gm G ip n) (hm:m < n) (Gj: ∀(w':World) (X':Nat->Prop),Below w.heap.size w w'->(∀b,X' b->Av X μ b)->eM fm gm G w' X' Mu.none)
  {sh:uH} {f:bB} {xs:List bB} (hc:aS P fm gm (.call sh f xs) o.op=true)
  {ea st:Bool} (h:gO ip (run ip G m) ea st (val G fr f) (xs.map (val G fr)) σ=some (v,σ')):(M4 P fm X μ o a w v/\σ'=σ)∨(st=false/\DH P fm X μ o a w v σ'):=by
 obtain ⟨dst,op,type,pos,after,guard⟩:=o
 simp only [aS] at hc
 split at hc
 case h_2=>simp at hc
 rename_i fo args argTypes
 simp only [ak] at hc
 obtain ⟨hf,hx⟩:=hc
 have rf:=bj g.glob g.rf hf
 obtain ⟨l1,r1⟩:=sZ g.glob g.rf hx
 have r1': ∀j,RV fm w X μ ((xs.map (val G fr)).getD j .undef) ((args.map a.eval).getD j Go.undef):=fun j=>by have:=r1 j; simpa using this
 unfold gO at h
 split at h
 case h_2=>simp at h
 rename_i fv' args' Pj hra
 split at h
 case h_2=>simp at h
 rename_i r σ1 hsc
 split at h
 case h_2=>simp at h
 rename_i r' My
 have Wa: ∃id p q,fv'= .fn id p q:=by
  cases fv' with
  | fn id p q=>exact ⟨id,p,q,rfl⟩
  | _=>simp [dd,AV.er] at hsc
 obtain ⟨id,first,caps,rfl⟩:=Wa
 obtain ⟨first0,caps0,hfv0⟩:=rb_fn Pj rfl
 have key: ∀(X':Nat->Prop),(∀b,X' b->Av X μ b)->(∀b blk base o,μ b= .at blk base o->¬X' blk)∨((val G fr f).closed=true/\ay (xs.map (val G fr))=true)->
   ∃f' c6 fu,a.eval fo= .func (.func f') c6 fu/\(∃fn,P.funcs[f']? =some fn/\fn.body.isSome=true/\fn.name≠ "runtime.NumGoroutine")/\
    Calls P f' (c6 ++args.map a.eval ++fu) w fun e w'=>∃cv,e= .returned cv/\RV fm w' X' Mu.none (if ea=true then r'.er else r') cv/\Below w.heap.size w w':=by
  intro X' hX' MG
  have hA: ∀blk,Av X' Mu.none blk->Av X μ blk:=by
   rintro blk (hh | ⟨b,base,hh⟩)
   ·exact hX' blk hh
   ·simp [Mu.none] at hh
  have hXlt: ∀b,X' b->b < w.heap.size:=by
   intro b hb
   rcases hX' b hb with hh | ⟨b',base,hh⟩
   ·exact g.out b hh
   ·exact g.rs.lt b' b base true hh
  have rfn:RV fm w X' Mu.none (AV.fn id (eP first) (eP caps)) (a.eval fo):=by
   suffices hh:RV fm w X' Mu.none (.fn id first caps) (a.eval fo) by simpa [AV.er] using Hr hh
   rcases MG with hl | ⟨hcf,_⟩
   ·exact LH g.rs hX' hl bJ Pj rf
   ·rw [LG hcf] at Pj
    simp only [ah] at Pj
    rw [←Pj]
    exact kd rf hcf hA
  have rargs:(xs.map (val G fr)).length=(if ea=true then eP args' else args').length/\∀j,RV fm w X' Mu.none ((if ea=true then eP args' else args').getD j .undef) ((args.map a.eval).getD j Go.undef):=by
   suffices hh:(xs.map (val G fr)).length=args'.length/\∀j,RV fm w X' Mu.none (args'.getD j .undef) ((args.map a.eval).getD j Go.undef) by
    cases ea with
    | false=>exact hh
    | true=>exact ⟨by simpa [iI] using hh.1,fun j=>by rw [if_pos rfl,mh]; exact Hr (hh.2 j)⟩
   rcases MG with hl | ⟨_,hca⟩
   ·exact Yu g.rs hX' hl hra r1'
   ·have wu:=F1 hra hca
    rw [wu]
    exact ⟨rfl,fun j=>kd (r1' j) (eT hca j) hA⟩
  generalize nI:a.eval fo=fv at rfn
  cases rfn with
  | fn _ f' _ _ c6 fu hfm ha hcp q1 q2=>
   obtain ⟨Qq,bP⟩:=uM m hm X' Mu.none w .empty σ1 id (eP first) (if ea=true then eP args' else args') (eP caps) r hsc (Gj w X' (Below.refl _ _) hX') Hv hXlt f' c6 (args.map a.eval) fu hfm ha
    (by rw [←rargs.1]; simpa using l1) hcp q1 rargs.2 q2
   refine ⟨f',c6,fu,rfl,Qq,Calls.mono bP ?_⟩
   rintro e w' ⟨cv,μ1,rfl,h2,h3,h4⟩
   have hb:=uq h4
   have hXav: ∀blk,X' blk->Av X' μ1 blk:=fun blk hh=> .inl hh
   have BL: ∀b blk base o,μ1 b= .at blk base o->¬X' blk:=by
    intro b blk base o YZ
    cases o with
    | true=>exact h3.far b blk base YZ
    | false=>exact fun hh=>h3.frz b blk base YZ (.inl hh)
   refine ⟨cv,rfl,?_,hb⟩
   cases ea with
   | false=>exact LH h3 hXav BL bJ My h2
   | true=>exact Hr (LH h3 hXav BL bJ My h2)
 have Db:(if ea=true then r'.er else r').closed=true:=by
  cases ea with
  | false=>exact uZ bJ My
  | true=>rw [if_pos rfl,B6]; exact uZ bJ My
 have hflt:(if ea=true then r'.er else r').flat=r'.flat:=by
  cases ea with
  | false=>rfl
  | true=>rw [if_pos rfl,xC]
 generalize sG:(if ea=true then r'.er else r')=res at key h Db hflt
 have fin: ∀(X':Nat->Prop) (μ2:Mu) (σ2:ag),(∃f' c6 fu,a.eval fo= .func (.func f') c6 fu/\(∃fn,P.funcs[f']? =some fn/\fn.body.isSome=true/\fn.name≠ "runtime.NumGoroutine")/\
    Calls P f' (c6 ++args.map a.eval ++fu) w fun e w'=>∃cv,e= .returned cv/\RV fm w' X' Mu.none res cv/\Below w.heap.size w w')->
   (∀w' cv,Below w.heap.size w w'->RV fm w' X' Mu.none res cv->RV fm w' X μ2 res cv)->Ext w μ w μ2->RS (fm:=fm) σ2 w X μ2->
   DH P fm X μ ⟨dst, .call { callee:= .value fo,args:=args,argTypes:=argTypes },type,pos,after,guard⟩ a w res σ2:=by
  intro X' μ2 σ2 hk Gu hext2 hrs2 next Q rY
  obtain ⟨f',c6,fu,nI,⟨fn,k1,k2,k3⟩,bP⟩:=hk
  have eL:=uX (P:=P) (w:=w) (dst:=dst) (c:={ callee:= .value fo,args:=args,argTypes:=argTypes }) (type:=type) (pos:=pos) (after:=after) (guard:=guard) rfl nI k1 k2 k3
  unfold Oper.wp
  rw [eL]
  show Calls P f' _ w _
  refine Calls.mono bP ?_
  rintro e w' ⟨cv,rfl,h2,h3⟩
  exact rY cv w' μ2 (Gu w' cv h3 h2) (hext2.trans (Ext.of_below h3)) (hrs2.below h3)
 have finq: ∀(X':Nat->Prop),(∃f' c6 fu,a.eval fo= .func (.func f') c6 fu/\(∃fn,P.funcs[f']? =some fn/\fn.body.isSome=true/\fn.name≠ "runtime.NumGoroutine")/\
    Calls P f' (c6 ++args.map a.eval ++fu) w fun e w'=>∃cv,e= .returned cv/\RV fm w' X' Mu.none res cv/\Below w.heap.size w w')->
   (∀w' cv,Below w.heap.size w w'->RV fm w' X' Mu.none res cv->RV fm w' X μ res cv)->
   M4 P fm X μ ⟨dst, .call { callee:= .value fo,args:=args,argTypes:=argTypes },type,pos,after,guard⟩ a w res:=by
  intro X' hk Gu next Q rY
  obtain ⟨f',c6,fu,nI,⟨fn,k1,k2,k3⟩,bP⟩:=hk
  have eL:=uX (P:=P) (w:=w) (dst:=dst) (c:={ callee:= .value fo,args:=args,argTypes:=argTypes }) (type:=type) (pos:=pos) (after:=after) (guard:=guard) rfl nI k1 k2 k3
  unfold Oper.wp
  rw [eL]
  show Calls P f' _ w _
  refine Calls.mono bP ?_
  rintro e w' ⟨cv,rfl,h2,h3⟩
  exact rY cv w' (Gu w' cv h3 h2) h3
 split at h
 ·rename_i aK
  simp only [ah,aL] at h
  obtain ⟨rfl,rfl⟩:=h
  simp only [Bool.or_eq_true,ak] at aK
  refine .inl ⟨?_,rfl⟩
  rcases aK with Tv | ⟨hcf,hca⟩
  ·exact finq (fun _=>False) (key _ (fun _ hh=>hh.elim) (.inl (fun _ _ _ _ _ hh=>hh))) (fun w' cv _ hr=>Zh hr (by rw [hflt]; exact Tv))
  ·exact finq (Av X μ) (key _ (fun _ hh=>hh) (.inr ⟨hcf,hca⟩)) (fun w' cv _ hr=>kd hr Db (fun blk hh=> .inl hh))
 ·split at h <;> simp only [ah,aL,reduceCtorEq] at h
  rename_i sF
  obtain ⟨rfl,rfl⟩:=h
  obtain ⟨x1,x2⟩:=Pz g.rs
  refine .inr ⟨by simpa using sF,fin X μ.frozen _ (key _ (fun _ hh=> .inl hh) (.inl (fun b blk base o YZ hx=> ?_))) (fun w' cv _ hr=>kd hr Db ?_) x1 x2⟩
  ·cases o with
   | true=>exact g.rs.far b blk base YZ hx
   | false=>exact g.rs.frz b blk base YZ (.inl hx)
  ·rintro blk (hh | ⟨b,base,hh⟩)
   ·exact .inl hh
   ·exact absurd hh (iw μ b blk base)
theorem CV (g:bO P fm gm G w X μ σ N fr a) {n m:Nat} (uM:gF P fm gm G ip n) (hm:m < n) (Gj: ∀(w':World) (X':Nat->Prop),Below w.heap.size w w'->(∀b,X' b->Av X μ b)->eM fm gm G w' X' Mu.none)
  {sh:uH} {f:bB} {xs:List bB} (hc:aS P fm gm (.call sh f xs) o.op=true)
  {ea st:Bool} (h:gO ip (run ip G m) ea st (val G fr f) (xs.map (val G fr)) σ=some (v,σ')):DH P fm X μ o a w v σ':=by
 rcases lf g uM hm Gj hc h with ⟨h1,rfl⟩ | ⟨_,h1⟩
 ·exact h1.opWp g
 ·exact h1
theorem FU {xs:List bB} (h:c9 (xs.map (val G fr))=true): ∃x,xs= [x]/\c9 [val G fr x]=true:=by
 match xs,h with
 | [x],h=>exact ⟨x,rfl,h⟩
 | [],h=>simp [c9] at h
 | _ ::_ ::_,h=>simp [c9] at h
theorem Jd {w:World} {X:Nat->Prop} {μ:Mu} {x:AV} {cv:Value} (h:c9 [x]=true) (r:RV fm w X μ x cv):RV fm w X μ .nils cv∨RV fm w X μ .e0 cv:=by
 cases r with
 | nils=>exact .inl .nils
 | e0 a c=>exact .inr (.e0 a c)
 | vslEmpty cap a c bW=>exact .inr (.e0 a c)
 | vslNil cap bW=>exact .inl .nils
 | vsl els cap blk base sz c g hA aR hs hl bW hc hr=>
  cases els with
  | nil=>exact .inr (.e0 _ _)
  | cons y ys=>simp [c9] at h
 | _=>simp [c9] at h
theorem e00_rv {w:World} {X:Nat->Prop} {μ:Mu} {x:AV} {cv:Value} (h:e00 x=true) (r:RV fm w X μ x cv):RV fm w X μ (.vsl [] (some 0)) cv:=by
 cases r with
 | nils=>exact .vslNil _ (.inr rfl)
 | vslEmpty cap a c bW=>
  have:cap=some 0:=by unfold e00 at h; split at h <;> simp_all
  subst this
  exact .vslEmpty _ _ _ bW
 | vslNil cap bW=>exact .vslNil _ (.inr rfl)
 | vsl els cap blk base sz c g hA aR hs hl bW hc hr=>
  cases els with
  | nil=>
   have:cap=some 0:=by unfold e00 at h; split at h <;> simp_all
   subst this
   refine .vslEmpty _ _ _ ?_
   rcases bW with h | h
   ·simp at h
   ·exact .inr h
  | cons y ys=>simp [e00] at h
 | _=>simp [e00] at h
theorem M4.weaken {o:Oper} {u v:AV} (h:M4 P fm X μ o a w u) (hv: ∀(w':World) (cv:Value),RV fm w' X μ u cv->RV fm w' X μ v cv):M4 P fm X μ o a w v:=by
 intro next Q rY
 exact h next Q (fun cv w' hr hb=>rY cv w' (hv w' cv hr) hb)
theorem I5 (g:bO P fm gm G w X μ σ N fr a) {n m:Nat} (uM:gF P fm gm G ip n) (hm:m < n) (Gj: ∀(w':World) (X':Nat->Prop),Below w.heap.size w w'->(∀b,X' b->Av X μ b)->eM fm gm G w' X' Mu.none)
  {sh:uH} {f:bB} {xs:List bB} (hc:aS P fm gm (.call sh f xs) o.op=true) (hn:c9 (xs.map (val G fr))=true)
  (h:fU ip (run ip G m) (val G fr f) σ=true):M4 P fm X μ o a w (.vsl [] (some 0)):=by
 obtain ⟨x,rfl,hx⟩:=FU hn
 unfold fU at h
 split at h
 case h_2=>simp at h
 rename_i r1 σ1 r2 σ2 h1 h2
 simp only [ak] at h
 have fin: ∀ {r1:AV} {σ1:ag} {a0:AV} {Qu:Fr} {x0:bB} (g0:bO P fm gm G w X μ σ N Qu a),aS P fm gm (.call sh f [x0]) o.op=true->val G Qu f=val G fr f->val G Qu x0=a0->
   gO ip (run ip G m) false true (val G fr f) [a0] σ=some (r1,σ1)->e00 r1=true->M4 P fm X μ o a w (.vsl [] (some 0)):=by
  intro r1 σ1 a0 Qu x0 g0 lF hf0 hx0 hp he
  have Qm:gO ip (run ip G m) false true (val G Qu f) ([x0].map (val G Qu)) σ=some (r1,σ1):=by
   rw [hf0,List.map_cons,List.map_nil,hx0]; exact hp
  rcases lf g0 uM hm Gj lF Qm with ⟨q,_⟩ | ⟨q,_⟩
  ·exact q.weaken (fun w' cv hr=>e00_rv he hr)
  ·simp at q
 cases x with
 | func f=>simp [val,c9] at hx
 | glob gg=>simp [val,c9] at hx
 | const v=>
  have hv:v= .nils:=by
   have Ie:=hc
   simp only [aS] at Ie
   split at Ie
   case h_2=>simp at Ie
   rename_i f' args argTypes _
   simp only [ak] at Ie
   have nV:=Ie.2
   revert nV
   cases args.toList with
   | nil=>intro hh; simp [bL] at hh
   | cons y ys=>
    simp only [bL,ak]
    rintro ⟨q,_⟩
    simp only [val] at hx
    cases v with
    | nils=>rfl
    | vsl els cap=>cases y <;> simp [bu,fa] at q
    | e0=>cases y <;> simp [bu,fa] at q
    | _=>simp [c9] at hx
  subst hv
  exact fin g hc rfl rfl h1 h.1
 | tmp t=>
  have fV: ∀t',f= .tmp t'->t'≠t:=by
   rintro t' rfl rfl
   simp only [val] at hx h1
   unfold gO at h1
   cases hv:fr.get t' with
   | nils=>rw [hv] at h1; simp [rb,bJ,AV.closed,cS,AV.er,dd] at h1
   | e0=>rw [hv] at h1; simp [rb,bJ,AV.closed,cS,AV.er,dd] at h1
   | vsl els cap=>
    cases els with
    | nil=>rw [hv] at h1; simp [rb,bJ,AV.closed,ay,cS,AV.er,dd] at h1
    | cons y ys=>rw [hv] at hx; simp [c9] at hx
   | _=>rw [hv] at hx; simp [c9] at hx
  have Wa: ∀u:AV,val G ((t,u) ::fr) f=val G fr f:=by
   intro u
   cases f with
   | tmp t'=>
    have:=fV t' rfl
    simp only [val,Fr.get,look]
    rw [if_neg (fun hh=>this hh.symm)]
   | _=>rfl
  have nU: ∀u:AV,val G ((t,u) ::fr) (.tmp t)=u:=by
   intro u; simp [val,Fr.get,look]
  have hg: ∀u:AV,RV fm w X μ u (a.tmps.getD t Go.undef)->bO P fm gm G w X μ σ N ((t,u) ::fr) a:=by
   intro u hu
   refine ⟨g.glob,g.rs,g.out,⟨g.rf.size,fun t'=> ?_⟩⟩
   by_cases ht:t=t'
   ·subst ht; simpa [Fr.get,look] using hu
   ·have:Fr.get ((t,u) ::fr) t'=fr.get t':=by simp [Fr.get,look,ht]
    rw [this]; exact g.rf.val t'
  rcases Jd hx (g.rf.val t) with hr | hr
  ·exact fin (hg _ hr) hc (Wa _) (nU _) h1 h.1
  ·exact fin (hg _ hr) hc (Wa _) (nU _) h2 h.2
end
end Go.Ab
namespace Go.Ab
open Go.RowKit
section
variable {P:Program} {fm gm:Nat->aA} {G:Nat->ai}
variable {w:World} {X:Nat->Prop} {μ:Mu} {σ σ':ag} {N:Nat} {fr:Fr} {a:Act} {o:Oper} {v:AV}
theorem tD {x:bB} {l:List Operand} (h:bL fm gm [x] l=true): ∃x',l= [x']/\bu fm gm x x'=true:=by
 cases l with
 | nil=>simp [bL] at h
 | cons y l=>
  cases l with
  | nil=>simp only [bL,Bool.and_true] at h; exact ⟨y,rfl,h⟩
  | cons z l=>simp [bL] at h
theorem tH {α β:Type} {f:α->β} {xs:List α} {y:β} (h:xs.map f= [y]): ∃x,xs= [x]/\f x=y:=by
 cases xs with
 | nil=>simp at h
 | cons x xs=>
  cases xs with
  | nil=>simp at h; exact ⟨x,rfl,h⟩
  | cons z xs=>simp at h
theorem Uu (g:bO P fm gm G w X μ σ N fr a) {sz bytes:Nat} {z:ai} {xs:List bB} (hc:aS P fm gm (.prim (.makeSl sz bytes z) xs) o.op=true) {k:IntKind} {n:Int}
  (hx:xs.map (val G fr)= [.int k n]) (h:jG σ sz bytes z n=some (v,σ')):EO P fm X μ o a w v σ':=by
 obtain ⟨x,rfl,nU⟩:=tH hx
 obtain ⟨dst,op,type,pos,after,guard⟩:=o
 simp only [aS] at hc
 split at hc
 case h_2=>simp at hc
 rename_i t lo co
 simp only [ak] at hc
 obtain ⟨⟨ht,hl⟩,Zb⟩:=hc
 obtain ⟨l',e1,hl⟩:=tD hl
 simp only [List.cons.injEq,and_true] at e1; subst e1
 obtain ⟨c',e1,Zb⟩:=tD Zb
 simp only [List.cons.injEq,and_true] at e1; subst e1
 have rl:=bj g.glob g.rf hl
 have rc:=bj g.glob g.rf Zb
 rw [nU] at rl rc
 have tX:a.eval lo= .int k n:=by
  generalize a.eval lo=y at rl
  cases rl; rfl
 have vq:a.eval co= .int k n:=by
  generalize a.eval co=y at rc
  cases rc; rfl
 split at ht
 case h_2=>simp at ht
 rename_i e hu
 cases hi:P.info? e with
 | none=>simp [hi] at ht
 | some i=>
  simp only [hi,ak,beq_iff_eq] at ht
  obtain ⟨⟨fb,ET⟩,hz⟩:=ht
  have hz0:=hz
  unfold oq at hz
  rw [hi] at hz
  simp only at hz
  cases Td:i.zero with
  | none=>simp [Td] at hz
  | some zv=>
   rw [Td] at hz
   simp only at hz
   obtain ⟨c1,c2⟩:=lx (fm:=fm) (w:=w) (X:=X) (μ:=μ) z zv.cells.toList hz
   unfold jG at h
   split at h
   case isFalse=>simp at h
   rename_i aK
   obtain ⟨h0,wT,hzl,Ph,hbp⟩:=aK
   have hex:execOp a.eval ⟨dst, .makeSlice t lo co,type,pos,after,guard⟩=(do pure (.value (←Instr.makeSlice t (a.eval lo) (a.eval co)))):=by
    simp only [execOp]
   unfold aY at wT
   have hn:(n.toNat:Int)=n:=by omega
   have hbi:(i.bytes:Int)*n<=281474976710656:=by
    rw [ET,←hn,←Int.natCast_mul,Nat.mul_comm]; omega
   have hn63:n.toNat<=140737488355328:=Nat.le_trans (Nat.le_mul_of_pos_right _ hbp) wT
   have eL:=run_make (P:=P) w t e i zv hu hi Td k k n n h0 (Int.le_refl _) hbi aa
   rw [fb,←hzl] at eL
   split at h
   ·rename_i hn0
    simp only [ah,aL] at h
    obtain ⟨rfl,rfl⟩:=h
    have hb:Below w.heap.size w (w.alloc (.cells (madeCells zv.cells (n.toNat*z.length)) e)):=(Below.refl w.heap.size w).alloc (aD _) _
    refine jg hex ⟨_,_,μ,by rw [tX,vq]; exact eL,?_,Ext.of_below hb,g.rs.below hb⟩
    subst hn0
    exact .vslEmpty (some 0) _ 0 (.inr rfl)
   ·rename_i hn0
    simp only [ah,aL] at h
    obtain ⟨rfl,rfl⟩:=h
    have hcw:iA fm w X μ z zv.cells:=⟨by simpa using c1,fun j=>by simpa using c2 j⟩
    have BH:=yA hcw n.toNat
    obtain ⟨k1,k2⟩:=kM g.rs g.out (cs:=yS n.toNat z) (arr:=madeCells zv.cells (n.toNat*z.length)) e (Nat.le_of_eq BH.1) (fun j _=>BH.2 j)
    refine jg hex ⟨_,_,_,by rw [tX,vq]; exact eL,?_,k1,k2⟩
    refine RV.sl σ.next 0 n.toNat sz none w.heap.size 0 n.toNat true (madeCells zv.cells (n.toNat*z.length)) e (0,0) (by simp [Mu.bind]) (show (w.heap.push _)[w.heap.size]? =_ by simp) ?_ (aD _) (.inl rfl)
    rw [size_madeCells,hzl]; omega
theorem Ae {argTypes:Array TypeId} {t e type:TypeId} (xx:argTypes[0]? =some t) (hu:P.underlying t=some (.slice e)) (ad:Option Addr) (c:Nat) :
  (Builtin.clear_ argTypes type #[.slice ad 0 c]).run P w= .ok (.tuple #[]) w:=by
 unfold Builtin.clear_
 simp only [xx]
 cases ad <;> simp [run_underlying hu]
theorem W5 {z:ai} (h:z.all AV.one=true) (n:Nat):(yS n z).all AV.one=true:=by
 unfold yS
 induction n with
 | zero=>rfl
 | succ n ih=>rw [List.range_succ,List.flatMap_append,List.all_append,ih]; simpa using h
theorem Zr (g:bO P fm gm G w X μ σ N fr a) {sz:Nat} {z:ai} {xs:List bB} (hc:aS P fm gm (.prim (.clear sz z) xs) o.op=true) {xv:AV}
  (hx:xs.map (val G fr)= [xv]) (h:o8 σ sz z xv=some (v,σ')):EO P fm X μ o a w v σ':=by
 obtain ⟨x,rfl,nU⟩:=tH hx
 obtain ⟨dst,op,type,pos,after,guard⟩:=o
 simp only [aS] at hc
 split at hc
 case h_2=>simp at hc
 rename_i args argTypes
 simp only [ak] at hc
 obtain ⟨ha,ht⟩:=hc
 obtain ⟨x',e1,Ib⟩:=tD ha
 have e1:args= #[x']:=by cases args; simp_all
 subst e1
 have rx:=bj g.glob g.rf Ib
 rw [nU] at rx
 unfold og at ht
 cases xx:argTypes[0]? with
 | none=>simp [xx] at ht
 | some t=>
  simp only [xx] at ht
  split at ht
  case h_2=>simp at ht
  rename_i e hu
  simp only [ak] at ht
  obtain ⟨hs,hz⟩:=ht
  obtain ⟨zv,Ga,BH⟩:=jV (P:=P) (fm:=fm) (w:=w) (X:=X) (μ:=μ) hz
  have hex:execOp a.eval ⟨dst, .call { callee:= .builtin .clear,args:=#[x'],argTypes:=argTypes },type,pos,after,guard⟩=(do pure (.value (←Builtin.clear_ argTypes type #[a.eval x']))):=by
   simp [execOp,resolve,invoke,builtin]
  have hrt:RV fm w X μ (.tup []) (.tuple #[]):= .tup [] #[] rfl (fun j=>by simpa using RV.undef _)
  generalize hxc:a.eval x'=xc at rx hex
  unfold o8 at h
  have quiet: ∀ad c,xc= .slice ad 0 c->some (AV.tup [],σ)=some (v,σ')->EO P fm X μ ⟨dst, .call { callee:= .builtin .clear,args:=#[x'],argTypes:=argTypes },type,pos,after,guard⟩ a w v σ':=by
   intro ad c hxe he
   simp only [ah,aL] at he
   obtain ⟨rfl,rfl⟩:=he
   subst hxe
   refine jg hex ⟨_,w,μ,?_,hrt,Ext.refl w μ,g.rs⟩
   have gh:(Builtin.clear_ argTypes type #[.slice ad 0 c]).run P w= .ok (.tuple #[]) w:=Ae xx hu ad c
   rw [gh]
  split at h
  ·cases rx with | nils=>exact quiet _ _ rfl h
  ·cases rx with | e0 ad c=>exact quiet _ _ rfl h
  ·cases rx with
   | vslEmpty cap ad c bW=>exact quiet _ _ rfl h
   | vslNil cap bW=>exact quiet _ _ rfl h
   | vsl els cap blk base kl c g' hA aR Ti hl bW hc hr=>exact quiet _ _ rfl h
  ·rename_i b off l kl cap
   split at h
   case h_2=>simp at h
   rename_i cs ho
   split at h
   case isFalse=>simp at h
   rename_i aK
   obtain ⟨rfl,hzl,Ph,hle,dh⟩:=aK
   simp only [ah,aL] at h
   obtain ⟨rfl,rfl⟩:=h
   have di:σ.get b=some (.own cs):=by
    unfold ag.owned at ho
    split at ho
    ·rename_i cs' hh; rw [hh]; rw [bT ho]
    ·cases ho
   have V4:(yS l z).length=l*kl:=by unfold yS; rw [il,hzl]
   by_cases AH:l=0
   ·
    have wu:splice cs off (yS l z)=cs:=by subst AH; simp [splice,yS]
    rw [wu]
    have hrs:RS (fm:=fm) (σ.set b (.own cs)) w X μ:=by
     have hg: ∀b',(σ.set b (.own cs)).get b'=σ.get b':=fun b'=>by
      rw [dr]; split
      ·rename_i hb; rw [hb,di]
      ·rfl
     refine ⟨g.rs.lt,g.rs.far,g.rs.frz,g.rs.inj,fun b' blk base o hm=> ?_,fun b' h'=>g.rs.born b' (by rw [←hg]; exact h'),fun b' y h'=>g.rs.lim b' y (by rw [←hg]; exact h'),fun b' h'=>g.rs.gone b' (by rw [←hg]; exact h'),fun b' h'=> ?_,g.rs.tys.step (fun _ _ h=>mem_push (fun _=>by simp) h) (aD _) (fun _ _ _ o _ _ h=>⟨o,h⟩) (Ext.refl _ _)⟩
     ·rw [hg]; exact g.rs.cells b' blk base o hm
     ·have:=g.rs.dead b' h'
      unfold ag.cells at this ⊢
      rw [hg]; exact this
    subst AH
    have hxc0: ∃ad c,xc= .slice (some ad) 0 c:=by
     cases rx with
     | sl _ _ _ _ _ blk base c o arr e fz hm hb hr hl bW=>exact ⟨_,_,rfl⟩
     | slDead _ _ _ _ _ ad c hl hm=>exact ⟨_,_,rfl⟩
     | slZero _ _ _ _ ad bW=>exact ⟨_,_,rfl⟩
    obtain ⟨ad,c,rfl⟩:=hxc0
    refine jg hex ⟨_,w,μ,?_,hrt,Ext.refl w μ,hrs⟩
    exact Ae xx hu _ _
   cases rx with
   | slDead _ _ _ _ _ ad c hl hm=>have:=g.rs.dead b hm; simp [ag.cells,di] at this
   | slZero _ _ _ _ ad bW=>exact absurd rfl AH
   | sl _ _ _ _ _ blk base c ow aab e0 fz hm hb hr hl bW=>
    obtain ⟨cs',arr,e',h1,h2,h3,h4⟩:=g.rs.cells b blk base ow hm
    rw [di] at h1
    cases ow with
    | false=>simp at h1
    | true=>
     simp only [if_true,ah,jP.own.injEq] at h1
     subst h1
     have hal:arr.toList.length=arr.size:=by simp
     have C8:zv.cells.size=kl:=by rw [←BH.1,hzl]
     have hzn:iA fm w X μ (yS l z) (Builtin.zeroCells zv.cells l):=by
      have:=yA BH l
      refine ⟨by rw [gj,V4,C8],fun j=> ?_⟩
      have h5:=this.2 j
      by_cases hj:j < l*kl
      ·have e1:(Builtin.zeroCells zv.cells l).getD j Go.undef=((Array.range (l*z.length)).map (zv.cells[· % zv.cells.size]!)).getD j Go.undef:=by
        rw [hzl]
        unfold Builtin.zeroCells
        rw [C8]
       rw [e1]; exact h5
      ·have e1:(Builtin.zeroCells zv.cells l).getD j Go.undef=Go.undef:=by
        have: ¬j < (Builtin.zeroCells zv.cells l).size:=by rw [gj,C8]; exact hj
        simp [Array.getD,this]
       have e2:(yS l z).getD j .undef= .undef:=by
        rw [bc,cM aa]; rfl
       rw [e2]; exact .undef _
     have Mw:(Builtin.zeroCells zv.cells l).toList.length=l*kl:=by
      have:=hzn.1; rw [V4] at this; simp; omega
     have Gg: ∀u∈(Builtin.zeroCells zv.cells l).toList,u.oneCell'=true:=uw (cs:=yS l z) (by rw [Mw,V4]) (fun j=>by simpa using hzn.2 j) (W5 dh l)
     have eL:=run_storeCells_at (P:=P) blk (base+off) e' (Builtin.zeroCells zv.cells l).toList 0 arr w h2 aa Gg
     simp only [Nat.add_zero] at eL
     have fb:(arr.toList.take (base+off) ++(Builtin.zeroCells zv.cells l).toList ++arr.toList.drop (base+off+(Builtin.zeroCells zv.cells l).toList.length)).toArray.size=arr.size:=by simp at Mw ⊢; omega
     refine jg hex ⟨_,_,μ,?_, .tup [] #[] rfl (fun j=>by simpa using RV.undef _),lU hm h2 fb,uW g.rs hm h2 fb ?_ ?_⟩
     ·obtain ⟨l',rfl⟩ : ∃l',l=l'+1:=⟨l - 1,by omega⟩
      simp [Builtin.clear_,xx,run_underlying hu,Ga,eL]
     ·rw [fq _ _ _ aa,fb]; omega
     ·intro j hj
      rw [fq _ _ _ aa] at hj
      rw [mM _ _ _ _ aa,ox,s8 _ _ _ _ aa]
      by_cases hk:off<=j/\j < off+(yS l z).length
      ·rw [if_pos hk,if_pos aa]
       have e1:base+j - (base+off)=j - off:=by omega
       rw [e1]
       simpa using hzn.2 (j - off)
      ·rw [if_neg hk,if_neg aa]
       simpa using h4 j hj
  ·simp at h
theorem C0 {α β:Type} {f:α->β} {xs:List α} {y z:β} (h:xs.map f= [y,z]): ∃a b,xs= [a,b]/\f a=y/\f b=z:=by
 match xs,h with
 | [a,b],h=>simp only [List.map_cons,List.map_nil,List.cons.injEq,and_true] at h; exact ⟨a,b,rfl,h.1,h.2⟩
 | [],h | [_],h | _ ::_ ::_ ::_,h=>simp at h
theorem F4 {x:AV} {xv:Value} (hx:RV fm w X μ x xv) {l:Nat} (h:lenOf x=some l) (hs: ∀s,x≠ .str s): ∃ad c,xv= .slice ad l c:=by
 cases hx <;> simp only [lenOf,ah,reduceCtorEq] at h <;> (try subst h) <;> first | exact ⟨_,_,rfl⟩ | exact absurd rfl (hs _)
theorem e_copy (g:bO P fm gm G w X μ σ N fr a) {sz:Nat} {xs:List bB} (hc:aS P fm gm (.prim (.copy sz) xs) o.op=true) {xa ya:AV}
  (hx:xs.map (val G fr)= [xa,ya]) (h:js σ sz xa ya=some (v,σ')):EO P fm X μ o a w v σ':=by
 obtain ⟨x,y,rfl,nU,hyv⟩:=C0 hx
 obtain ⟨dst,op,type,pos,after,guard⟩:=o
 simp only [aS] at hc
 split at hc
 case h_2=>simp at hc
 rename_i args argTypes
 simp only [ak] at hc
 obtain ⟨⟨ha,ht⟩,ht2⟩:=hc
 obtain ⟨x',y',rfl,Ib,hy'⟩:=od ha
 have rx:=bj g.glob g.rf Ib
 have ry:=bj g.glob g.rf hy'
 rw [nU] at rx
 rw [hyv] at ry
 unfold og at ht ht2
 cases xx:argTypes[0]? with
 | none=>simp [xx] at ht
 | some t=>
 cases Qt:argTypes[1]? with
 | none=>simp [Qt] at ht2
 | some t2=>
 simp only [xx] at ht
 simp only [Qt] at ht2
 split at ht
 case h_2=>simp at ht
 rename_i e hu
 split at ht2
 case h_2=>simp at ht2
 rename_i e2 hu2
 have hs:=fx (P:=P) (w:=w) ht
 have hex:execOp a.eval ⟨dst, .call { callee:= .builtin .copy,args:=#[x',y'],argTypes:=argTypes },type,pos,after,guard⟩=(do pure (.value (←Builtin.copy_ argTypes type #[a.eval x',a.eval y']))):=by
  simp [execOp,resolve,invoke,builtin]
 generalize a.eval x'=xc at rx hex
 generalize a.eval y'=yc at ry hex
 unfold js at h
 split at h
 case h_2=>simp at h
 rename_i l m new hl hm gz
 have nstr: ∀z:AV,∀r,rowOf σ sz z=some r->∀s,z≠ .str s:=by
  rintro z r hz s rfl; simp [rowOf] at hz
 split at h
 ·rename_i Pm
  split at h
  ·simp at h
  rename_i YW
  simp only [ah,aL] at h
  obtain ⟨rfl,rfl⟩:=h
  subst Pm
  obtain ⟨yad,yc',rfl⟩:=F4 ry hm (nstr _ _ gz)
  have Jv:=F4 rx hl (fun s hs=>by subst hs; exact YW rfl)
  obtain ⟨xad,xc',rfl⟩:=Jv
  refine jg hex ⟨.int .i64 0,w,μ,?_, .int _ _,Ext.refl w μ,g.rs⟩
  have h1:(Builtin.firstCells sz 0 (.slice yad 0 yc')).run P w= .ok #[] w:=by
   cases yad <;> simp [Builtin.firstCells,loadCells,loadCellsFrom]
  unfold Builtin.copy_
  cases xad <;> simp [xx,run_underlying hu,Builtin.lenOf,hs,h1,goInt,storeCells]
 ·rename_i Pm
  split at h
  case h_2=>simp at h
  rename_i b off l' kl cap
  split at h
  case h_2=>simp at h
  rename_i cs ho
  split at h
  case isFalse=>simp at h
  rename_i aK
  obtain ⟨rfl,Ph,Jz,hle,hnl,dh⟩:=aK
  simp only [ah,aL] at h
  obtain ⟨rfl,rfl⟩:=h
  simp only [lenOf,ah] at hl
  subst hl
  have di:σ.get b=some (.own cs):=by
   unfold ag.owned at ho
   split at ho
   ·rename_i cs' hh; rw [hh]; rw [bT ho]
   ·cases ho
  have tR:=qC (P:=P) g.rs ry gz hm dh hu2
  obtain ⟨C9,news,hS,hnn,hnr⟩:=tR
  cases rx with
  | slDead _ _ _ _ _ ad c hl hm=>have:=g.rs.dead b hm; simp [ag.cells,di] at this
  | slZero _ _ _ _ ad bW=>omega
  | sl _ _ _ _ _ blk base c ow aab e0 fz hmu hb hr hl bW=>
   obtain ⟨cs',arr,e',h1,h2,h3,h4⟩:=g.rs.cells b blk base ow hmu
   rw [di] at h1
   cases ow with
   | false=>simp at h1
   | true=>
    simp only [if_true,ah,jP.own.injEq] at h1
    subst h1
    have hal:arr.toList.length=arr.size:=by simp
    have hmul:m*kl<=l'*kl:=Nat.mul_le_mul_right _ Jz
    have Mw:news.length=m*kl:=by omega
    have eL:=run_storeCells_at (P:=P) blk (base+off) e' news 0 arr w h2 aa hS.one
    simp only [Nat.add_zero] at eL
    have fb:(arr.toList.take (base+off) ++news ++arr.toList.drop (base+off+news.length)).toArray.size=arr.size:=by simp at Mw ⊢; omega
    refine jg hex ⟨.int .i64 m,_,μ,?_, .int _ _,lU hmu h2 fb,uW g.rs hmu h2 fb ?_ ?_⟩
    ·have vp:Nat.min m l'=m:=Nat.min_eq_left Jz
     have hlen:=hS.len w
     have gh:=hS.cells
     simp [Builtin.copy_,xx,run_underlying hu,hlen,vp,hs,gh,eL,goInt]
    ·rw [fq _ _ _ aa,fb]; omega
    ·intro j hj
     rw [fq _ _ _ aa] at hj
     rw [mM _ _ _ _ aa,ox,s8 _ _ _ _ aa]
     by_cases hk:off<=j/\j < off+new.length
     ·rw [if_pos hk,if_pos aa]
      have e1:base+j - (base+off)=j - off:=by omega
      rw [e1]
      exact hnr (j - off)
     ·rw [if_neg hk,if_neg aa]
      simpa using h4 j hj
theorem OZ (fn:Func) (h1:fn.name= "internal/bytealg.MakeNoZero") (h2:fn.origin= ""):Extern.findNext fn=none/\Extern.find fn=some (Extern.BytealgMakeNoZero.makeNoZero fn.params fn.resultTypes)/\(fn.name == "runtime.NumGoroutine")=false:=by
 unfold Extern.findNext Extern.find
 simp only [h1,h2]
 exact ⟨by kernel_rfl,by rfl,by decide⟩
theorem e_mkNZ (g:bO P fm gm G w X μ σ N fr a) {xs:List bB} (hc:aS P fm gm (.prim .mkNZ xs) o.op=true) {n:Int} (hx:xs.map (val G fr)= [.int .i64 n]) (h:sC σ n=some (v,σ')):EO P fm X μ o a w v σ':=by
 obtain ⟨x,rfl,hxa⟩:=tH hx
 obtain ⟨dst,op,type,pos,after,guard⟩:=o
 simp only [aS] at hc
 split at hc
 case h_2=>simp at hc
 rename_i f' args ats
 simp only [ak] at hc
 obtain ⟨hf,hargs⟩:=hc
 split at hf
 case h_2=>simp at hf
 rename_i fn Qq
 simp only [ak,beq_iff_eq] at hf
 obtain ⟨⟨⟨hn,ho⟩,hb⟩,ht⟩:=hf
 split at ht
 case h_2=>simp at ht
 rename_i t hres0
 have sG:fn.resultTypes= #[t]:=by rw [←Array.toList_inj,hres0]
 split at ht
 case h_2=>simp at ht
 rename_i e hu
 obtain ⟨x',vn,Ib⟩:=tD hargs
 have nV:args= #[x']:=by cases args; simp_all
 subst nV
 have rx:=bj g.glob g.rf Ib
 rw [hxa] at rx
 generalize nU:a.eval x'=xv at rx
 cases rx
 unfold sC at h
 split at h <;> simp only [ah,aL,reduceCtorEq] at h
 rename_i aK
 obtain ⟨h0,wT⟩:=aK
 obtain ⟨rfl,rfl⟩:=h
 obtain ⟨e1,e2,e3⟩:=OZ fn hn ho
 have hmax':n.toNat<=140737488355328:=wT
 obtain ⟨cs,eL,hle,_⟩:=Lib.run_makeNoZero (P:=P) w fn.params t e hu n.toNat aa
 have hnn:((n.toNat:Nat):Int)=n:=by omega
 rw [hnn] at eL
 have hbel:Below w.heap.size w w.drew.drew:=((Below.refl w.heap.size w).drew).drew
 have hS':=g.rs.below hbel
 obtain ⟨k1,k2⟩:=kM (w:=w.drew.drew) hS' (fun b hb=>g.out b hb) (cs:=List.replicate n.toNat .undef) (arr:=cs) e (by simp; omega) (fun j hj=>by
  have:(List.replicate n.toNat AV.undef).getD j .undef= .undef:=by
   rw [bc,List.getElem?_replicate]; split <;> rfl
  rw [this]; exact .undef _)
 have h5:=run_callFunc_extern Qq e3 hb e1 e2 #[.int .i64 n] w
 rw [sG,eL] at h5
 simp only [Result.andThen] at h5
 have nI:a.eval (.func f')= .func (.func f') #[] #[]:=rfl
 refine ⟨_,_,_, .inl (by simpa [execOp,resolve,invoke,nU,nI,Deferred.ofValue] using h5),?_,(Ext.of_below hbel).trans k1,k2⟩
 exact RV.sl σ.next 0 n.toNat 1 none w.heap.size 0 cs.size true cs e (0,0) (by simp [Mu.bind]) (heap_alloc_new w.drew.drew _) aa hle (.inl rfl)
end
end Go.Ab
namespace Go.Ab
open Go.RowKit
section
variable {P:Program} {fm gm:Nat->aA} {G:Nat->ai}
variable {w:World} {X:Nat->Prop} {μ:Mu} {σ σ':ag} {N:Nat} {fr:Fr} {a:Act} {o:Oper} {v:AV}
theorem qa {α:Type} (b:Nat): ∀(l m:List (Nat×α)),look (l ++m) b=match look l b with | some x=>some x | none=>look m b
 | [],m=>by simp [look]
 | (i,x) ::l,m=>by
  simp only [List.cons_append,look]
  split
  ·rfl
  ·exact qa b l m
theorem Kb {b0 e:Nat} (h: ∃x,σ.get b0=some x) (b:Nat):(σ.addTag b0 e).get b=σ.get b:=by
 obtain ⟨x,hx⟩:=h
 unfold ag.get ag.addTag at*
 rw [qa]
 cases hl:look σ.m b with
 | some y=>rfl
 | none=>
  simp only [look]
  by_cases hb:b0=b
  ·subst hb; rw [hx] at hl; cases hl
  ·rw [if_neg hb]
theorem Cl (hS:RS (fm:=fm) σ w X μ) {b e:Nat} (hg: ∃x,σ.get b=some x) (hu:μ b≠ .unborn) (ht: ∀blk base o,μ b= .at blk base o->base=0/\∃arr fz,w.heap[blk]? =some (.cells arr e fz)):RS (fm:=fm) (σ.addTag b e) w X μ:=by
 have di:=Kb (e:=e) hg
 refine ⟨hS.lt,hS.far,hS.frz,hS.inj,fun b' blk base o hm=>by rw [di]; exact hS.cells b' blk base o hm,fun b' h=>hS.born b' (by rw [←di]; exact h),fun b' x h=>hS.lim b' x (by rw [←di]; exact h),fun b' h=>hS.gone b' (by rw [←di]; exact h),fun b' h=> ?_,fun b' e' h=> ?_⟩
 ·have:=hS.dead b' h
  unfold ag.cells at*
  rw [di]; exact this
 ·rcases lB.1 h with k | k
  ·exact hS.tys b' e' k
  ·simp only [List.mem_singleton,aL,jP.tag.injEq] at k
   obtain ⟨rfl,rfl⟩:=k
   obtain ⟨x,hx⟩:=hg
   exact ⟨hS.lim _ _ hx,hu,ht⟩
theorem si {b e:Nat} (h:σ.tagged b e=true):(b,jP.tag e)∈σ.m:=by
 obtain ⟨⟨b',x⟩,h1,h2⟩:=ju.1 h
 unfold S7 at h2
 split at h2
 ·rename_i heq
  simp only [aL] at heq
  obtain ⟨rfl,rfl⟩:=heq
  simp only [ak,beq_iff_eq] at h2
  obtain ⟨rfl,rfl⟩:=h2
  exact h1
 ·cases h2
theorem e_boxT (g:bO P fm gm G w X μ σ N fr a) {e:Nat} {xs:List bB} (hc:aS P fm gm (.prim (.boxT e) xs) o.op=true) {xa:AV} (hx:xs.map (val G fr)= [xa]) (hk:xa.known=true) :
  EO P fm X μ o a w (.ptr σ.next 0) ((σ.alloc xa.cells).addTag σ.next e):=by
 obtain ⟨x,rfl,rfl⟩:=tH hx
 obtain ⟨dst,op,type,pos,after,guard⟩:=o
 simp only [aS] at hc
 split at hc
 case h_2=>simp at hc
 rename_i el x'
 simp only [ak,beq_iff_eq] at hc
 obtain ⟨rfl,hc⟩:=hc
 have rx:=bj g.glob g.rf (by simpa [bL] using hc:bu fm gm x x'=true)
 obtain ⟨hl,hr⟩:=rx.cells hk
 obtain ⟨h1,h2⟩:=kM g.rs g.out el (Nat.le_of_eq hl) (fun j _=>hr j)
 refine jg (s:=Instr.box el (a.eval x')) rfl ⟨_,_,_,rfl,?_,h1,Cl h2 ⟨_,by rw [cW,if_pos rfl]⟩ (by simp [Mu.bind]) fun blk base o hm=> ?_⟩
 ·exact RV.ptr (fm:=fm) (w:=w.alloc (.cells (a.eval x').cells el)) (X:=X) (μ:=μ.bind σ.next (.at w.heap.size 0 true)) σ.next 0 w.heap.size 0 true (by simp [Mu.bind])
 ·simp only [Mu.bind,if_true,Loc.at.injEq] at hm
  obtain ⟨rfl,rfl,rfl⟩:=hm
  exact ⟨rfl,_,_,heap_alloc_new w _⟩
theorem Uw (g:bO P fm gm G w X μ σ N fr a) {e sz bytes:Nat} {str:Bool} {xs:List bB} (hc:aS P fm gm (.prim (.appT e sz bytes str) xs) o.op=true) {xa ya:AV} (hx:xs.map (val G fr)= [xa,ya])
  {new:ai} {n:Nat} (tR: ∀(args:Array Operand) (argTypes:Array TypeId) (tx:TypeId) (y':Operand),argTypes[1]? =some tx->RV fm w X μ ya (a.eval y')->(if str=true then P.underlying tx=some .string else ∃e',P.underlying tx=some (.slice e'))->HR P fm w X μ sz tx (a.eval y') n new)
  (h:jO σ e sz bytes xa new n=some (v,σ')):EO P fm X μ o a w v σ':=by
 obtain ⟨x,y,rfl,rfl,rfl⟩:=C0 hx
 obtain ⟨dst,op,type,pos,after,guard⟩:=o
 simp only [aS] at hc
 split at hc
 case h_2=>simp at hc
 rename_i args argTypes
 simp only [ak] at hc
 obtain ⟨⟨hx,h0⟩,h1⟩:=hc
 obtain ⟨x',y',rfl,nV,YO⟩:=od hx
 have rx:=bj g.glob g.rf nV
 have ry:=bj g.glob g.rf YO
 unfold og at h0 h1
 cases xx:argTypes[0]? with
 | none=>simp [xx] at h0
 | some t=>
 cases Qt:argTypes[1]? with
 | none=>simp [Qt] at h1
 | some tx=>
 simp only [xx] at h0
 simp only [Qt] at h1
 split at h0
 case h_2=>simp at h0
 rename_i e' hu
 simp only [ak,beq_iff_eq] at h0
 obtain ⟨rfl,h0⟩:=h0
 cases hi:P.info? e' with
 | none=>simp [hi] at h0
 | some i=>
 simp only [hi,ak,beq_iff_eq] at h0
 obtain ⟨⟨fb,ET⟩,hz⟩:=h0
 cases Td:i.zero with
 | none=>simp [Td] at hz
 | some z=>
 simp only [Td,beq_iff_eq] at hz
 have iS: ∀(av:Array Value),Builtin.append_ argTypes type av=Builtin.append_ #[t,tx] type av:=by
  intro av
  unfold Builtin.append_
  simp only [xx,Qt]
  rfl
 have hs:=tR #[x',y'] argTypes tx y' Qt ry (by
  split at h1
  ·rename_i YP; subst h1; simpa using YP
  ·rename_i e'' YP; simp only [Bool.not_eq_true'] at h1; subst h1; exact ⟨e'',YP⟩
  ·simp at h1)
 have fin: ∀v0 σ0,aF σ sz bytes (val G fr x) new n=some (v0,σ0)->n≠0->(∀b off l kl c,val G fr x= .sl b off l kl c->off=0/\σ.tagged b e'=true)->
   EO P fm X μ ⟨dst, .call { callee:= .builtin .append,args:=#[x',y'],argTypes:=argTypes },type,pos,after,guard⟩ a w v0 (σ0.addTag σ.next e'):=by
  intro v0 σ0 da hn hb
  obtain ⟨cv,w',μ',r1,r2,r3,r4,r5⟩:=qZ (P:=P) (ty:=type) g.rs g.out rx hu hi Td fb ET (by rw [hz]) hs da
  have hg:(∃cs,σ0.get σ.next=some cs)/\∃l,v0= .sl σ.next 0 l sz none/\l≠0:=by
   unfold aF at da
   split at da
   ·cases da
   split at da
   case isFalse=>cases da
   split at da
   ·(try rw [if_neg hn] at da); cases da
   ·try rw [if_neg hn] at da
    simp only [ah,aL] at da
    rw [←da.2]; exact ⟨⟨_,by rw [cW,if_pos rfl]⟩,_,da.1.symm,by omega⟩
   ·try rw [if_neg hn] at da
    split at da
    case isFalse=>cases da
    split at da <;> simp only [ah,aL,reduceCtorEq] at da
    rw [←da.2]; exact ⟨⟨_,by rw [cW,if_pos rfl]⟩,_,da.1.symm,by omega⟩
   ·split at da
    case isFalse=>cases da
    split at da
    case h_2=>cases da
    try rw [if_neg hn] at da
    split at da
    case isFalse=>cases da
    simp only [ah,aL] at da
    rw [←da.2]; exact ⟨⟨_,by rw [cW]; exact if_pos rfl⟩,_,da.1.symm,by omega⟩
   ·try rw [if_neg hn] at da
    split at da
    case isFalse=>cases da
    split at da <;> simp only [ah,aL,reduceCtorEq] at da
    rw [←da.2]; exact ⟨⟨_,by rw [cW,if_pos rfl]⟩,_,da.1.symm,by omega⟩
   ·cases da
  refine ⟨cv,w',μ', .inl ?_,r2,r3,Cl r4 hg.1 ?_ fun blk base o hm=> ?_⟩
  ·simp [execOp,resolve,invoke,builtin,iS,r1]
  ·obtain ⟨_,l,rfl,AH⟩:=hg
   cases r2 with
   | sl _ _ _ _ _ blk base c o arr e fz hm hb hr hl bW=>rw [hm]; exact fun c=>by cases c
   | slDead _ _ _ _ _ ad c hl hm=>rw [hm]; exact fun c=>by cases c
   | slZero=>exact absurd rfl AH
  ·rcases r5 blk base o hm with k | ⟨b,off,l,kl,c,Vc,k1,k2,k3⟩
   ·exact k
   ·obtain ⟨rfl,ht⟩:=hb b off l kl c k1
    obtain ⟨_,_,h4⟩:=g.rs.tys b e' (si ht)
    obtain ⟨rfl,arr,fz,h5⟩:=h4 _ _ _ k2
    exact ⟨k3,r3.ty _ _ _ _ h5⟩
 unfold jO at h
 split at h
 ·cases h
 rename_i hn
 split at h
 ·rename_i hxn
  obtain ⟨⟨v0,σ0⟩,h2,h3⟩:=cH.1 h
  simp only [aL] at h3
  obtain ⟨rfl,rfl⟩:=h3
  exact fin v0 σ0 (by rw [hxn]; exact h2) hn (fun b off l kl c k=>by rw [hxn] at k; cases k)
 ·rename_i b l kl Jv
  split at h
  case isFalse=>cases h
  rename_i ht
  obtain ⟨⟨v0,σ0⟩,h2,h3⟩:=cH.1 h
  simp only [aL] at h3
  obtain ⟨rfl,rfl⟩:=h3
  exact fin v0 σ0 (by rw [Jv]; exact h2) hn (fun b' off l' sz'' c k=>by rw [Jv] at k; cases k; exact ⟨rfl,ht⟩)
 ·cases h
theorem qm (w:World) (blk k n fk:Nat) (h:fk≠blk):(w.freeze ⟨blk,k,none⟩ n).heap[fk]? =w.heap[fk]? :=by
 unfold World.freeze
 split
 ·rfl
 ·simp [Array.getElem?_modify,Ne.symm h]
theorem wy (w:World) (a:Addr) (n:Nat):(w.freeze a n).heap.size=w.heap.size:=by
 unfold World.freeze; split <;> simp
theorem JI (w:World) {blk k n:Nat} {arr:Array Value} {e:TypeId} {fz:Nat×Nat} (h:w.heap[blk]? =some (.cells arr e fz)): ∃TI,(w.freeze ⟨blk,k,none⟩ n).heap[blk]? =some (.cells arr e TI):=by
 unfold World.freeze
 split
 ·exact ⟨_,h⟩
 ·obtain ⟨lo,hi⟩:=fz
  exact ⟨_,by simp [Array.getElem?_modify,h]; rfl⟩
theorem JH (hS:RS (fm:=fm) σ w X μ) {b blk base k n:Nat} (hmb:μ b= .at blk base true):Ext w μ (w.freeze ⟨blk,k,none⟩ n) (μ.bind b .dead)/\RS (fm:=fm) (σ.set b .dead) (w.freeze ⟨blk,k,none⟩ n) X (μ.bind b .dead):=by
 obtain ⟨cs0,aab,e0,g1,g2,g3,g4⟩:=hS.cells b blk base true hmb
 have hb:b < σ.next:=hS.lim b _ g1
 have back: ∀b' fk cm o,(μ.bind b .dead) b'= .at fk cm o->b'≠b/\μ b'= .at fk cm o:=by
  intro b' fk cm o h
  by_cases oN:b'=b
  ·simp [Mu.bind,oN] at h
  ·exact ⟨oN,by simpa [Mu.bind,oN] using h⟩
 have gM:Ext w μ (w.freeze ⟨blk,k,none⟩ n) (μ.bind b .dead):=by
  refine ⟨?_,?_,?_,by rw [wy]; exact aD _,fun fk hk hn=>qm w blk k n fk (by rintro rfl; exact hn ⟨b,base,hmb⟩),fun fk arr e fz h=> ?_,fun b' fk cm h=> .inl ⟨_,_,(back _ _ _ _ h).2⟩,fun b' fk cm o h=> ?_,fun b' h=> ?_⟩
  ·unfold World.freeze; split <;> rfl
  ·unfold World.freeze; split <;> rfl
  ·unfold World.freeze; split <;> rfl
  ·by_cases hbk:fk=blk
   ·subst hbk
    obtain ⟨TI,h'⟩:=JI w (k:=k) (n:=n) h
    exact ⟨arr,TI,h',rfl⟩
   ·exact ⟨arr,fz,by rw [qm w blk k n fk hbk]; exact h,rfl⟩
  ·by_cases oN:b'=b
   ·exact .inl (by simp [Mu.bind,oN])
   ·exact .inr ⟨o,by simpa [Mu.bind,oN] using h⟩
  ·by_cases oN:b'=b
   ·simp [Mu.bind,oN]
   ·simpa [Mu.bind,oN] using h
 refine ⟨gM,fun b' blk base o hm=>by rw [wy]; exact hS.lt b' blk base o (back _ _ _ _ hm).2,fun b' blk base hm=>hS.far b' blk base (back _ _ _ _ hm).2,
  fun b' blk base hm=>sM gM (hS.lt b' blk base false (back _ _ _ _ hm).2) (hS.frz b' blk base (back _ _ _ _ hm).2),
  fun b' b'' blk base cm hm fe=>hS.inj b' b'' blk base cm (back _ _ _ _ hm).2 (back _ _ _ _ fe).2,fun b' blk1 base1 o hm=> ?_,fun b' h=> ?_,fun b' x h=> ?_,fun b' h=> ?_,fun b' hm=> ?_,
  hS.tys.step (fun _ _ h=>mem_push (fun _=>by simp) h) (aD _) (fun _ _ _ o _ _ h=>⟨o,(back _ _ _ _ h).2⟩) gM⟩
 ·obtain ⟨fV,fe⟩:=back _ _ _ _ hm
  obtain ⟨cs1,J6,e1,h1,h2,h3,h4⟩:=hS.cells b' blk1 base1 o fe
  have hnb:blk1≠blk:=by
   rintro rfl
   cases o with
   | true=>exact fV (hS.inj b' b blk1 base1 base fe hmb)
   | false=>exact hS.frz b' blk1 base1 fe (.inr ⟨b,base,hmb⟩)
  exact ⟨cs1,J6,e1,by rw [dr,if_neg fV]; exact h1,by rw [qm w blk k n blk1 hnb]; exact h2,h3,fun j hj=>(h4 j hj).ext gM⟩
 ·rw [dr] at h
  by_cases oN:b'=b
  ·rw [if_pos oN] at h; simp at h
  ·rw [if_neg oN] at h; simp [Mu.bind,oN,hS.born b' h]
 ·rw [dr] at h
  show b' < σ.next
  by_cases oN:b'=b
  ·omega
  ·rw [if_neg oN] at h; exact hS.lim b' x h
 ·rw [dr] at h
  by_cases oN:b'=b
  ·simp [Mu.bind,oN]
  ·rw [if_neg oN] at h; simp [Mu.bind,oN,hS.gone b' h]
 ·by_cases oN:b'=b
  ·simp [ag.cells,dr,oN]
  ·have fe:μ b'= .dead:=by simpa [Mu.bind,oN] using hm
   have:=hS.dead b' fe
   simp only [ag.cells,dr,if_neg oN] at this ⊢
   exact this
theorem wJ: ∀ {l:ai} {s:aw},bytesOf l=some s->l=af s
 | [],s,h=>by simp [bytesOf] at h; subst h; rfl
 | .int .u8 n ::r,s,h=>by
  rw [bytesOf] at h
  split at h
  case h_2=>cases h
  rename_i l hl
  split at h <;> simp only [ah,reduceCtorEq] at h
  rename_i hn
  subst h
  have ih:=wJ hl
  show _=_ ::af l
  rw [←ih]
  congr 2
  have:(UInt8.ofNat n.toNat).toNat=n.toNat:=by rw [eW]; exact aO (by show n.toNat < 2 ^ 8; omega)
  rw [this]; omega
 | .undef ::_,_,h | .bool _ ::_,_,h | .str _ ::_,_,h | .lit _ ::_,_,h | .fn .. ::_,_,h | .ptr .. ::_,_,h | .vptr .. ::_,_,h | .sl .. ::_,_,h | .vsl .. ::_,_,h | .e0 ::_,_,h | .nils ::_,_,h | .agg _ ::_,_,h | .tup _ ::_,_,h=>by simp [bytesOf] at h
 | .int .i8 _ ::_,_,h | .int .i16 _ ::_,_,h | .int .i32 _ ::_,_,h | .int .i64 _ ::_,_,h | .int .u16 _ ::_,_,h | .int .u32 _ ::_,_,h | .int .u64 _ ::_,_,h=>by simp [bytesOf] at h
open Go.Lib in
theorem e_ustr (g:bO P fm gm G w X μ σ N fr a) {e:Nat} {xs:List bB} (hc:aS P fm gm (.prim (.ustr e) xs) o.op=true) {xa:AV} {n:Int} (hx:xs.map (val G fr)= [xa, .int .i64 n])
  (h:sf σ e xa n=some (v,σ')):EO P fm X μ o a w v σ':=by
 obtain ⟨x,y,rfl,hxa,hya⟩:=C0 hx
 obtain ⟨dst,op,type,pos,after,guard⟩:=o
 simp only [aS] at hc
 split at hc
 case h_2=>simp at hc
 rename_i args argTypes
 simp only [ak] at hc
 obtain ⟨hx,h0⟩:=hc
 obtain ⟨x',y',rfl,nV,YO⟩:=od hx
 have rx:=bj g.glob g.rf nV
 have ry:=bj g.glob g.rf YO
 rw [hxa] at rx
 rw [hya] at ry
 unfold Ll at h0
 split at h0
 case h_2=>simp at h0
 rename_i hue
 simp only [ak,beq_iff_eq] at h0
 obtain ⟨hce,h0⟩:=h0
 cases xx:argTypes[0]? with
 | none=>simp [xx] at h0
 | some t=>
 simp only [xx] at h0
 split at h0
 case h_2=>simp at h0
 rename_i u YP
 simp only [beq_iff_eq] at h0
 subst h0
 generalize nU:a.eval x'=xv at rx
 generalize hyv:a.eval y'=yv at ry
 cases ry
 unfold sf at h
 split at h
 case h_2=>cases h
 rename_i b
 split at h
 case isFalse=>cases h
 rename_i aK
 obtain ⟨ht,hn,hn63⟩:=aK
 split at h
 case h_2=>cases h
 rename_i cs ho
 split at h
 case isFalse=>cases h
 rename_i hle
 split at h
 case h_2=>cases h
 rename_i s hs
 simp only [ah,aL] at h
 obtain ⟨rfl,rfl⟩:=h
 have di:σ.get b=some (.own cs):=by
  unfold ag.owned at ho
  split at ho
  ·rename_i cs' hh; rw [hh]; rw [bT ho]
  ·cases ho
 have vr:=wJ hs
 rw [List.drop_zero] at vr
 cases rx with
 | ptrDead _ _ y hm=>have:=g.rs.dead b hm; simp [ag.cells,di] at this
 | ptr _ _ blk base ow hm=>
  obtain ⟨cs',arr,e',k1,k2,k3,k4⟩:=g.rs.cells b blk base ow hm
  rw [di] at k1
  cases ow with
  | false=>simp at k1
  | true=>
   simp only [if_true,ah,jP.own.injEq] at k1
   subst k1
   obtain ⟨_,_,h4⟩:=g.rs.tys b u (si ht)
   obtain ⟨rfl,kg,Wg,h5⟩:=h4 _ _ _ hm
   rw [k2] at h5
   simp only [ah,Obj.cells.injEq] at h5
   obtain ⟨rfl,rfl,rfl⟩:=h5
   have hlen:s.length=n.toNat:=by
    have:=congrArg List.length vr
    simp [af] at this; omega
   have hnn:n=(s.length:Int):=by omega
   obtain ⟨x1,x2⟩:=JH (k:=0) (n:=s.length) g.rs hm
   have mD:w.shape? blk=some (e',arr.size):=by simp [World.shape?,k2]
   have eL:=run_unsafeString_row (P:=P) w t t type e' YP hce blk arr.size mD s (by rintro rfl; simp at hlen; omega) aa aa (fun j x hj=>by
    have Y2:j < s.length:=(bI.1 hj).1
    have:=k4 j aa
    have e1:cs.getD j .undef= .int .u8 x.toNat:=by
     have h6:(cs.take n.toNat)[j]? =(af s)[j]? :=by rw [vr]
     rw [List.getElem?_take,if_pos aa] at h6
     rw [bc,h6]
     simp [af,hj]
    rw [e1,Nat.zero_add] at this
    generalize hz:arr.getD j Go.undef=z at this
    cases this
    rw [eH,Nat.zero_add]
    have hja:j < arr.size:=by omega
    simp only [World.cell?,k2]
    simp [hja] at hz ⊢
    exact hz)
   have iS:Builtin.unsafeString_ argTypes type #[.pointer (some ⟨blk,0,none⟩), .int .i64 s.length]=Builtin.unsafeString_ #[t,t] type #[.pointer (some ⟨blk,0,none⟩), .int .i64 s.length]:=by
    have Pt: ∀ts:Array TypeId,Builtin.unsafeString_ ts type #[.pointer (some ⟨blk,0,none⟩), .int .i64 s.length]=(do
      let n ←asInt (.int .i64 s.length)
      let some pt:=ts[0]? | stuck "unsafe.String: no argument types"
      if n < 0 then runtimePanic (.error "unsafe.String: len out of range")
      if n > IntKind.i64.max then unsupported (.unsafePointer "String: a length above the largest int")
      if n=0 then pure (.string .empty)
      else if ←variablesAt ⟨blk,0,none⟩ (←elemOf pt) n.toNat then do
       let s ←loadBytes ⟨blk,0,none⟩ .empty n.toNat
       freeze ⟨blk,0,none⟩ n.toNat
       pure (.string s)
      else unsupported (.unsafePointer "String: not so many bytes at ptr")):=fun _=>rfl
    rw [Pt,Pt,xx]; rfl
   refine ⟨_,_,_, .inl ?_,RV.str s ⟨s.toArray⟩ (by simp),x1,x2⟩
   simp only [execOp,resolve,invoke,builtin,List.map_toArray,List.map_cons,List.map_nil,nU,hyv,Sem.run_bind,Sem.run_pure,Result.andThen_ok]
   rw [hnn,iS]
   simp [eL]
theorem Ve {e sz bytes:Nat} {x:AV} {new:ai} {n:Nat} {r:AV×ag} (h:jO σ e sz bytes x new n=some r):new.all AV.one=true:=by
 have key: ∀y z,aF σ sz bytes y new n=some z->new.all AV.one=true:=by
  intro y z h
  unfold aF at h
  split at h
  ·cases h
  ·split at h
   ·rename_i aK; exact aK.2.2.2.2
   ·cases h
 unfold jO at h
 split at h
 ·cases h
 split at h
 ·obtain ⟨z,h2,_⟩:=cH.1 h; exact key _ _ h2
 ·split at h
  ·obtain ⟨z,h2,_⟩:=cH.1 h; exact key _ _ h2
  ·cases h
 ·cases h
theorem SK {e u:Nat} (hn:0 < P.cellsOf e) (h:liesAt P P.depth e 1 0 u 1=true) (hu:(match P.underlying u with | some (.array ..)=>false | _=>true)=true) {count:Nat} (hc:0 < count):liesAt P P.depth e count 0 u 1=true:=by
 have hd:P.depth=(2*(P.types.size+Made.depth)+1)+1:=rfl
 rw [hd] at h ⊢
 have fV: ¬P.cellsOf e=0:=by omega
 have h1:1<=count:=hc
 have hr: ∀(fits:TypeId->Bool) (d c:Nat),0 < c->rowAt P fits (d+1) e c 0 1=rowAt P fits (d+1) e 1 0 1:=by
  intro fits d c hc
  have h2:1<=c:=hc
  simp only [rowAt,if_neg fV,Nat.zero_div,Nat.zero_mod,Nat.zero_add,h2,hc,aD,decide_true,Bool.and_true,Nat.lt_irrefl,show (0:Nat) < 1 from Nat.one_pos]
 simp only [liesAt,Bool.or_eq_true] at h ⊢
 rcases h with h | h
 ·left
  rw [hd] at h ⊢
  rw [hr _ _ _ hc]; exact h
 ·split at h
  ·rename_i m u' hh
   rw [hh] at hu; simp at hu
  ·cases h
theorem e_cvp (g:bO P fm gm G w X μ σ N fr a) {e n:Nat} {xs:List bB} (hc:aS P fm gm (.prim (.cvp e n) xs) o.op=true) {xa:AV} (hx:xs.map (val G fr)= [xa]) (h:Ac σ e n xa=some (v,σ')):EO P fm X μ o a w v σ':=by
 obtain ⟨x,rfl,hxa⟩:=tH hx
 obtain ⟨dst,op,type,pos,after,guard⟩:=o
 simp only [aS] at hc
 split at hc
 case h_2=>simp at hc
 rename_i s d x'
 simp only [ak] at hc
 obtain ⟨vq,hc⟩:=hc
 have rx:=bj g.glob g.rf (by simpa [bL] using hc:bu fm gm x x'=true)
 rw [hxa] at rx
 unfold Ac at h
 split at h
 case h_2=>cases h
 rename_i b
 split at h
 case isFalse=>cases h
 rename_i ht
 split at h
 case h_2=>cases h
 rename_i cs ho
 split at h <;> simp only [ah,aL,reduceCtorEq] at h
 rename_i hle
 obtain ⟨rfl,rfl⟩:=h
 have di:σ.get b=some (.own cs):=by
  unfold ag.owned at ho
  split at ho
  ·rename_i cs' hh; rw [hh]; rw [bT ho]
  ·cases ho
 generalize nU:a.eval x'=xv at rx
 cases rx with
 | ptrDead _ _ y hm=>have:=g.rs.dead b hm; simp [ag.cells,di] at this
 | ptr _ _ blk base ow hm=>
  obtain ⟨cs',arr,e',k1,k2,k3,k4⟩:=g.rs.cells b blk base ow hm
  have ma:cs'=cs:=by rw [di] at k1; cases ow <;> simp at k1; exact k1.symm
  subst ma
  obtain ⟨_,_,h4⟩:=g.rs.tys b e (si ht)
  obtain ⟨rfl,kg,Wg,h5⟩:=h4 _ _ _ hm
  rw [k2] at h5
  simp only [ah,Obj.cells.injEq] at h5
  obtain ⟨rfl,rfl,rfl⟩:=h5
  unfold UF at vq
  simp only [ak,beq_iff_eq] at vq
  obtain ⟨vr,vq⟩:=vq
  have mD:w.shape? blk=some (e',arr.size):=by simp [World.shape?,k2]
  have YT:0 < arr.size:=by omega
  have Te:(viewAt blk).run P w= .ok none w:=by simp [viewAt,mD]
  have hseen:(Conv.seenAt ⟨blk,0,none⟩).run P w= .ok ⟨blk,0,none⟩ w:=by simp [Conv.seenAt,Te]
  refine jg (s:=convert s d (a.eval x')) rfl ⟨.pointer (some ⟨blk,0+0,none⟩),w,μ,?_, .ptr b 0 blk 0 ow hm,Ext.refl _ _,g.rs⟩
  rw [nU]
  split at vq
  ·rename_i t hs hd
   simp only [ak,Bool.not_eq_true'] at vq
   obtain ⟨h0,hi⟩:=vq
   obtain ⟨i,hi⟩:=Option.isSome_iff_exists.1 hi
   have fb:i.size≠0:=by
    unfold du at h0
    rw [hi] at h0
    simpa using h0
   have fV:arr≠ #[]:=by rintro rfl; simp at YT
   simp [convert,Conv.unsafePointer,run_underlying hs,run_underlying hd,hseen,cellsIn,mD,sizeOf,typeInfo,hi,fb,fV]
  ·rename_i u hs hd
   simp only [ak,Bool.not_eq_true'] at vq
   obtain ⟨⟨⟨hi,h0⟩,hl⟩,hu⟩:=vq
   obtain ⟨i,hi⟩:=Option.isSome_iff_exists.1 hi
   have fb:i.size≠0:=by
    unfold du at h0
    rw [hi] at h0
    simpa using h0
   have hlie:=SK (P:=P) (e:=e') (u:=u) aa hl hu (count:=arr.size / P.cellsOf e') (Nat.div_pos aa aa)
   simp [convert,Conv.unsafePointer,run_underlying hs,run_underlying hd,hseen,sizeOf,typeInfo,hi,fb,variablesAt,mD,hlie]
  ·cases vq
end
end Go.Ab
namespace Go.Ab
open Go.RowKit
section
variable {P:Program} {fm gm:Nat->aA} {G:Nat->ai} {ip:Nat->Option au}
theorem mT (wx: ∀g,ay (G g)=true) {w:World} {X:Nat->Prop} {μ:Mu} (h:eM fm gm G w X μ) (w':World) (X':Nat->Prop) (hb:Below w.heap.size w w') (hX: ∀b,X' b->Av X μ b) :
  eM fm gm G w' X' Mu.none:=by
 intro g g' hg
 refine (kd (h g g' hg) (by simpa [AV.closed] using wx g) ?_).bel hb
 rintro blk (hh | ⟨b,base,hh⟩)
 ·exact hX blk hh
 ·simp [Mu.none] at hh
section
variable {w:World} {X:Nat->Prop} {μ:Mu} {σ σ':ag} {N:Nat} {fr:Fr} {a:Act} {o:Oper} {v:AV}
theorem MN (wx: ∀g,ay (G g)=true) (g:bO P fm gm G w X μ σ N fr a) {n m:Nat} (uM:gF P fm gm G ip n) (hm:m < n) {io:cG} (hc:aS P fm gm io o.op=true)
  (h:bH ip G (run ip G m) io fr σ=some (v,σ')):DH P fm X μ o a w v σ':=by
 have bK: ∀ {io:cG},aS P fm gm io o.op=true->(aj G io fr σ).map (fun v=>(v,σ))=some (v,σ')->DH P fm X μ o a w v σ':=by
  intro io hc h
  simp only [cH,aL] at h
  obtain ⟨v',hv,rfl,rfl⟩:=h
  exact .of_eff (R9 g (LZ g hc hv))
 cases io with
 | box x=>
  simp only [bH] at h
  split at h <;> simp only [ah,aL,reduceCtorEq] at h
  rename_i hk
  obtain ⟨rfl,rfl⟩:=h
  exact .of_eff (e_box g hc hk)
 | new z=>
  simp only [bH,ah,aL] at h
  obtain ⟨rfl,rfl⟩:=h
  exact .of_eff (e_new g hc)
 | buildSl own sz len z ps=>
  cases own with
  | false=>exact bK hc h
  | true=>
   simp only [bH] at h
   split at h
   case h_2=>simp at h
   rename_i cs JB
   split at h <;> simp only [ah,aL,reduceCtorEq] at h
   rename_i hz
   obtain ⟨rfl,rfl⟩:=h
   exact .of_eff (PJ g hc JB hz.1)
 | storeS n p x=>
  have h':gp σ n (val G fr p) (val G fr x)=some (v,σ'):=by simpa [bH] using h
  obtain rfl:=E4 h'
  exact (FD g hc h').opWp g
 | store n p x=>
  simp only [bH] at h
  split at h
  case h_2=>simp at h
  rename_i b off hp
  split at h
  case h_2=>simp at h
  rename_i cs ho
  split at h <;> simp only [ah,aL,reduceCtorEq] at h
  rename_i aK
  obtain ⟨rfl,rfl⟩:=h
  exact .of_eff (Zq g hc hp ho aK.1 aK.2.1 aK.2.2)
 | append sz bytes str x y=>exact .of_eff (Uv g hc h)
 | prim k xs=>
  simp only [bH] at h
  unfold gv at h
  split at h
  ·simp [aS] at hc
  ·rename_i hx; exact .of_eff (Uu g hc hx h)
  ·rename_i hx; exact .of_eff (Zr g hc hx h)
  ·rename_i hx; exact .of_eff (e_copy g hc hx h)
  ·rename_i hx
   split at h <;> simp only [ah,aL,reduceCtorEq] at h
   rename_i hk
   obtain ⟨rfl,rfl⟩:=h
   exact .of_eff (e_boxT g hc hx hk)
  ·rename_i hx
   split at h
   case isFalse=>simp at h
   rename_i hz
   subst hz
   refine .of_eff (Uw g hc hx (fun args ats tx y' _ ry hk=> ?_) h)
   generalize a.eval y'=yv at ry
   cases ry with
   | str _ b hb=>
    simp only [if_true] at hk
    have:=yI (P:=P) (fm:=fm) (w:=w) (X:=X) (μ:=μ) (s:=b) hk
    rw [←hb]
    rw [show b.size=b.data.toList.length from by simp] at this
    exact this
  ·rename_i hx
   split at h
   case h_2=>simp at h
   rename_i n new hn ll
   split at h
   ·simp at h
   refine .of_eff (Uw g hc hx (fun args ats tx y' _ ry hk=> ?_) h)
   obtain ⟨e',hk⟩:=by simpa using hk
   exact qC g.rs ry ll hn (Ve h) hk
  ·rename_i hx; exact .of_eff (e_mkNZ g hc hx h)
  ·rename_i hx; exact .of_eff (e_cvp g hc hx h)
  ·rename_i hx; exact .of_eff (e_ustr g hc hx h)
  ·simp at h
 | call sh f xs=>
  cases sh
  ·exact Mc g uM hm hc h
  ·exact CV g uM hm (fun w' X' hb hX=>mT wx g.glob w' X' hb hX) hc h
  ·exact CV g uM hm (fun w' X' hb hX=>mT wx g.glob w' X' hb hX) hc h
  ·simp only [bH] at h
   split at h
   ·rename_i h1
    split at h <;> simp only [ah,aL,reduceCtorEq] at h
    rename_i h2
    obtain ⟨rfl,rfl⟩:=h
    exact (I5 g uM hm (fun w' X' hb hX=>mT wx g.glob w' X' hb hX) hc h1 h2).opWp g
   ·exact Mc g uM hm hc h
  ·simp only [bH] at h
   split at h
   ·rename_i h1
    split at h <;> simp only [ah,aL,reduceCtorEq] at h
    rename_i h2
    obtain ⟨rfl,rfl⟩:=h
    exact ((I5 g uM hm (fun w' X' hb hX=>mT wx g.glob w' X' hb hX) hc h1 h2).weaken (fun _ _ hr=>Hr hr)).opWp g
   ·exact CV g uM hm (fun w' X' hb hX=>mT wx g.glob w' X' hb hX) hc h
 | _=>exact bK hc h
end
theorem LA {w:World} {X:Nat->Prop} {μ:Mu}:RV fm w X μ (.tup []) Go.undef:= .tup [] #[] rfl (fun j=>by simpa using RV.undef _)
theorem lq {ops:Array Oper} {io:a8} {o:Oper} {N:Nat} {fr:Fr} {a:Act} {w:World} {X:Nat->Prop} {μ:Mu} (r:RF (fm:=fm) N fr a.tmps w X μ)
  (h:qk ops io.guard o.guard=true) {b:Bool} (hw:wanted io.guard fr=some b):Region.wanted o (yielded ops a.tmps)=b:=by
 cases hg:io.guard with
 | none=>
  rw [hg] at h hw
  cases MD:o.guard with
  | none=>simp only [wanted,ah] at hw; subst hw; simp [Region.wanted,MD]
  | some p=>rw [MD] at h; simp [qk] at h
 | some p=>
  obtain ⟨t,c⟩:=p
  rw [hg] at h hw
  cases MD:o.guard with
  | none=>rw [MD] at h; simp [qk] at h
  | some q=>
   obtain ⟨j,c'⟩:=q
   rw [MD] at h
   simp only [qk,ak,beq_iff_eq] at h
   obtain ⟨rfl,h⟩:=h
   cases hj:ops[j]? with
   | none=>simp [hj] at h
   | some oj=>
    simp only [hj,beq_iff_eq] at h
    simp only [wanted] at hw
    split at hw <;> simp only [ah,reduceCtorEq] at hw
    case h_2 hd=>
     have hr:=r.val t
     rw [hd] at hr
     generalize AF:a.tmps.getD t Go.undef=tv at hr
     cases hr
     have hy:yielded ops a.tmps j=none:=by
      simp only [yielded,hj,Option.bind_some,h]
      cases htt:a.tmps[t]? with
      | none=>rfl
      | some q=>
       have:a.tmps.getD t Go.undef=q:=by simp [htt]
       rw [this] at AF
       rw [AF]
     simp only [Region.wanted,MD,hy]
     subst hw
     rfl
    rename_i d hd
    have hr:=r.val t
    rw [hd] at hr
    generalize AF:a.tmps.getD t Go.undef=tv at hr
    cases hr
    have aR:t < a.tmps.size:=by
     rcases Nat.lt_or_ge t a.tmps.size with h' | h'
     ·exact h'
     ·simp [Array.getElem?_eq_none h',Go.undef] at AF
    have htv2:a.tmps[t]? =some (.bool d):=by
     simp [aR] at AF ⊢
     exact AF
    have hy:yielded ops a.tmps j=some d:=by simp [yielded,hj,h,htv2]
    simp only [Region.wanted,MD,hy]
    subst hw
    cases d <;> cases c <;> rfl
theorem ops_wp (wx: ∀g,ay (G g)=true) {N:Nat} {n:Nat} (uM:gF P fm gm G ip n) {ops:Array Oper} {X:Nat->Prop} {fr':Fr} {σ':ag} :
  ∀ {os:List a8} {fr:Fr} {σ:ag},oi ip G n os fr σ fr' σ'->∀(i:Nat) (rest:List Oper),ops.toList.drop i=rest->fB P fm gm N ops os rest=true->
  ∀ {w:World} {μ:Mu} {a:Act} (_:bO P fm gm G w X μ σ N fr a) {Q:Exit->Act->World->Prop},
   (∀a' w' μ',Out fm N X w μ a fr' σ' a' w' μ'->eM fm gm G w' X μ'->(∀b,X b->b < w'.heap.size)->Q .normal a' w')->wpOps P ops Q (List.range' i rest.length) a w:=by
 intro os fr σ h
 induction h with
 | nil fr σ=>
  intro i rest hi hc w μ a g Q hQ
  cases rest with
  | nil=>exact hQ a w μ ⟨g.rf,g.rs,Ext.refl _ _,rfl⟩ g.glob g.out
  | cons=>simp [fB] at hc
 | step io os fr fr' σ σ1 σ' v m hm hw hd _ ih=>
  intro i rest hi hc w μ a g Q hQ
  cases rest with
  | nil=>simp [fB] at hc
  | cons o rest=>
   simp only [fB,tA,ak,beq_iff_eq] at hc
   obtain ⟨⟨⟨⟨Gm,hN⟩,hg⟩,AY⟩,Gf⟩:=hc
   have hoi:ops[i]? =some o:=by
    have:(ops.toList.drop i)[0]? =some o:=by rw [hi]; rfl
    simpa using this
   have qi:ops.toList.drop (i+1)=rest:=by
    have:ops.toList.drop (i+1)=(ops.toList.drop i).drop 1:=by simp [List.drop_drop]
    rw [this,hi]; rfl
   have zy:=lq g.rf hg hw
   rw [List.length_cons,List.range'_succ]
   simp only [wpOps,hoi,zy,if_true]
   refine .inl (MN wx g uM hm AY hd _ _ (fun cv w' μ' h1 h2 h3=> ?_))
   have hdN: ∀d,o.dst=some d->d < N:=by
    intro d Wb
    rw [Wb] at hN
    simpa using hN
   have rf':RF (fm:=fm) N (fr.put io.dst v) (a.put o.dst cv).tmps w' X μ':=by rw [Gm]; exact (g.rf.ext h2).put hdN h1
   have mE: ∀b,X b->b < w'.heap.size:=fun b hb=>Nat.lt_of_lt_of_le (g.out b hb) h2.size
   have Pt:(a.put o.dst cv).defers=a.defers:=by cases o.dst <;> rfl
   exact ih (i+1) rest qi Gf ⟨g.glob.ext h2,h3,mE,rf'⟩ (fun a' w'' μ'' ho tY hx=>hQ a' w'' μ'' ⟨ho.rf,ho.rs,h2.trans ho.ext,ho.defers.trans Pt⟩ tY hx)
 | skip io os fr fr' σ σ' hw _ ih=>
  intro i rest hi hc w μ a g Q hQ
  cases rest with
  | nil=>simp [fB] at hc
  | cons o rest=>
   simp only [fB,tA,ak,beq_iff_eq] at hc
   obtain ⟨⟨⟨⟨Gm,hN⟩,hg⟩,AY⟩,Gf⟩:=hc
   have hoi:ops[i]? =some o:=by
    have:(ops.toList.drop i)[0]? =some o:=by rw [hi]; rfl
    simpa using this
   have qi:ops.toList.drop (i+1)=rest:=by
    have:ops.toList.drop (i+1)=(ops.toList.drop i).drop 1:=by simp [List.drop_drop]
    rw [this,hi]; rfl
   have zy:=lq g.rf hg hw
   rw [List.length_cons,List.range'_succ]
   simp only [wpOps,hoi,zy]
   have hdN: ∀d,o.dst=some d->d < N:=by
    intro d Wb
    rw [Wb] at hN
    simpa using hN
   have rf':RF (fm:=fm) N (fr.put io.dst (.tup [])) (a.put o.dst Go.undef).tmps w X μ:=by rw [Gm]; exact g.rf.put hdN LA
   have Pt:(a.put o.dst Go.undef).defers=a.defers:=by cases o.dst <;> rfl
   exact ih (i+1) rest qi Gf ⟨g.glob,g.rs,g.out,rf'⟩ (fun a' w'' μ'' ho tY hx=>hQ a' w'' μ'' ⟨ho.rf,ho.rs,ho.ext,ho.defers.trans Pt⟩ tY hx)
def yz (P:Program) (fm gm:Nat->aA) (G:Nat->ai) (ip:Nat->Option au) (dc:List a8->Array Oper->Bool):Prop:=
 ∀(n N:Nat) (os:List a8) (ops:Array Oper) (fr fr':Fr) (σ σ':ag) (X:Nat->Prop) (w:World) (μ:Mu) (a:Act) (id:Nat),
  gF P fm gm G ip n->dc os ops=true->fB P fm gm N ops os ops.toList=true->oi ip G n os fr σ fr' σ'->bO P fm gm G w X μ σ N fr a->
  (Code.region id ops true).wp P (fun e a' w'=>e= .normal/\∃μ',Out fm N X w μ a fr' σ' a' w' μ'/\eM fm gm G w' X μ'/\∀b,X b->b < w'.heap.size) a w
inductive Ap (P:Program) (fm gm:Nat->aA) (dc:List a8->Array Oper->Bool) (N:Nat):List Item->List Go.Item->Prop
 | nil:Ap P fm gm dc N [] []
 | code {ic:al} {c:Code} {k:List Item} {l:List Go.Item} (h:eC P fm gm dc N ic c=true) (t:Ap P fm gm dc N k l):Ap P fm gm dc N (.code ic ::k) (.code c ::l)
 | inBlock {id:Nat} {k:List Item} {l:List Go.Item} (t:Ap P fm gm dc N k l):Ap P fm gm dc N (.inBlock id ::k) (.inBlock id ::l)
 | inLoop {live:List Nat} {ic:al} {c:Code} {k:List Item} {l:List Go.Item} (h:eC P fm gm dc N ic c=true) (t:Ap P fm gm dc N k l):Ap P fm gm dc N (.inLoop live ic ::k) (.inLoop c ::l)
theorem Hn {dc:List a8->Array Oper->Bool} {N id:Nat} {k k':List Item} {l:List Go.Item} (t:Ap P fm gm dc N k l) (h:exitTo id k=some k') (rest:List Go.Item) :
  ∃l',Go.exitTo id (l ++rest)=some (l' ++rest)/\Ap P fm gm dc N k' l':=by
 induction t with
 | nil=>simp [exitTo] at h
 | code hc t ih=>simp only [exitTo] at h; obtain ⟨l',h1,h2⟩:=ih h; exact ⟨l',by simpa [Go.exitTo] using h1,h2⟩
 | inLoop hc t ih=>simp only [exitTo] at h; obtain ⟨l',h1,h2⟩:=ih h; exact ⟨l',by simpa [Go.exitTo] using h1,h2⟩
 | inBlock t ih=>
  rename_i id' k l
  simp only [exitTo] at h
  by_cases hid:id'=id
  ·rw [if_pos hid] at h
   simp only [ah] at h
   subst h hid
   exact ⟨l,by simp [Go.exitTo],t⟩
  ·rw [if_neg hid] at h
   obtain ⟨l',h1,h2⟩:=ih h
   exact ⟨l',by simpa [Go.exitTo,hid] using h1,h2⟩
theorem TG (l:List Nat) (fr:Fr) (t:Nat):(keep l fr).get t=fr.get t∨(keep l fr).get t= .undef:=by
 unfold keep
 induction l with
 | nil=>right; rfl
 | cons x l ih=>
  simp only [List.map_cons]
  unfold Fr.get
  rw [j5]
  by_cases h:x=t
  ·subst h; left; rw [if_pos rfl]; rfl
  ·rw [if_neg h]; exact ih
theorem bO.keep {w:World} {X:Nat->Prop} {μ:Mu} {σ:ag} {N:Nat} {fr:Fr} {a:Act} (g:bO P fm gm G w X μ σ N fr a) (l:List Nat):bO P fm gm G w X μ σ N (Ab.keep l fr) a:=
 ⟨g.glob,g.rs,g.out,⟨g.rf.size,fun t=>by
  rcases TG l fr t with h | h
  ·rw [h]; exact g.rf.val t
  ·rw [h]; exact .undef _⟩⟩
theorem Oh (wx: ∀g,ay (G g)=true) {dc:List a8->Array Oper->Bool} (hdc:yz P fm gm G ip dc) {N:Nat} {X:Nat->Prop} :
  ∀(n:Nat),gF P fm gm G ip n->∀(k:List Item) (fr fr':Fr) (σ σ':ag),run ip G n k fr σ=some (fr',σ')->
  ∀(w:World) (μ:Mu) (a:Act) (l:List Go.Item),Ap P fm gm dc N k l->bO P fm gm G w X μ σ N fr a->∀(b:Frame) (rest:List Go.Item) (cs:List Frame),
   ∃e a' w' μ',(e= .normal∨e= .ret)/\Arrives P (lone (b.at a (l ++rest)) cs w) b rest cs e a' w'/\Out fm N X w μ a fr' σ' a' w' μ':=by
 intro n
 induction n with
 | zero=>intro _ k fr fr' σ σ' h; simp [run] at h
 | succ n ih=>
  intro uM k fr fr' σ σ' h w μ a l t g b rest cs
  have hSC':gF P fm gm G ip n:=fun m hm=>uM m aa
  have go: ∀ {m:Machine} {a1:Act} {w1:World} {μ1:Mu} {sP:Fr} {σ1:ag} {k1:List Item} {l1:List Go.Item},Steps P m (lone (b.at a1 (l1 ++rest)) cs w1)->
    run ip G n k1 sP σ1=some (fr',σ')->Ap P fm gm dc N k1 l1->bO P fm gm G w1 X μ1 σ1 N sP a1->Ext w μ w1 μ1->a1.defers=a.defers->
    ∃e a' w' μ',(e= .normal∨e= .ret)/\Arrives P m b rest cs e a' w'/\Out fm N X w μ a fr' σ' a' w' μ':=by
   intro m a1 w1 μ1 sP σ1 k1 l1 hs hr ht hg he hd
   obtain ⟨e,a',w',μ',h1,h2,h3⟩:=ih hSC' k1 sP fr' σ1 σ' hr w1 μ1 a1 l1 ht hg b rest cs
   exact ⟨e,a',w',μ',h1, .of_steps hs h2,⟨h3.rf,h3.rs,he.trans h3.ext,h3.defers.trans hd⟩⟩
  cases t with
  | nil=>
   simp only [run,ah,aL] at h
   obtain ⟨rfl,rfl⟩:=h
   exact ⟨.normal,a,w,μ, .inl rfl,Steps.refl _ _,⟨g.rf,g.rs,Ext.refl _ _,rfl⟩⟩
  | inBlock t=>
   simp only [run] at h
   exact go (.one step_inBlock) h t g (Ext.refl _ _) rfl
  | inLoop hc t=>
   simp only [run] at h
   exact go (.one step_inLoop) h (.code hc (.inLoop hc t)) (g.keep _) (Ext.refl _ _) rfl
  | code hc t=>
   rename_i ic c k l
   cases ic with
   | stop=>simp [run] at h
   | skip=>
    cases c <;> simp only [eC,bh] at hc
    simp only [run] at h
    exact go (.one step_skip) h t g (Ext.refl _ _) rfl
   | seq x y=>
    cases c <;> simp only [eC,bh,ak] at hc
    simp only [run] at h
    exact go (.one step_seq) h (.code hc.1 (.code hc.2 t)) g (Ext.refl _ _) rfl
   | cond x y z=>
    cases c <;> simp only [eC,bh,ak] at hc
    rename_i x' y' z'
    simp only [run] at h
    split at h
    case h_2=>simp at h
    rename_i tt hv
    have rx:=bj g.glob g.rf hc.1.1
    rw [hv] at rx
    generalize hxe:a.eval x'=xv at rx
    cases rx
    cases tt
    ·exact go (.one (step_cond hxe)) h (.code hc.2 t) g (Ext.refl _ _) rfl
    ·exact go (.one (step_cond hxe)) h (.code hc.1.2 t) g (Ext.refl _ _) rfl
   | block id x=>
    cases c <;> simp only [eC,bh,ak,beq_iff_eq] at hc
    obtain ⟨rfl,hc⟩:=hc
    simp only [run] at h
    exact go (.one step_block) h (.code hc (.inBlock t)) g (Ext.refl _ _) rfl
   | loop l x=>
    cases c <;> simp only [eC,bh] at hc
    simp only [run] at h
    exact go (.one step_loop) h (.code hc (.inLoop hc t)) (g.keep l) (Ext.refl _ _) rfl
   | keep l x=>
    simp only [eC] at hc
    simp only [run] at h
    exact go (.refl _ _) h (.code hc t) (g.keep l) (Ext.refl _ _) rfl
   | frz l x=>
    simp only [eC] at hc
    simp only [run] at h
    obtain ⟨μ1,x1,r1⟩:=wz (fr:=fr) l g.rs
    exact go (.refl _ _) h (.code hc t) ⟨g.glob.ext x1,r1,g.out,g.rf.ext x1⟩ x1 rfl
   | arity m x=>simp only [eC,bh] at hc
   | exit id=>
    cases c <;> simp only [eC,bh,beq_iff_eq] at hc
    subst hc
    simp only [run] at h
    split at h
    case h_2=>simp at h
    rename_i k' hk
    obtain ⟨l',h1,h2⟩:=Hn t hk rest
    exact go (.one (step_exit h1)) h h2 g (Ext.refl _ _) rfl
   | ret=>
    cases c <;> simp only [eC,bh] at hc
    simp only [run,ah,aL] at h
    obtain ⟨rfl,rfl⟩:=h
    exact ⟨.ret,a,w,μ, .inr rfl,⟨_, .one step_ret⟩,⟨g.rf,g.rs,Ext.refl _ _,rfl⟩⟩
   | region os=>
    cases c <;> simp only [eC,bh,ak] at hc
    rename_i id ops draw
    obtain ⟨hc,hd⟩:=hc
    simp only [run] at h
    obtain ⟨m,sP,σ1,hm,hex,Gf⟩:=CA n os k fr fr' σ σ' h
    have hwp:(Code.region id ops draw).wp P (fun e a' w'=>e= .normal/\∃μ',Out fm N X w μ a sP σ1 a' w' μ'/\eM fm gm G w' X μ'/\∀b,X b->b < w'.heap.size) a w:=by
     cases draw with
     | false=>
      refine wp_region ?_
      have:=ops_wp wx hSC' hex 0 ops.toList rfl hc g (Q:=fun e a' w'=>e= .normal/\∃μ',Out fm N X w μ a sP σ1 a' w' μ'/\eM fm gm G w' X μ'/\∀b,X b->b < w'.heap.size)
       (fun a' w' μ' h1 h2 h3=>⟨rfl,μ',h1,h2,h3⟩)
      rw [Array.length_toList] at this
      rw [List.range_eq_range']
      exact this
     | true=>
      simp only [Bool.not_true,Bool.false_or] at hd
      exact hdc n N os ops fr sP σ σ1 X w μ a id hSC' hd hc hex g
    obtain ⟨e,a1,w1,⟨rfl,μ1,ho,tY,hx⟩,Gw⟩:=hwp b (l ++rest) cs
    have hup:run ip G n k sP σ1=some (fr',σ'):=by
     exact pR aa _ _ _ _ Gf
    exact go Gw hup t ⟨tY,ho.rs,hx,ho.rf⟩ ho.ext ho.defers
end
end Go.Ab
namespace Go.Ab
open Go.RowKit
section
variable {P:Program} {fm gm:Nat->aA} {G:Nat->ai} {ip:Nat->Option au}
theorem tc {w:World} {α β:Type} (f:α->Sem β): ∀(xs:List α) (ys:List β),xs.length=ys.length->(∀(i:Nat) (x:α) (y:β),xs[i]? =some x->ys[i]? =some y->(f x).run P w= .ok y w)->(xs.mapM f).run P w= .ok ys w
 | [], [],_,_=>by simp
 | x ::xs,y ::ys,h,hh=>by
  have h0:=hh 0 x y rfl rfl
  have ih:=tc f xs ys (by simpa using h) (fun i a b ha hb=>hh (i+1) a b (by simpa using ha) (by simpa using hb))
  simp [List.mapM_cons,h0,ih]
 | [],_ ::_,h,_=>by simp at h
 | _ ::_, [],h,_=>by simp at h
theorem IA {w:World} {X:Nat->Prop} {μ:Mu} {σ:ag} {N:Nat} {fr:Fr} {tmps:Array Value} (hS:RS (fm:=fm) σ w X μ) (r:RF (fm:=fm) N fr tmps w X μ) :
  ∀ {l:List Qa} {l':List ResultVar} {vs:ai},kS P l l'=true->ph fr σ l=some vs->
   ∃ys:List Value,ys.length=l'.length/\vs.length=ys.length/\(∀j,RV fm w X μ (vs.getD j .undef) (ys.getD j Go.undef))/\
    ∀(i:Nat) (x:ResultVar) (y:Value),l'[i]? =some x->ys[i]? =some y->((fun | .tmp t=>pure (tmps.getD t undef) | .cell a t=>do loadVar t (←asAddr (tmps.getD a undef)):ResultVar->Sem Value) x).run P w= .ok y w
 | [], [],vs,_,h=>by
  simp only [ph,ah] at h
  subst h
  exact ⟨[],rfl,rfl,fun j=> .undef _,fun i x y hx=>by simp at hx⟩
 | .tmp t ::l, .tmp t' ::l',vs,hc,h=>by
  simp only [kS,ak,beq_iff_eq] at hc
  obtain ⟨rfl,hc⟩:=hc
  simp only [ph] at h
  split at h <;> simp only [ah,reduceCtorEq] at h
  rename_i rN hv
  subst h
  obtain ⟨ys,h1,h2,h3,h4⟩:=IA hS r hc hv
  refine ⟨tmps.getD t Go.undef ::ys,by simp [h1],by simp [h2],fun j=> ?_,fun i x y hx hy=> ?_⟩
  ·cases j with
   | zero=>simpa using r.val t
   | succ j=>simpa using h3 j
  ·cases i with
   | zero=>
    simp only [List.getElem?_cons_zero,ah] at hx hy
    subst hx hy
    rfl
   | succ i=>exact h4 i x y (by simpa using hx) (by simpa using hy)
 | .cell t n ::l, .cell t' ty ::l',vs,hc,h=>by
  simp only [kS,ak,beq_iff_eq] at hc
  obtain ⟨⟨rfl,hl⟩,hc⟩:=hc
  simp only [ph] at h
  split at h <;> simp only [ah,reduceCtorEq] at h
  rename_i v rN hv1 hv
  subst h
  obtain ⟨ys,h1,h2,h3,h4⟩:=IA hS r hc hv
  obtain ⟨blk,base,off,cs,hpv,hr1,Ql⟩:=rT hS (r.val t) hv1
  obtain ⟨cv,vq,V3⟩:=vY (P:=P) hl hr1 Ql
  refine ⟨cv ::ys,by simp [h1],by simp [h2],fun j=> ?_,fun i x y hx hy=> ?_⟩
  ·cases j with
   | zero=>simpa using V3
   | succ j=>simpa using h3 j
  ·cases i with
   | zero=>
    simp only [List.getElem?_cons_zero,ah] at hx hy
    subst hx hy
    show (do loadVar ty (←asAddr (tmps.getD t undef)):Sem Value).run P w=_
    rw [hpv]
    simpa [asAddr] using vq
   | succ i=>exact h4 i x y (by simpa using hx) (by simpa using hy)
 | [],_ ::_,_,hc,_=>by simp [kS] at hc
 | .tmp _ ::_, [],_,hc,_=>by simp [kS] at hc
 | .cell _ _ ::_, [],_,hc,_=>by simp [kS] at hc
 | .tmp _ ::_, .cell _ _ ::_,_,hc,_=>by simp [kS] at hc
 | .cell _ _ ::_, .tmp _ ::_,_,hc,_=>by simp [kS] at hc
theorem Oi {w:World} {X:Nat->Prop} {μ:Mu} {σ:ag} {N:Nat} {fr:Fr} {tmps:Array Value} (hS:RS (fm:=fm) σ w X μ) (r:RF (fm:=fm) N fr tmps w X μ) {fn:Func}
  {l:List Qa} (hc:kS P l fn.results.toList=true) {v:AV} (h:iO fr σ l=some v): ∃cv,(results fn tmps).run P w= .ok cv w/\RV fm w X μ v cv:=by
 unfold iO at h
 cases hr:ph fr σ l with
 | none=>simp [hr] at h
 | some vs=>
  rw [hr] at h
  obtain ⟨ys,h1,h2,h3,h4⟩:=IA hS r hc hr
  have hmap:(fn.results.mapM fun | .tmp t=>pure (tmps.getD t undef) | .cell a t=>do loadVar t (←asAddr (tmps.getD a undef)):Sem (Array Value)).run P w= .ok ys.toArray w:=by
   have e:fn.results=fn.results.toList.toArray:=by simp
   rw [e,List.mapM_toArray]
   simp only [Sem.run_map]
   rw [tc _ fn.results.toList ys h1.symm h4]
   rfl
  have sG:(results fn tmps).run P w= .ok (if h:ys.toArray.size=1 then ys.toArray[0] else .tuple ys.toArray) w:=by
   have h5:=congrArg (fun q:Result (Array Value)=>q.andThen fun vs w'=>(pure (if h:vs.size=1 then vs[0] else .tuple vs):Sem Value).run P w') hmap
   exact (Sem.run_bind' P _ _ w).trans h5
  refine ⟨_,sG,?_⟩
  match vs,ys,h2,h,h3 with
  | [v1], [y1],_,h,h3=>
   simp only [ah] at h
   subst h
   simpa using h3 0
  | [], [],_,h,_=>
   simp only [ah] at h
   subst h
   exact .tup [] #[] rfl (fun j=> .undef _)
  | v1 ::v2 ::vs,y1 ::y2 ::ys,h2,h,h3=>
   simp only [ah] at h
   subst h
   rw [dif_neg (by simp)]
   exact .tup _ _ (by simpa using h2) (fun j=>by simpa using h3 j)
theorem BG: ∀(l:ai) (k t:Nat),look ((List.range' k l.length).zip l) t=if k<=t then l[t - k]? else none
 | [],k,t=>by simp [look]
 | x ::l,k,t=>by
  simp only [List.length_cons,List.range'_succ,List.zip_cons_cons,look]
  rw [BG l (k+1) t]
  by_cases h:k=t
  ·subst h; simp
  ·rw [if_neg h]
   by_cases h2:k<=t
   ·rw [if_pos h2,if_pos aa]
    have:t - k=(t - (k+1))+1:=by omega
    rw [this]; simp
   ·rw [if_neg h2,if_neg aa]
theorem zu (l:ai) (t:Nat):(fK l).get t=l.getD t .undef:=by
 unfold fK Fr.get
 rw [List.range_eq_range',BG]
 simp
def NatOk (P:Program) (fm:Nat->aA) (F:au) (f':FuncId):Prop:=
 ∃k n,F=Jh k n/\(∃fn,P.funcs[f']? =some fn/\fn.body.isSome=true/\fn.name≠ "runtime.NumGoroutine")/\
  ∀(X:Nat->Prop) (μ:Mu) (w:World) (σ σ':ag) (args:ai) (args':Array Value) (r:AV),RS (fm:=fm) σ w X μ->(∀b,X b->b < w.heap.size)->args.length=args'.size->
   (∀j,RV fm w X μ (args.getD j .undef) (args'.getD j Go.undef))->gv k σ args=some (r,σ')->K0 P fm X μ f' args' w r σ'
def Aq (P:Program) (fm gm:Nat->aA) (ip:Nat->Option au) (dc:List a8->Array Oper->Bool):Prop:=
 ∀id F f',ip id=some F->fm id=some f'->Dd P fm gm dc F f'=true∨NatOk P fm F f'
theorem IC (args:ai):(List.range args.length).map (fun t=>(fK args).get t)=args:=by
 apply List.ext_getElem
 ·simp
 ·intro i h1 h2
  simp only [List.getElem_map,List.getElem_range,zu]
  simp [h2]
theorem Yq {k:Ar} {n m:Nat} {args:ai} {σ σ1:ag} {sP:Fr} {rv:AV} (h:run ip G m [.code (Jh k n).body] (fK args) σ=some (sP,σ1)) (hr:iO sP σ1 (Jh k n).res=some rv) :
  gv k σ args=some (rv,σ1):=by
 obtain ⟨m1,rfl⟩ : ∃m1,m=m1+1:=⟨m - 1,by cases m with | zero=>simp [run] at h | succ m=>rfl⟩
 simp only [Jh,run] at h
 split at h
 case isFalse=>simp at h
 rename_i hlen
 have qh:args.length=n:=by simpa [fK] using hlen
 subst qh
 match m1,h with
 | 0,h=>simp [run] at h
 | 1,h=>simp [run] at h
 | 2,h=>simp [run] at h
 | 3,h=>simp [run,wanted] at h; split at h <;> simp [run] at h
 | 4,h=>
  simp only [run,wanted,bH] at h
  split at h
  ·simp [run] at h
  ·simp at h
 | m1+5,h=>
  simp only [run,wanted,bH,List.map_map] at h
  split at h
  case h_2=>simp at h
  rename_i v σ' hp
  simp only [ah,aL] at h
  obtain ⟨rfl,rfl⟩:=h
  have he:(List.range args.length).map ((val G (fK args)) ∘ bB.tmp)=args:=IC args
  rw [he] at hp
  simp only [Jh,iO,ph,Fr.put,Fr.get,look,if_true,Option.getD_some,ah] at hr
  rw [hp,hr]
theorem Of (wx: ∀g,ay (G g)=true) {dc:List a8->Array Oper->Bool} (hdc:yz P fm gm G ip dc) (hP:Aq P fm gm ip dc): ∀n,gF P fm gm G ip n:=by
 intro n
 induction n with
 | zero=>intro m hm; omega
 | succ n ih=>
  intro m hm
  by_cases aR:m < n
  ·exact ih m aR
  have V7:m=n:=by omega
  subst V7
  intro X μ w σ σ' id first args caps r h tY hS hX f' c6 args' fu hf l1 l2 l3 r1 r2 r3
  simp only [dd] at h
  cases hF:ip id with
  | none=>simp [hF] at h
  | some F=>
   simp only [hF] at h
   cases hr:run ip G m [.code F.body] (fK (first ++args ++caps)) σ with
   | none=>rw [hr] at h; simp at h
   | some y=>
    obtain ⟨sP,σ1⟩:=y
    rw [hr] at h
    simp only at h
    split at h <;> simp only [ah,aL,reduceCtorEq] at h
    rename_i rv V3
    obtain ⟨rfl,rfl⟩:=h
    rcases hP id F f' hF hf with TB | ⟨k,n,rfl,Qq,hnat⟩
    case inr=>
     refine ⟨Qq,?_⟩
     have hp:=Yq hr V3
     refine hnat X μ w σ σ1 _ _ rv hS hX (by simp [l1,l2,l3]) ?_ hp
     have key: ∀(p:ai) (p':Array Value) (q:ai) (q':Array Value),p.length=p'.size->(∀j,RV fm w X μ (p.getD j .undef) (p'.getD j Go.undef))->
       (∀j,RV fm w X μ (q.getD j .undef) (q'.getD j Go.undef))->∀j,RV fm w X μ ((p ++q).getD j .undef) ((p' ++q').getD j Go.undef):=by
      intro p p' q q' hl h1 h2 j
      simp only [bc,Array.getD_eq_getD_getElem?,List.getElem?_append,Array.getElem?_append]
      by_cases hj:j < p.length
      ·rw [if_pos hj,if_pos aa]; simpa using h1 j
      ·rw [if_neg hj,if_neg aa,hl]; simpa using h2 (j - p'.size)
     exact key _ _ _ _ (by simp [l1,l2]) (key _ _ _ _ l1 r1 r2) r3
    unfold Dd at TB
    split at TB
    case h_2=>simp at TB
    rename_i fn Qq
    simp only [ak,bne_iff_ne,ne_eq] at TB
    obtain ⟨⟨TA,sG⟩,To⟩:=TB
    split at TA
    case h_2=>simp at TA
    rename_i c hbody
    refine ⟨⟨fn,Qq,by simp [hbody],To⟩,?_⟩
    refine calls_of_wp Qq hbody ?_
    have hinit:RF (fm:=fm) fn.ntmps (fK (first ++args ++caps)) ((c6 ++args' ++fu) ++Array.replicate (fn.ntmps - (c6 ++args' ++fu).size) Go.undef) w X μ:=by
     refine ⟨by simp; omega,fun t=> ?_⟩
     rw [zu]
     have hl:(first ++args ++caps).length=(c6 ++args' ++fu).size:=by simp [l1,l2,l3]
     by_cases ht:t < (first ++args ++caps).length
     ·have e1:((c6 ++args' ++fu) ++Array.replicate (fn.ntmps - (c6 ++args' ++fu).size) Go.undef).getD t Go.undef=(c6 ++args' ++fu).getD t Go.undef:=by
       have ht':t < (c6 ++args' ++fu).size:=by omega
       simp only [Array.getD_eq_getD_getElem?]
       rw [Array.getElem?_append_left ht']
      rw [e1]
      have key: ∀(p:ai) (p':Array Value) (q:ai) (q':Array Value),p.length=p'.size->(∀j,RV fm w X μ (p.getD j .undef) (p'.getD j Go.undef))->
        (∀j,RV fm w X μ (q.getD j .undef) (q'.getD j Go.undef))->∀j,RV fm w X μ ((p ++q).getD j .undef) ((p' ++q').getD j Go.undef):=by
       intro p p' q q' hl h1 h2 j
       simp only [bc,Array.getD_eq_getD_getElem?,List.getElem?_append,Array.getElem?_append]
       by_cases hj:j < p.length
       ·rw [if_pos hj,if_pos aa]; simpa using h1 j
       ·rw [if_neg hj,if_neg aa,hl]; simpa using h2 (j - p'.size)
      exact key _ _ _ _ (by simp [l1,l2]) (key _ _ _ _ l1 r1 r2) r3 t
     ·have:(first ++args ++caps).getD t .undef= .undef:=by rw [bc,cM aa]; rfl
      rw [this]; exact .undef _
    intro b k cs
    obtain ⟨e,a',w',μ',he,Gw,ho⟩:=Oh wx hdc m (fun k hk=>ih k aa) [.code F.body] _ sP σ σ1 hr w μ
     { tmps:=(c6 ++args' ++fu) ++Array.replicate (fn.ntmps - (c6 ++args' ++fu).size) Go.undef,defers:= [] } [.code c] (.code TA .nil) ⟨tY,hS,hX,hinit⟩ b k cs
    obtain ⟨cv,vq,hrv2⟩:=Oi (P:=P) ho.rs ho.rf sG V3
    refine ⟨e,a',w',?_,Gw⟩
    have qj:a'.defers= []/\∃v,(results fn a'.tmps).run P w'= .ok v w'/\∃cv μ',Ending.returned v= .returned cv/\RV fm w' X μ' rv cv/\RS (fm:=fm) σ1 w' X μ'/\Ext w μ w' μ':=
     ⟨ho.defers,cv,vq,cv,μ',rfl,hrv2,ho.rs,ho.ext⟩
    rcases he with rfl | rfl
    ·exact qj
    ·exact qj
def acall (ip:Nat->Option au) (G:Nat->ai) (n:Nat) (id:Nat) (args:ai):Option (AV×ag):=dd ip (run ip G n) (.fn id [] []) args .empty
theorem HP (wx: ∀g,ay (G g)=true) {dc:List a8->Array Oper->Bool} (hdc:yz P fm gm G ip dc) (hP:Aq P fm gm ip dc)
  {n id:Nat} {args:ai} {r:AV} {σ1:ag} (h:acall ip G n id args=some (r,σ1)) {f':FuncId} (hf:fm id=some f') {w:World} (tY:eM fm gm G w (fun _=>False) Mu.none)
  {args':Array Value} (hl:args.length=args'.size) (hr: ∀j,RV fm w (fun _=>False) Mu.none (args.getD j .undef) (args'.getD j Go.undef)) :
  Calls P f' args' w fun e w'=>∃cv μ',e= .returned cv/\RV fm w' (fun _=>False) μ' r cv/\Below w.heap.size w w':=by
 have:=(Of wx hdc hP (n+1) n aa (fun _=>False) Mu.none w .empty σ1 id [] args [] r h tY Hv (fun _ hh=>hh.elim) f' #[] args' #[] hf rfl hl rfl
  (fun j=>by simpa using RV.undef _) hr (fun j=>by simpa using RV.undef _)).2
 have e:(#[] ++args' ++ #[] :Array Value)=args':=by simp
 rw [e] at this
 exact Calls.mono this (by rintro e w' ⟨cv,μ',rfl,h2,h3,h4⟩; exact ⟨cv,μ',rfl,h2,uq h4⟩)
end
end Go.Ab
