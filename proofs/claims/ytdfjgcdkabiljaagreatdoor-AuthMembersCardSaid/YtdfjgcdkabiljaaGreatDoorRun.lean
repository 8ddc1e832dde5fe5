/- A call that the abstract machine answers is answered so by the model, and nothing old turns. Conditions: none. -/
import Derived.Test.YtdfjgcdkabiljaaGreatDoorMach
import Derived.Laws.CopyRow
import Derived.Deep.AppendSrc
import Derived.Deep.Upon
import Derived.Laws.MakeOwn
import Derived.Lib.MakeNoZero
import Derived.Lib.UnsafeStr
set_option linter.unusedVariables false
set_option linter.unusedSimpArgs false
set_option linter.defProp false
set_option linter.unnecessarySimpa false
namespace Go.Ab
theorem erL_map: ∀l:List AV,erL l=l.map AV.er
 | []=>rfl
 | v ::r=>by simp [erL,erL_map r]
mutual
theorem er_closed: ∀v:AV,v.er.closed=v.closed
 | .vsl els _=>by simp [AV.er,AV.closed,erL_closed els]
 | .nils | .e0=>by simp [AV.er,AV.closed,closedL]
 | .agg cs=>by simp [AV.er,AV.closed,erL_closed cs]
 | .tup cs=>by simp [AV.er,AV.closed,erL_closed cs]
 | .vptr cs off=>by simp [AV.er,AV.closed,erL_closed cs]
 | .fn f a c=>by simp [AV.er,AV.closed,erL_closed a,erL_closed c]
 | .undef | .bool _ | .int _ _ | .str _ | .lit _ | .ptr _ _ | .sl .. =>by simp [AV.er,AV.closed]
theorem erL_closed: ∀l:List AV,closedL (erL l)=closedL l
 | []=>rfl
 | v ::r=>by simp [erL,closedL,er_closed v,erL_closed r]
end
mutual
theorem er_flat: ∀v:AV,v.er.flat=v.flat
 | .vsl els _=>by cases els <;> simp [AV.er,AV.flat,erL]
 | .nils | .e0=>by simp [AV.er,AV.flat]
 | .agg cs=>by simp [AV.er,AV.flat,erL_flatL cs]
 | .tup cs=>by simp [AV.er,AV.flat,erL_flatL cs]
 | .vptr cs off=>by simp [AV.er,AV.flat]
 | .fn f a c=>by simp [AV.er,AV.flat,erL_flatL a,erL_flatL c]
 | .undef | .bool _ | .int _ _ | .str _ | .lit _ | .ptr _ _ | .sl .. =>by simp [AV.er,AV.flat]
theorem erL_flatL: ∀l:List AV,flatL (erL l)=flatL l
 | []=>rfl
 | v ::r=>by simp [erL,flatL,er_flat v,erL_flatL r]
end
mutual
theorem er_er: ∀v:AV,v.er.er=v.er
 | .vsl els _=>by simp [AV.er,erL_erL els]
 | .nils | .e0=>by simp [AV.er,erL]
 | .agg cs=>by simp [AV.er,erL_erL cs]
 | .tup cs=>by simp [AV.er,erL_erL cs]
 | .vptr cs off=>by simp [AV.er,erL_erL cs]
 | .fn f a c=>by simp [AV.er,erL_erL a,erL_erL c]
 | .undef | .bool _ | .int _ _ | .str _ | .lit _ | .ptr _ _ | .sl .. =>by simp [AV.er]
theorem erL_erL: ∀l:List AV,erL (erL l)=erL l
 | []=>rfl
 | v ::r=>by simp [erL,er_er v,erL_erL r]
end
end Go.Ab
namespace Go.Ab
open Go.RowKit
section
variable {P:Program} {fm gm:Nat→Option Nat} {G:Nat→List AV}
variable {w:World} {X:Nat→Prop} {μ:Mu} {σ:Store}
theorem alloc_get (σ:Store) (cs:List AV) (b:Nat):(σ.alloc cs).get b=if b=σ.next then some (.own cs) else σ.get b:=by
 simp only [Store.alloc,Store.get,look_cons]
 by_cases h:σ.next=b
 ·rw [if_pos h,if_pos h.symm]
 ·rw [if_neg h,if_neg (fun e=>h e.symm)]
theorem set_get (σ:Store) (b b':Nat) (x:Blk):(σ.set b x).get b'=if b'=b then some x else σ.get b':=by
 simp only [Store.set,Store.get,look_cons]
 by_cases h:b=b'
 ·rw [if_pos h,if_pos h.symm]
 ·rw [if_neg h,if_neg (fun e=>h e.symm)]
def Mu.bind (μ:Mu) (b:Nat) (l:Loc):Mu:=fun b'=>if b'=b then l else μ b'
theorem heap_push_lt (w:World) (o:Obj) {k:Nat} (h:k < w.heap.size):(w.heap.push o)[k]? =w.heap[k]? :=by
 rw [Array.getElem?_push,if_neg (Nat.ne_of_lt h)]
theorem alloc_rs (hS:RS (fm:=fm) σ w X μ) (hX: ∀b,X b→b < w.heap.size) {cs:List AV} {arr:Array Value} (e:TypeId) (hl:cs.length≤arr.size)
  (hr: ∀j,j < cs.length→RV fm w X μ (cs.getD j .undef) (arr.getD j Go.undef)) :
  Ext w μ (w.alloc (.cells arr e)) (μ.bind σ.next (.at w.heap.size 0 true))∧RS (fm:=fm) (σ.alloc cs) (w.alloc (.cells arr e)) X (μ.bind σ.next (.at w.heap.size 0 true)):=by
 have hun:μ σ.next= .unborn:=by
  apply hS.born
  cases h:σ.get σ.next with
  | none=>rfl
  | some x=>exact absurd (hS.lim _ _ h) (Nat.lt_irrefl _)
 have hext:Ext w μ (w.alloc (.cells arr e)) (μ.bind σ.next (.at w.heap.size 0 true)):=by
  refine ⟨rfl,rfl,rfl,by simp,fun blk hb _=>heap_push_lt w _ hb,fun blk ar el fz hb=>⟨ar,fz,?_,rfl⟩,fun b blk base hm=> ?_,fun b blk base o hm=> ?_,fun b hm=> ?_⟩
  ·have hlt:blk < w.heap.size:=by
    rcases Nat.lt_or_ge blk w.heap.size with h' | h'
    ·exact h'
    ·simp [Array.getElem?_eq_none h'] at hb
   show (w.heap.push _)[blk]? =_
   rw [heap_push_lt w _ hlt]; exact hb
  ·by_cases h:b=σ.next
   ·subst h; simp [Mu.bind] at hm; right; omega
   ·simp [Mu.bind,h] at hm; exact .inl ⟨b,base,hm⟩
  ·have h:b≠σ.next:=by rintro rfl; rw [hun] at hm; simp at hm
   right; exact ⟨o,by simp [Mu.bind,h,hm]⟩
  ·have h:b≠σ.next:=by rintro rfl; rw [hun] at hm; simp at hm
   simp [Mu.bind,h,hm]
 refine ⟨hext,?_⟩
 refine ⟨fun b blk base o hm=> ?_,fun b blk base hm=> ?_,fun b blk base hm=> ?_,fun b b' blk base base' hm hm'=> ?_,fun b blk base o hm=> ?_,fun b hb=> ?_,fun b x hb=> ?_,fun b hb=> ?_,fun b hm=> ?_,hS.tys.step (fun _ _ h=>mem_push (fun _=>by simp) h) (Nat.le_succ _) (fun b _ _ o hb _ h=>⟨o,by simpa [Mu.bind,Nat.ne_of_lt hb] using h⟩) hext⟩
 ·by_cases h:b=σ.next
  ·simp [Mu.bind,h] at hm; simp; omega
  ·simp [Mu.bind,h] at hm; have:=hS.lt b blk base o hm; simp; omega
 ·by_cases h:b=σ.next
  ·simp [Mu.bind,h] at hm
   intro hx
   have:=hX _ hx
   omega
  ·simp [Mu.bind,h] at hm; exact hS.far b blk base hm
 ·by_cases h:b=σ.next
  ·simp [Mu.bind,h] at hm
  ·simp [Mu.bind,h] at hm
   exact av_ext hext (hS.lt b blk base false hm) (hS.frz b blk base hm)
 ·by_cases h:b=σ.next <;> by_cases h':b'=σ.next
  ·rw [h,h']
  ·simp [Mu.bind,h,h'] at hm hm'; have:=hS.lt b' blk base' true hm'; omega
  ·simp [Mu.bind,h,h'] at hm hm'; have:=hS.lt b blk base true hm; omega
  ·simp [Mu.bind,h,h'] at hm hm'; exact hS.inj b b' blk base base' hm hm'
 ·by_cases h:b=σ.next
  ·simp [Mu.bind,h] at hm
   obtain ⟨rfl,rfl,rfl⟩:=hm
   refine ⟨cs,arr,e,by rw [alloc_get,if_pos h]; rfl,by simp [World.alloc, -World.alloc_eq],by omega,fun j hj=> ?_⟩
   rw [Nat.zero_add]
   exact (hr j hj).ext hext
  ·have hm':μ b= .at blk base o:=by simpa [Mu.bind,h] using hm
   obtain ⟨cs',arr',e',h1,h2,h3,h4⟩:=hS.cells b blk base o hm'
   refine ⟨cs',arr',e',by rw [alloc_get,if_neg h]; exact h1,?_,h3,fun j hj=>(h4 j hj).ext hext⟩
   show (w.heap.push _)[blk]? =_
   rw [heap_push_lt w _ (hS.lt b blk base o hm')]; exact h2
 ·rw [alloc_get] at hb
  by_cases h:b=σ.next
  ·rw [if_pos h] at hb; simp at hb
  ·rw [if_neg h] at hb; simp [Mu.bind,h,hS.born b hb]
 ·rw [alloc_get] at hb
  show b < σ.next+1
  by_cases h:b=σ.next
  ·omega
  ·rw [if_neg h] at hb; have:=hS.lim b x hb; omega
 ·rw [alloc_get] at hb
  by_cases h:b=σ.next
  ·rw [if_pos h] at hb; simp at hb
  ·rw [if_neg h] at hb; simp [Mu.bind,h,hS.gone b hb]
 ·by_cases h:b=σ.next
  ·simp [Mu.bind,h] at hm
  ·have hm':μ b= .dead:=by simpa [Mu.bind,h] using hm
   have:=hS.dead b hm'
   simp only [Store.cells,alloc_get,if_neg h] at this ⊢
   exact this
theorem setRow_ext {b blk base:Nat} (hm:μ b= .at blk base true) {arr arr':Array Value} {e:TypeId} (hrow:w.heap[blk]? =some (.cells arr e (0,0)))
  (hsz:arr'.size=arr.size):Ext w μ (w.setRow blk arr') μ:=by
 refine ⟨rfl,rfl,rfl,by simp,fun k hk hn=> ?_,fun k ar el fz hk=> ?_,fun b blk base hm=> .inl ⟨b,base,hm⟩,fun b blk base o hm=> .inr ⟨o,hm⟩,fun b hm=>hm⟩
 ·have:k≠blk:=by rintro rfl; exact hn ⟨b,base,hm⟩
  exact setRow_other w blk k arr' this
 ·by_cases h:k=blk
  ·subst h
   rw [hrow] at hk
   simp only [Option.some.injEq,Obj.cells.injEq] at hk
   obtain ⟨rfl,rfl,rfl⟩:=hk
   exact ⟨arr',(0,0),setRow_heap w k arr arr' e (0,0) hrow,hsz⟩
  ·exact ⟨ar,fz,by rw [setRow_other w blk k arr' h]; exact hk,rfl⟩
theorem setRow_rs (hS:RS (fm:=fm) σ w X μ) {b blk base:Nat} (hm:μ b= .at blk base true) {arr arr':Array Value} {e:TypeId} (hrow:w.heap[blk]? =some (.cells arr e (0,0)))
  (hsz:arr'.size=arr.size) {cs':List AV} (hl:base+cs'.length≤arr'.size) (hr: ∀j,j < cs'.length→RV fm w X μ (cs'.getD j .undef) (arr'.getD (base+j) Go.undef)) :
  RS (fm:=fm) (σ.set b (.own cs')) (w.setRow blk arr') X μ:=by
 have hext:=setRow_ext hm hrow hsz
 refine ⟨fun b' blk' base' o hm'=>by simpa using hS.lt b' blk' base' o hm',hS.far,hS.frz,hS.inj,fun b' blk' base' o hm'=> ?_,fun b' hb=> ?_,fun b' x hb=> ?_,fun b' hb=> ?_,fun b' hm'=> ?_,hS.tys.step (fun _ _ h=>mem_push (fun _=>by simp) h) (Nat.le_refl _) (fun _ _ _ o _ _ h=>⟨o,h⟩) hext⟩
 ·by_cases h:b'=b
  ·subst h
   rw [hm] at hm'
   simp only [Loc.at.injEq] at hm'
   obtain ⟨rfl,rfl,rfl⟩:=hm'
   exact ⟨cs',arr',e,by rw [set_get,if_pos rfl]; rfl,setRow_heap w blk arr arr' e (0,0) hrow,hl,fun j hj=>(hr j hj).ext hext⟩
  ·obtain ⟨cs1,arr1,e1,h1,h2,h3,h4⟩:=hS.cells b' blk' base' o hm'
   have hne:blk'≠blk:=by
    rintro rfl
    cases o with
    | true=>exact h (hS.inj b' b blk' base' base hm' hm)
    | false=>exact hS.frz b' blk' base' hm' (.inr ⟨b,base,hm⟩)
   exact ⟨cs1,arr1,e1,by rw [set_get,if_neg h]; exact h1,by rw [setRow_other w blk blk' arr' hne]; exact h2,h3,fun j hj=>(h4 j hj).ext hext⟩
 ·rw [set_get] at hb
  by_cases h:b'=b
  ·rw [if_pos h] at hb; simp at hb
  ·rw [if_neg h] at hb; exact hS.born b' hb
 ·rw [set_get] at hb
  show b' < σ.next
  by_cases h:b'=b
  ·subst h
   obtain ⟨_,_,_,h1,_⟩:=hS.cells b' blk base true hm
   exact hS.lim b' _ h1
  ·rw [if_neg h] at hb; exact hS.lim b' x hb
 ·rw [set_get] at hb
  by_cases h:b'=b
  ·rw [if_pos h] at hb; simp at hb
  ·rw [if_neg h] at hb; exact hS.gone b' hb
 ·by_cases h:b'=b
  ·subst h; rw [hm] at hm'; simp at hm'
  ·have:=hS.dead b' hm'
   simp only [Store.cells,set_get,if_neg h] at this ⊢
   exact this
theorem kill_rs (hS:RS (fm:=fm) σ w X μ) (b:Nat) (hb:b < σ.next):Ext w μ w (μ.bind b .dead)∧RS (fm:=fm) (σ.set b .dead) w X (μ.bind b .dead):=by
 have hext:Ext w μ w (μ.bind b .dead):=by
  refine ⟨rfl,rfl,rfl,Nat.le_refl _,fun _ _ _=>rfl,fun _ ar _ fz h=>⟨ar,fz,h,rfl⟩,fun b' blk base hm=> ?_,fun b' blk base o hm=> ?_,fun b' hm=> ?_⟩
  ·by_cases h:b'=b
   ·simp [Mu.bind,h] at hm
   ·simp [Mu.bind,h] at hm; exact .inl ⟨b',base,hm⟩
  ·by_cases h:b'=b
   ·left; simp [Mu.bind,h]
   ·right; exact ⟨o,by simp [Mu.bind,h,hm]⟩
  ·by_cases h:b'=b
   ·simp [Mu.bind,h]
   ·simp [Mu.bind,h,hm]
 have back: ∀b' blk base o,(μ.bind b .dead) b'= .at blk base o→b'≠b∧μ b'= .at blk base o:=by
  intro b' blk base o hm
  by_cases h:b'=b
  ·simp [Mu.bind,h] at hm
  ·exact ⟨h,by simpa [Mu.bind,h] using hm⟩
 refine ⟨hext,?_⟩
 refine ⟨fun b' blk base o hm=>hS.lt b' blk base o (back _ _ _ _ hm).2,fun b' blk base hm=>hS.far b' blk base (back _ _ _ _ hm).2,
  fun b' blk base hm=>av_ext hext (hS.lt b' blk base false (back _ _ _ _ hm).2) (hS.frz b' blk base (back _ _ _ _ hm).2),
  fun b' b'' blk base base' hm hm'=>hS.inj b' b'' blk base base' (back _ _ _ _ hm).2 (back _ _ _ _ hm').2,fun b' blk base o hm=> ?_,fun b' h=> ?_,fun b' x h=> ?_,fun b' h=> ?_,fun b' hm=> ?_,hS.tys.step (fun _ _ h=>mem_push (fun _=>by simp) h) (Nat.le_refl _) (fun _ _ _ o _ _ h=>⟨o,(back _ _ _ _ h).2⟩) hext⟩
 ·obtain ⟨hne,hm'⟩:=back _ _ _ _ hm
  obtain ⟨cs1,arr1,e1,h1,h2,h3,h4⟩:=hS.cells b' blk base o hm'
  exact ⟨cs1,arr1,e1,by rw [set_get,if_neg hne]; exact h1,h2,h3,fun j hj=>(h4 j hj).ext hext⟩
 ·rw [set_get] at h
  by_cases hbb:b'=b
  ·rw [if_pos hbb] at h; simp at h
  ·rw [if_neg hbb] at h; simp [Mu.bind,hbb,hS.born b' h]
 ·rw [set_get] at h
  show b' < σ.next
  by_cases hbb:b'=b
  ·omega
  ·rw [if_neg hbb] at h; exact hS.lim b' x h
 ·rw [set_get] at h
  by_cases hbb:b'=b
  ·simp [Mu.bind,hbb]
  ·rw [if_neg hbb] at h; simp [Mu.bind,hbb,hS.gone b' h]
 ·by_cases hbb:b'=b
  ·simp [Store.cells,set_get,hbb]
  ·have hm':μ b'= .dead:=by simpa [Mu.bind,hbb] using hm
   have:=hS.dead b' hm'
   simp only [Store.cells,set_get,if_neg hbb] at this ⊢
   exact this
end
end Go.Ab
namespace Go.Ab
open Go.RowKit
section
variable {P:Program} {fm gm:Nat→Option Nat} {G:Nat→List AV}
variable {w:World} {X:Nat→Prop} {μ:Mu} {σ σ':Store} {N:Nat} {fr:Fr} {a:Act} {o:Oper} {v:AV}
def Eff (P:Program) (fm:Nat→Option Nat) (X:Nat→Prop) (μ:Mu) (o:Oper) (a:Act) (w:World) (v:AV) (σ':Store):Prop:=
 ∃cv w' μ',((execOp a.eval o).run P w= .ok (.value cv) w'∨((execOp a.eval o).run P w= .ok .skip w'∧cv=Go.undef))∧RV fm w' X μ' v cv∧Ext w μ w' μ'∧RS (fm:=fm) σ' w' X μ'
theorem eff_val {s:Sem Value} (h:execOp a.eval o=(do pure (.value (←s)))) (y: ∃cv w' μ',s.run P w= .ok cv w'∧RV fm w' X μ' v cv∧Ext w μ w' μ'∧RS (fm:=fm) σ' w' X μ'):Eff P fm X μ o a w v σ':=by
 obtain ⟨cv,w',μ',h1,h2⟩:=y
 exact ⟨cv,w',μ', .inl (by rw [h]; simp [h1]),h2⟩
theorem pure_eff (g:Given P fm gm G w X μ σ N fr a) (y:OpYld P fm X μ o a w v):Eff P fm X μ o a w v σ:=by
 obtain ⟨cv,w',h1,h2,h3⟩:=y
 exact ⟨cv,w',μ, .inl h1,h2,Ext.of_below h3,g.rs.below h3⟩
theorem e_box (g:Given P fm gm G w X μ σ N fr a) {x:Opd} (hc:opChk P fm gm (.box x) o.op=true) (hk:(val G fr x).known=true) :
  Eff P fm X μ o a w (.ptr σ.next 0) (σ.alloc (val G fr x).cells):=by
 obtain ⟨dst,op,type,pos,after,guard⟩:=o
 simp only [opChk] at hc
 split at hc
 case h_2=>simp at hc
 rename_i el x'
 have rx:=val_rv g.glob g.rf hc
 obtain ⟨hl,hr⟩:=rx.cells hk
 obtain ⟨h1,h2⟩:=alloc_rs g.rs g.out el (Nat.le_of_eq hl) (fun j _=>hr j)
 refine eff_val (s:=Instr.box el (a.eval x')) rfl ⟨_,_,_,rfl,?_,h1,h2⟩
 have:=RV.ptr (fm:=fm) (w:=w.alloc (.cells (a.eval x').cells el)) (X:=X) (μ:=μ.bind σ.next (.at w.heap.size 0 true)) σ.next 0 w.heap.size 0 true (by simp [Mu.bind])
 exact this
theorem e_new (g:Given P fm gm G w X μ σ N fr a) {z:List AV} (hc:opChk P fm gm (.new z) o.op=true):Eff P fm X μ o a w (.ptr σ.next 0) (σ.alloc z):=by
 obtain ⟨dst,op,type,pos,after,guard⟩:=o
 simp only [opChk] at hc
 split at hc
 case h_2=>simp at hc
 rename_i t
 obtain ⟨zv,hz1,hz2⟩:=zeroIs_run (P:=P) (fm:=fm) (w:=w) (X:=X) (μ:=μ) hc
 obtain ⟨h1,h2⟩:=alloc_rs g.rs g.out t (Nat.le_of_eq hz2.1) (fun j _=>hz2.2 j)
 refine eff_val (s:=Instr.alloc t true (.tuple #[])) rfl ⟨_,_,_,?_,RV.ptr σ.next 0 w.heap.size 0 true (by simp [Mu.bind]),h1,h2⟩
 simp [Instr.alloc,hz1,newVar,newRow]
theorem e_buildSl (g:Given P fm gm G w X μ σ N fr a) {sz len:Nat} {z:List AV} {ps:List (Nat×Opd)} (hc:opChk P fm gm (.buildSl true sz len z ps) o.op=true) {cs:List AV}
  (h:fillA ((List.range len).flatMap fun _=>z) (ps.map fun (i,x)=>(i*sz,sz,val G fr x))=some cs) (hz:z.length=sz) :
  Eff P fm X μ o a w (.sl σ.next 0 len sz (some len)) (σ.alloc cs):=by
 obtain ⟨dst,op,type,pos,after,guard⟩:=o
 have hc0:=hc
 simp only [opChk] at hc
 split at hc
 case h_2=>simp at hc
 rename_i t len' ps'
 have hex:execOp a.eval ⟨dst, .buildSlice t len' ps',type,pos,after,guard⟩=(do pure (.value (←Instr.buildSlice t len' (ps'.map fun (i,x)=>(i,a.eval x))))):=by
  simp only [execOp]
 obtain ⟨e,vs',h1,h2,h3⟩:=buildSl_run (w:=w) (X:=X) (μ:=μ) g.glob g.rf hc0 hz h
 have hlen:cs.length=len*sz:=by rw [fillA_length _ _ _ h,rep_length,hz]
 obtain ⟨k1,k2⟩:=alloc_rs g.rs g.out e (Nat.le_of_eq h2.1) (fun j _=>h2.2 j)
 refine eff_val hex ⟨_,_,_,h1,?_,k1,k2⟩
 have hsz:vs'.size=len*sz:=by rw [←h2.1,hlen]
 exact RV.sl σ.next 0 len sz (some len) w.heap.size 0 len true vs' e (0,0) (by simp [Mu.bind]) (by simp [-World.alloc_eq]) (by omega) (Nat.le_refl _) (.inr rfl)
theorem toArr_getD (l:List Value) (j:Nat):(l.toArray).getD j Go.undef=l.getD j Go.undef:=by simp
theorem seg_getD (l xs:List Value) (off k:Nat) (h:off+xs.length≤l.length) :
  (l.take off ++xs ++l.drop (off+xs.length)).getD k Go.undef=if off≤k∧k < off+xs.length then xs.getD (k - off) Go.undef else l.getD k Go.undef:=by
 simp only [List.getD_eq_getElem?_getD,List.getElem?_append,List.length_take,List.length_append,List.getElem?_take,List.getElem?_drop]
 have hm:min off l.length=off:=by omega
 rw [hm]
 by_cases h1:k < off
 ·rw [if_pos (by omega),if_pos (by omega),if_pos h1,if_neg (by omega)]
 ·by_cases h2:k < off+xs.length
  ·rw [if_pos (by omega),if_neg (by omega),if_pos (by omega)]
  ·rw [if_neg (by omega),if_neg (by omega)]
   congr 2
   omega
theorem all_one {cs:List AV} {vs:List Value} (hl:cs.length=vs.length) (hr: ∀j,RV fm w X μ (cs.getD j .undef) (vs.getD j Go.undef)) (h:cs.all AV.one=true): ∀v∈vs,v.oneCell'=true:=by
 intro v hv
 obtain ⟨j,hj,rfl⟩:=List.getElem_of_mem hv
 have h1:=hr j
 have hj':j < cs.length:=by omega
 simp only [List.getD_eq_getElem?_getD,List.getElem?_eq_getElem hj,List.getElem?_eq_getElem hj',Option.getD_some] at h1
 exact h1.one (List.all_eq_true.1 h _ (List.getElem_mem hj'))
theorem e_store (g:Given P fm gm G w X μ σ N fr a) {n:Nat} {p x:Opd} (hc:opChk P fm gm (.store n p x) o.op=true) {b off:Nat} {cs:List AV} (hp:val G fr p= .ptr b off) (ho:σ.owned b=some cs)
  (hn:(val G fr x).cells.length=n) (hle:off+n≤cs.length) (hone:(val G fr x).cells.all AV.one=true) :
  Eff P fm X μ o a w .undef (σ.set b (.own (splice cs off (val G fr x).cells))):=by
 obtain ⟨dst,op,type,pos,after,guard⟩:=o
 simp only [opChk] at hc
 split at hc
 case h_2=>simp at hc
 rename_i t p' x'
 simp only [Bool.and_eq_true] at hc
 obtain ⟨⟨ht,hp'⟩,hx'⟩:=hc
 have rp:=val_rv g.glob g.rf hp'
 have rx:=val_rv g.glob g.rf hx'
 rw [hp] at rp
 have hkn:(val G fr x).known=true:=by
  cases hv:val G fr x <;> first | rfl | (rw [hv] at hone; simp [AV.cells,AV.one] at hone)
 obtain ⟨hl,hr⟩:=rx.cells hkn
 have hs:=sizeIs_run (P:=P) (w:=w) ht
 generalize hxv:a.eval x'=xv at rx hl hr
 generalize hpv:a.eval p'=pv at rp
 have hget:σ.get b=some (.own cs):=by
  unfold Store.owned at ho
  split at ho <;> simp_all
 cases rp with
 | ptrDead _ _ ad hm=>have:=g.rs.dead b hm; simp [Store.cells,hget] at this
 | ptr _ _ blk base ow hm=>
  obtain ⟨cs',arr,e,h1,h2,h3,h4⟩:=g.rs.cells b blk base ow hm
  rw [hget] at h1
  cases ow with
  | false=>simp at h1
  | true=>
   simp only [if_true,Option.some.injEq,Blk.own.injEq] at h1
   subst h1
   have hvl:xv.cells.toList.length=n:=by simp; omega
   have hone': ∀u∈xv.cells.toList,u.oneCell'=true:=all_one (cs:=(val G fr x).cells) (by simpa using hl) (fun j=>by simpa using hr j) hone
   have hrun:=run_storeCells_at (P:=P) blk (base+off) e xv.cells.toList 0 arr w h2 (by omega) hone'
   simp only [Nat.add_zero] at hrun
   have hsz:(arr.toList.take (base+off) ++xv.cells.toList ++arr.toList.drop (base+off+xv.cells.toList.length)).toArray.size=arr.size:=by simp; omega
   refine ⟨Go.undef,_,μ, .inr ⟨?_,rfl⟩, .undef _,setRow_ext hm h2 hsz,setRow_rs g.rs hm h2 hsz ?_ ?_⟩
   ·simp only [execOp,hpv,hxv,Instr.storeAt,Instr.sureAddr,storeVar,Sem.run_bind,Sem.run_pure,Result.andThen_ok,hs,Sem.run_ite]
    rw [if_neg (by simp; omega)]
    simp [hrun]
   ·rw [splice_length _ _ _ (by omega),hsz]; omega
   ·intro j hj
    rw [splice_length _ _ _ (by omega)] at hj
    rw [splice_getD _ _ _ _ (by omega),toArr_getD,seg_getD _ _ _ _ (by simp; omega)]
    by_cases hk:off≤j∧j < off+(val G fr x).cells.length
    ·rw [if_pos hk,if_pos (by omega)]
     have e1:base+j - (base+off)=j - off:=by omega
     rw [e1]
     simpa using hr (j - off)
    ·rw [if_neg hk,if_neg (by omega)]
     simpa using h4 j hj
end
end Go.Ab
namespace Go.Ab
open Go.RowKit
section
variable {P:Program} {fm gm:Nat→Option Nat} {G:Nat→List AV}
variable {w:World} {X:Nat→Prop} {μ:Mu} {σ σ':Store}
theorem zeroCells_size (z:Array Value) (n:Nat):(Builtin.zeroCells z n).size=n*z.size:=by simp [Builtin.zeroCells]
theorem below_drew (w:World):Below w.heap.size w w.drew:=(Below.refl w.heap.size w).drew
theorem row_values {cs:List AV} {blk base:Nat} (h: ∀j,j < cs.length→∃u,w.cell? ⟨blk,base+j,none⟩=some u∧RV fm w X μ (cs.getD j .undef) u) :
  ∃vs:List Value,vs.length=cs.length∧(∀j u,vs[j]? =some u→w.cell? ⟨blk,base+j,none⟩=some u)∧∀j,RV fm w X μ (cs.getD j .undef) (vs.getD j Go.undef):=by
 let f:Nat→Value:=fun j=>(w.cell? ⟨blk,base+j,none⟩).getD Go.undef
 refine ⟨(List.range cs.length).map f,by simp,fun j u hu=> ?_,fun j=> ?_⟩
 ·have hj:j < cs.length:=by
   have:=(List.getElem?_eq_some_iff.1 hu).1
   simpa using this
  obtain ⟨u',hu',_⟩:=h j hj
  simp [hj,f,hu'] at hu
  rw [hu',hu]
 ·by_cases hj:j < cs.length
  ·obtain ⟨u,hu,hr⟩:=h j hj
   have:((List.range cs.length).map f).getD j Go.undef=u:=by simp [hj,f,hu]
   rw [this]; exact hr
  ·have:cs.getD j .undef= .undef:=by rw [List.getD_eq_getElem?_getD,List.getElem?_eq_none (by omega)]; rfl
   rw [this]; exact .undef _
structure SrcRV (P:Program) (fm:Nat→Option Nat) (w:World) (X:Nat→Prop) (μ:Mu) (sz:Nat) (tx:TypeId) (x:Value) (n:Nat) (new:List AV):Prop where
 len:new.length=n*sz
 src: ∃news:List Value,Src P sz tx x n news w∧news.length=new.length∧∀j,RV fm w X μ (new.getD j .undef) (news.getD j Go.undef)
theorem src_slice (hS:RS (fm:=fm) σ w X μ) {sz:Nat} {x:AV} {xv:Value} (hx:RV fm w X μ x xv) {new:List AV} (h:rowOf σ sz x=some new) {n:Nat} (hn:lenOf x=some n)
  (hone:new.all AV.one=true) {tx e':TypeId} (hk:P.underlying tx=some (.slice e')):SrcRV P fm w X μ sz tx xv n new:=by
 obtain ⟨ad,len,c,rfl,hl,hcl,hc⟩:=rowOf_rv hS hx h
 rw [hn] at hl
 simp only [Option.some.injEq] at hl
 subst hl
 refine ⟨hcl,?_⟩
 rcases hc with h0 | ⟨blk,base,rfl,hcell⟩
 ·subst h0
  have hnil:new= []:=List.eq_nil_of_length_eq_zero (by omega)
  subst hnil
  refine ⟨[],⟨.inl ⟨e',hk⟩,fun _=>rfl,?_,?_,by simp,fun _ hh=>by cases hh⟩,rfl,fun j=> .undef _⟩
  ·cases ad <;> simp [Builtin.firstCells,loadCells,loadCellsFrom]
  ·cases ad <;> simp [Builtin.firstCells,loadCells,loadCellsFrom]
 ·obtain ⟨vs,h1,h2,h3⟩:=row_values hcell
  refine ⟨vs,Src.ofSlice w hk ⟨blk,base,none⟩ n c vs (by omega) (fun j u hu=> ?_) (all_one (by omega) h3 hone),h1,h3⟩
  rw [addr_add]; exact h2 j u hu
theorem src_string {s:ByteArray} {tx:TypeId} (hk:P.underlying tx=some .string):SrcRV P fm w X μ 1 tx (.string s) s.size (u8cells s.data.toList):=by
 refine ⟨by simp [u8cells],byteCells s,Src.ofString w hk s,by simp [u8cells,byteCells],fun j=> ?_⟩
 by_cases hj:j < s.size
 ·have e1:(u8cells s.data.toList).getD j .undef= .int .u8 (s.data.toList.getD j 0).toNat:=by simp [u8cells,hj]
  have e2:(byteCells s).getD j Go.undef= .int .u8 (s.data.toList.getD j 0).toNat:=by simp [byteCells,hj]
  rw [e1,e2]; exact .int _ _
 ·have e1:(u8cells s.data.toList).getD j .undef= .undef:=by
   rw [List.getD_eq_getElem?_getD,List.getElem?_eq_none (by simp [u8cells]; omega)]; rfl
  rw [e1]; exact .undef _
theorem grow_rs (hS:RS (fm:=fm) σ w X μ) (hX: ∀b,X b→b < w.heap.size) {old new:List AV} {olds news:List Value} (ho:old.length=olds.length) (hn:new.length=news.length)
  (hor: ∀j,RV fm w X μ (old.getD j .undef) (olds.getD j Go.undef)) (hnr: ∀j,RV fm w X μ (new.getD j .undef) (news.getD j Go.undef)) (rest:Array Value) (e:TypeId) :
  let w':=w.drew.alloc (.cells ((olds ++news).toArray ++rest) e)
  let μ':=μ.bind σ.next (.at w.heap.size 0 true)
  Ext w μ w' μ'∧RS (fm:=fm) (σ.alloc (old ++new)) w' X μ':=by
 have hb:=below_drew w
 have hS':=hS.below hb
 have h:=alloc_rs (w:=w.drew) hS' hX (cs:=old ++new) (arr:=(olds ++news).toArray ++rest) e (by simp; omega) (fun j hj=>by
  have e1:((olds ++news).toArray ++rest).getD j Go.undef=(olds ++news).getD j Go.undef:=by
   have:j < (olds ++news).length:=by simp at hj ⊢; omega
   simp [Array.getElem?_append]
   simp at this
   rw [if_pos (by omega)]
  rw [e1]
  simp only [List.getD_eq_getElem?_getD,List.getElem?_append,ho]
  by_cases hjo:j < olds.length
  ·rw [if_pos hjo,if_pos hjo]; exact (hor j).bel hb
  ·rw [if_neg hjo,if_neg hjo]; exact (hnr _).bel hb)
 exact ⟨(Ext.of_below hb).trans h.1,h.2⟩
theorem inplace_rs (hS:RS (fm:=fm) σ w X μ) {b blk base:Nat} (hm:μ b= .at blk base true) {cs:List AV} (hget:σ.get b=some (.own cs)) {arr arr2:Array Value} {e:TypeId}
  (hrow:w.heap[blk]? =some (.cells arr e (0,0))) (hsz:arr2.size=arr.size) {cs':List AV} {off:Nat} (hl:base+off+cs'.length≤arr2.size)
  (hr: ∀j,j < cs'.length→RV fm w X μ (cs'.getD j .undef) (arr2.getD (base+off+j) Go.undef)) {len c sz:Nat} (hlc:len≤c) (hroom:base+off+c*sz≤arr.size) :
  RV fm (w.setRow blk arr2) X ((μ.bind b .dead).bind σ.next (.at blk (base+off) true)) (.sl σ.next 0 len sz none) (.slice (some ⟨blk,base+off,none⟩) len c)∧
  Ext w μ (w.setRow blk arr2) ((μ.bind b .dead).bind σ.next (.at blk (base+off) true))∧
  RS (fm:=fm) ((σ.set b .dead).alloc cs') (w.setRow blk arr2) X ((μ.bind b .dead).bind σ.next (.at blk (base+off) true)):=by
 have hbn:b < σ.next:=hS.lim b _ hget
 have hun:μ σ.next= .unborn:=by
  apply hS.born
  cases h:σ.get σ.next with
  | none=>rfl
  | some x=>exact absurd (hS.lim _ _ h) (Nat.lt_irrefl _)
 have hrow2:(w.setRow blk arr2).heap[blk]? =some (.cells arr2 e (0,0)):=setRow_heap w blk arr arr2 e (0,0) hrow
 have hext:Ext w μ (w.setRow blk arr2) ((μ.bind b .dead).bind σ.next (.at blk (base+off) true)):=by
  have x1:=setRow_ext (w:=w) (arr':=arr2) hm hrow hsz
  refine ⟨x1.os,x1.tape,x1.output,x1.size,x1.keep,x1.rows,fun b' blk' base' hm'=> ?_,fun b' blk' base' o hm'=> ?_,fun b' hm'=> ?_⟩
  ·by_cases h1:b'=σ.next
   ·simp [Mu.bind,h1] at hm'
    obtain ⟨rfl,_⟩:=hm'
    exact .inl ⟨b,base,hm⟩
   ·by_cases h2:b'=b
    ·have:b≠σ.next:=by omega
     simp [Mu.bind,h2,this] at hm'
    ·simp [Mu.bind,h1,h2] at hm'; exact .inl ⟨b',base',hm'⟩
  ·have h1:b'≠σ.next:=by rintro rfl; rw [hun] at hm'; simp at hm'
   by_cases h2:b'=b
   ·left; subst h2; simp [Mu.bind,h1]
   ·right; exact ⟨o,by simp [Mu.bind,h1,h2,hm']⟩
  ·have h1:b'≠σ.next:=by rintro rfl; rw [hun] at hm'; simp at hm'
   by_cases h2:b'=b
   ·subst h2; simp [Mu.bind,h1]
   ·simp [Mu.bind,h1,h2,hm']
 have back: ∀b' blk' base' o,((μ.bind b .dead).bind σ.next (.at blk (base+off) true)) b'= .at blk' base' o→
   (b'=σ.next∧blk'=blk∧base'=base+off∧o=true)∨(b'≠σ.next∧b'≠b∧μ b'= .at blk' base' o):=by
  intro b' blk' base' o hm'
  by_cases h1:b'=σ.next
  ·simp [Mu.bind,h1] at hm'; exact .inl ⟨h1,hm'.1.symm,hm'.2.1.symm,hm'.2.2⟩
  ·by_cases h2:b'=b
   ·have:b≠σ.next:=by omega
    simp [Mu.bind,h2,this] at hm'
   ·right; exact ⟨h1,h2,by simpa [Mu.bind,h1,h2] using hm'⟩
 have hgets: ∀b',((σ.set b .dead).alloc cs').get b'=if b'=σ.next then some (.own cs') else if b'=b then some .dead else σ.get b':=by
  intro b'
  rw [alloc_get]
  show (if b'=σ.next then _ else _)=_
  by_cases h1:b'=σ.next
  ·rw [if_pos h1,if_pos h1]
  ·rw [if_neg h1,if_neg h1,set_get]
 have hnx:b≠σ.next:=by omega
 refine ⟨?_,hext,?_⟩
 ·have:=RV.sl (fm:=fm) (w:=w.setRow blk arr2) (X:=X) (μ:=(μ.bind b .dead).bind σ.next (.at blk (base+off) true)) σ.next 0 len sz none blk (base+off) c true arr2 e (0,0)
   (by simp [Mu.bind]) hrow2 (by omega) hlc (.inl rfl)
  exact this
 ·refine ⟨fun b' blk' base' o hm'=> ?_,fun b' blk' base' hm'=> ?_,fun b' blk' base' hm'=> ?_,fun b1 b2 blk' base1 base2 h1 h2=> ?_,fun b' blk' base' o hm'=> ?_,fun b' hb=> ?_,fun b' x hb=> ?_,fun b' hb=> ?_,fun b' hm'=> ?_,hS.tys.step (fun _ _ h=>mem_push (fun _=>by simp) (mem_push (fun _=>by simp) h)) (Nat.le_succ _) (fun b' _ _ o hb _ h=>⟨o,(back _ _ _ _ h).elim (fun k=>absurd k.1 (by omega)) (fun k=>k.2.2)⟩) hext⟩
  ·rcases back _ _ _ _ hm' with ⟨_,rfl,_,_⟩ | ⟨_,_,h⟩
   ·simpa using hS.lt b blk' base true hm
   ·simpa using hS.lt b' blk' base' o h
  ·rcases back _ _ _ _ hm' with ⟨_,rfl,_,_⟩ | ⟨_,_,h⟩
   ·exact hS.far b blk' base hm
   ·exact hS.far b' blk' base' h
  ·rcases back _ _ _ _ hm' with ⟨_,_,_,h⟩ | ⟨_,_,h⟩
   ·simp at h
   ·exact av_ext hext (hS.lt b' blk' base' false h) (hS.frz b' blk' base' h)
  ·rcases back _ _ _ _ h1 with ⟨r1,q1,_,_⟩ | ⟨n1,m1,k1⟩ <;> rcases back _ _ _ _ h2 with ⟨r2,q2,_,_⟩ | ⟨n2,m2,k2⟩
   ·rw [r1,r2]
   ·subst q1; exact absurd (hS.inj b2 b blk' base2 base k2 hm) m2
   ·subst q2; exact absurd (hS.inj b1 b blk' base1 base k1 hm) m1
   ·exact hS.inj b1 b2 blk' base1 base2 k1 k2
  ·rcases back _ _ _ _ hm' with ⟨h1,rfl,rfl,rfl⟩ | ⟨h1,h2,h⟩
   ·exact ⟨cs',arr2,e,by rw [hgets,if_pos h1]; rfl,hrow2,hl,fun j hj=>(hr j hj).ext hext⟩
   ·obtain ⟨cs1,arr1,e1,q1,q2,q3,q4⟩:=hS.cells b' blk' base' o h
    have hne:blk'≠blk:=by
     rintro rfl
     cases o with
     | true=>exact h2 (hS.inj b' b blk' base' base h hm)
     | false=>exact hS.frz b' blk' base' h (.inr ⟨b,base,hm⟩)
    exact ⟨cs1,arr1,e1,by rw [hgets,if_neg h1,if_neg h2]; exact q1,by rw [setRow_other w blk blk' arr2 hne]; exact q2,q3,fun j hj=>(q4 j hj).ext hext⟩
  ·rw [hgets] at hb
   by_cases h1:b'=σ.next
   ·rw [if_pos h1] at hb; simp at hb
   ·rw [if_neg h1] at hb
    by_cases h2:b'=b
    ·rw [if_pos h2] at hb; simp at hb
    ·rw [if_neg h2] at hb; simp [Mu.bind,h1,h2,hS.born b' hb]
  ·rw [hgets] at hb
   show b' < σ.next+1
   by_cases h1:b'=σ.next
   ·omega
   ·rw [if_neg h1] at hb
    by_cases h2:b'=b
    ·omega
    ·rw [if_neg h2] at hb; have:=hS.lim b' x hb; omega
  ·rw [hgets] at hb
   by_cases h1:b'=σ.next
   ·rw [if_pos h1] at hb; simp at hb
   ·rw [if_neg h1] at hb
    by_cases h2:b'=b
    ·subst h2; simp [Mu.bind,h1]
    ·rw [if_neg h2] at hb; simp [Mu.bind,h1,h2,hS.gone b' hb]
  ·by_cases h1:b'=σ.next
   ·simp [Mu.bind,h1] at hm'
   ·by_cases h2:b'=b
    ·simp [Store.cells,hgets,h2,hnx]
    ·have hm2:μ b'= .dead:=by simpa [Mu.bind,h1,h2] using hm'
     have:=hS.dead b' hm2
     simp only [Store.cells,hgets,if_neg h1,if_neg h2] at this ⊢
     exact this
def NewQ (σ:Store) (x:AV) (e:TypeId) (w':World) (μ μ':Mu):Prop:=∀blk base o,μ' σ.next= .at blk base o→
 (base=0∧∃arr fz,w'.heap[blk]? =some (.cells arr e fz))∨∃b off l sz c base0,x= .sl b off l sz c∧μ b= .at blk base0 true∧base=base0+off
theorem newQ_same (hS:RS (fm:=fm) σ w X μ) (x:AV) (e:TypeId) (w':World):NewQ σ x e w' μ μ:=fun blk base o h=>by
 have:μ σ.next= .unborn:=by
  apply hS.born
  cases h:σ.get σ.next with
  | none=>rfl
  | some x=>exact absurd (hS.lim _ _ h) (Nat.lt_irrefl _)
 rw [this] at h; cases h
theorem newQ_bind {x:AV} {e:TypeId} {w':World} {μ μ1:Mu} {k:Nat} {o:Bool} {arr:Array Value} {fz:Nat×Nat} {n:Nat} (hn:n=σ.next) (h:w'.heap[k]? =some (.cells arr e fz)):NewQ σ x e w' μ (μ1.bind n (.at k 0 o)):=fun blk base o' hm=>by
 subst hn
 simp only [Mu.bind,if_true,Loc.at.injEq] at hm
 obtain ⟨rfl,rfl,rfl⟩:=hm
 exact .inl ⟨rfl,_,_,h⟩
theorem append_rv (hS:RS (fm:=fm) σ w X μ) (hX: ∀b,X b→b < w.heap.size) {sz bytes:Nat} {x v:AV} {xv yv:Value} {new:List AV} {n:Nat} (hx:RV fm w X μ x xv)
  {t tx ty e:TypeId} {i:TypeInfo} {z:Value} (ht:P.underlying t=some (.slice e)) (hi:P.info? e=some i) (hz:i.zero=some z) (hsz:i.size=sz) (hby:i.bytes=bytes) (hzs:z.cells.size=sz)
  (hs:SrcRV P fm w X μ sz tx yv n new) (h:appendTo σ sz bytes x new n=some (v,σ')) :
  ∃cv w' μ',(Builtin.append_ #[t,tx] ty #[xv,yv]).run P w= .ok cv w'∧RV fm w' X μ' v cv∧Ext w μ w' μ'∧RS (fm:=fm) σ' w' X μ'∧NewQ σ x e w' μ μ':=by
 obtain ⟨hlen,news,hsrc,hnl,hnr⟩:=hs
 subst hsz hby
 unfold appendTo at h
 cases hlo:lenOf x with
 | none=>simp [hlo] at h
 | some len=>
  simp only [hlo] at h
  split at h
  case isFalse=>simp at h
  rename_i hc
  obtain ⟨hs0,hb0,hmax,hnew,hone⟩:=hc
  have hb63:((len+n:Nat):Int)≤9223372036854775807:=by
   have:len+n≤(len+n)*i.bytes:=Nat.le_mul_of_pos_right _ hb0
   unfold maxBytes at hmax
   omega
  have grow: ∀(base:Option Addr) (c:Nat) (old:List AV) (olds:List Value),old.length=olds.length→old.length=len*i.size→(∀j,RV fm w X μ (old.getD j .undef) (olds.getD j Go.undef))→
    (Builtin.firstCells i.size len (.slice base len c)).run P w.drew= .ok olds.toArray w.drew→c < len+n→
    ∃cv w' μ',(Builtin.append_ #[t,tx] ty #[.slice base len c,yv]).run P w= .ok cv w'∧RV fm w' X μ' (.sl σ.next 0 (len+n) i.size none) cv∧Ext w μ w' μ'∧RS (fm:=fm) (σ.alloc (old ++new)) w' X μ'∧NewQ σ x e w' μ μ':=by
   intro base c old olds h1 h2 h3 h4 h5
   have hrun:=run_append_grow_src w t tx ty e i z ht hi hz base len c olds h4 yv n news hsrc h5 hb63 (growslice_fits h5 hmax)
   obtain ⟨k1,k2⟩:=grow_rs hS hX h1 (by omega) h3 hnr (Builtin.zeroCells z.cells (grownCap w (len+n) c e - (len+n))) e
   refine ⟨_,_,_,hrun,?_,k1,k2,newQ_bind rfl (heap_alloc_new w.drew _)⟩
   have hcap:len+n≤grownCap w (len+n) c e:=by simp [grownCap,Question.cut]
   refine RV.sl σ.next 0 (len+n) i.size none w.heap.size 0 (grownCap w (len+n) c e) true _ e (0,0) (by simp [Mu.bind]) (heap_alloc_new w.drew _) ?_ hcap (.inl rfl)
   simp only [Array.size_append,List.size_toArray,List.length_append,zeroCells_size,hzs]
   have e1:olds.length+news.length=(len+n)*i.size:=by rw [Nat.add_mul]; omega
   have e2:(grownCap w (len+n) c e - (len+n))*i.size+(len+n)*i.size=grownCap w (len+n) c e*i.size:=by rw [←Nat.add_mul]; congr 1; omega
   omega
  have none_: ∀(base:Option Addr) (c:Nat),n=0→len≤c→(Builtin.append_ #[t,tx] ty #[.slice base len c,yv]).run P w= .ok (.slice base len c) w:=by
   intro base c h0 hle
   subst h0
   have hn0:news= []:=List.eq_nil_of_length_eq_zero (by omega)
   subst hn0
   exact run_append_nothing w t tx ty e i ht hi base len c hle yv hsrc
  cases x <;> try (simp only [reduceCtorEq] at h; done)
  case e0=>
   simp only [lenOf,Option.some.injEq] at hlo
   subst hlo
   have hxv: ∃base c,xv= .slice base 0 c:=by cases hx; exact ⟨_,_,rfl⟩
   obtain ⟨base,c,rfl⟩:=hxv
   replace h:(if n=0 then some (AV.e0,σ) else none)=some (v,σ'):=h
   split at h
   ·rename_i h0
    simp only [Option.some.injEq,Prod.mk.injEq] at h
    obtain ⟨rfl,rfl⟩:=h
    exact ⟨_,w,μ,none_ base c h0 (Nat.zero_le _),hx,Ext.refl _ _,hS,newQ_same hS _ _ _⟩
   ·simp at h
  case nils=>
   simp only [lenOf,Option.some.injEq] at hlo
   subst hlo
   have hxv: ∃base,xv= .slice base 0 0:=by cases hx; exact ⟨_,rfl⟩
   obtain ⟨base,rfl⟩:=hxv
   replace h:(if n=0 then some (AV.nils,σ) else some (AV.sl σ.next 0 n i.size none,σ.alloc new))=some (v,σ'):=h
   split at h
   ·rename_i h0
    simp only [Option.some.injEq,Prod.mk.injEq] at h
    obtain ⟨rfl,rfl⟩:=h
    exact ⟨_,w,μ,none_ base 0 h0 (Nat.le_refl _),hx,Ext.refl _ _,hS,newQ_same hS _ _ _⟩
   ·rename_i h0
    simp only [Option.some.injEq,Prod.mk.injEq] at h
    obtain ⟨rfl,rfl⟩:=h
    obtain ⟨cv,w',μ',r1,r2,r3,r4,r5⟩:=grow base 0 [] [] rfl (by simp) (fun j=> .undef _) (by cases base <;> simp [Builtin.firstCells,loadCells,loadCellsFrom]) (by omega)
    simp only [Nat.zero_add,List.nil_append] at r2 r4
    exact ⟨cv,w',μ',r1,r2,r3,r4,r5⟩
  case vsl els cap=>
   cases cap <;> try (simp only [reduceCtorEq] at h; done)
   rename_i c
   replace h:(if n=0 then some (.vsl els (some c),σ) else if c=els.length then (match rowOf σ i.size (.vsl els (some c)) with | some old=>some (AV.sl σ.next 0 (len+n) i.size none,σ.alloc (old ++new)) | none=>none) else none)=some (v,σ'):=h
   by_cases hn00:n=0
   ·rw [if_pos hn00] at h
    simp only [Option.some.injEq,Prod.mk.injEq] at h
    obtain ⟨rfl,rfl⟩:=h
    simp only [lenOf,Option.some.injEq] at hlo
    subst hlo
    have hxv: ∃base c',xv= .slice base els.length c'∧els.length≤c':=by
     cases hx with
     | vslEmpty=>exact ⟨_,_,rfl,Nat.zero_le _⟩
     | vslNil=>exact ⟨_,_,rfl,Nat.zero_le _⟩
     | vsl=>exact ⟨_,_,rfl,by assumption⟩
    obtain ⟨base,c',rfl,hle⟩:=hxv
    exact ⟨_,w,μ,none_ base c' hn00 hle,hx,Ext.refl _ _,hS,newQ_same hS _ _ _⟩
   rw [if_neg hn00] at h
   split at h
   case isFalse=>simp at h
   rename_i hcc
   subst hcc
   have hn0:0 < n:=by omega
   simp only [lenOf,Option.some.injEq] at hlo
   subst hlo
   cases hro:rowOf σ i.size (.vsl els (some els.length)) with
   | none=>simp [hro] at h
   | some old=>
    simp only [hro,Option.some.injEq,Prod.mk.injEq] at h
    obtain ⟨rfl,rfl⟩:=h
    obtain ⟨ad,len',c',hxv,hl',hol,hcell⟩:=rowOf_rv hS hx hro
    simp only [lenOf,Option.some.injEq] at hl'
    subst hl'
    subst hxv
    have hcap:c'=els.length:=by
     cases hx with
     | vslEmpty _ _ _ hcap=>
      have h0:0=c':=by simpa using hcap
      exact h0.symm
     | vslNil=>rfl
     | vsl _ _ _ _ _ _ _ _ _ _ _ hcap=>simp at hcap; omega
    subst hcap
    rcases hcell with h0 | ⟨blk,base,rfl,hcell⟩
    ·have hold:old= []:=List.eq_nil_of_length_eq_zero (by rw [hol,h0]; simp)
     subst hold
     obtain ⟨cv,w',μ',r1,r2,r3,r4,r5⟩:=grow ad els.length [] [] rfl (by rw [h0]; simp) (fun j=> .undef _) (by rw [h0]; cases ad <;> simp [Builtin.firstCells,loadCells,loadCellsFrom]) (by omega)
     exact ⟨cv,w',μ',r1,r2,r3,r4,r5⟩
    ·obtain ⟨vs,h1,h2,h3⟩:=row_values hcell
     obtain ⟨cv,w',μ',r1,r2,r3,r4,r5⟩:=grow (some ⟨blk,base,none⟩) els.length old vs h1.symm hol h3
      (run_firstCells_some w.drew i.size els.length _ els.length els.length vs (by omega) (fun j u hu=>by rw [addr_add]; exact h2 j u hu)) (by omega)
     exact ⟨cv,w',μ',r1,r2,r3,r4,r5⟩
  case sl b off len' sz' cap=>
   cases cap
   case some c=>
    replace h:(if n=0 then some (.sl b off len' sz' (some c),σ) else if c=len' then (match rowOf σ i.size (.sl b off len' sz' (some c)) with | some old=>some (AV.sl σ.next 0 (len+n) i.size none,σ.alloc (old ++new)) | none=>none) else none)=some (v,σ'):=h
    by_cases hn00:n=0
    ·rw [if_pos hn00] at h
     simp only [Option.some.injEq,Prod.mk.injEq] at h
     obtain ⟨rfl,rfl⟩:=h
     simp only [lenOf,Option.some.injEq] at hlo
     subst hlo
     have hxv: ∃base c',xv= .slice base len' c'∧len'≤c':=by
      cases hx with
      | sl=>exact ⟨_,_,rfl,by assumption⟩
      | slDead=>exact ⟨_,_,rfl,by assumption⟩
      | slZero=>exact ⟨_,_,rfl,Nat.le_refl _⟩
     obtain ⟨base,c',rfl,hle⟩:=hxv
     exact ⟨_,w,μ,none_ base c' hn00 hle,hx,Ext.refl _ _,hS,newQ_same hS _ _ _⟩
    rw [if_neg hn00] at h
    split at h
    case isFalse=>simp at h
    rename_i hcc
    subst hcc
    have hn0:0 < n:=by omega
    simp only [lenOf,Option.some.injEq] at hlo
    subst hlo
    cases hro:rowOf σ i.size (.sl b off c sz' (some c)) with
    | none=>simp [hro] at h
    | some old=>
     simp only [hro,Option.some.injEq,Prod.mk.injEq] at h
     obtain ⟨rfl,rfl⟩:=h
     obtain ⟨ad,len2,c',hxv,hl',hol,hcell⟩:=rowOf_rv hS hx hro
     simp only [lenOf,Option.some.injEq] at hl'
     subst hl'
     subst hxv
     have hcap:c'=c:=by
      cases hx with
      | sl _ _ _ _ _ _ _ _ _ _ _ _ _ _ _ _ hcap=>simp at hcap; omega
      | slDead _ _ _ _ _ _ _ hl hm=>
       have hd:=hS.dead b hm
       simp [rowOf,hd] at hro
      | slZero=>rfl
     subst hcap
     rcases hcell with h0 | ⟨blk,base,rfl,hcell⟩
     ·have hold:old= []:=List.eq_nil_of_length_eq_zero (by rw [hol,h0]; simp)
      subst hold
      obtain ⟨cv,w',μ',r1,r2,r3,r4,r5⟩:=grow ad c' [] [] rfl (by rw [h0]; simp) (fun j=> .undef _) (by rw [h0]; cases ad <;> simp [Builtin.firstCells,loadCells,loadCellsFrom]) (by omega)
      exact ⟨cv,w',μ',r1,r2,r3,r4,r5⟩
     ·obtain ⟨vs,h1,h2,h3⟩:=row_values hcell
      obtain ⟨cv,w',μ',r1,r2,r3,r4,r5⟩:=grow (some ⟨blk,base,none⟩) c' old vs h1.symm hol h3
       (run_firstCells_some w.drew i.size c' _ c' c' vs (by omega) (fun j u hu=>by rw [addr_add]; exact h2 j u hu)) (by omega)
      exact ⟨cv,w',μ',r1,r2,r3,r4,r5⟩
   replace h:(if sz'=i.size then (match σ.owned b with | some cs=>if n=0 then some (AV.sl b off len' sz' none,σ) else if cs.length=off+len'*i.size then some (AV.sl σ.next 0 (len'+n) i.size none,(σ.set b .dead).alloc (cs.drop off ++new)) else none | none=>none) else none)=some (v,σ'):=h
   split at h
   case isFalse=>simp at h
   rename_i hszz
   subst hszz
   cases how:σ.owned b with
   | none=>simp [how] at h
   | some cs=>
    simp only [how] at h
    simp only [lenOf,Option.some.injEq] at hlo
    subst hlo
    have hget:σ.get b=some (.own cs):=by
     unfold Store.owned at how
     split at how <;> simp_all
    have hbn:b < σ.next:=hS.lim b _ hget
    have hxv: ∃base c,xv= .slice base len' c∧len'≤c:=by
     cases hx with
     | sl=>exact ⟨_,_,rfl,by assumption⟩
     | slDead=>exact ⟨_,_,rfl,by assumption⟩
     | slZero=>exact ⟨_,_,rfl,Nat.le_refl _⟩
    split at h
    ·rename_i h0
     simp only [Option.some.injEq,Prod.mk.injEq] at h
     obtain ⟨rfl,rfl⟩:=h
     obtain ⟨base,c,rfl,hle⟩:=hxv
     exact ⟨_,w,μ,none_ base c h0 hle,hx,Ext.refl _ _,hS,newQ_same hS _ _ _⟩
    ·rename_i h0
     split at h
     case isFalse=>simp at h
     rename_i hend
     simp only [Option.some.injEq,Prod.mk.injEq] at h
     obtain ⟨rfl,rfl⟩:=h
     have hdl:(cs.drop off).length=len'*i.size:=by simp; omega
     obtain ⟨kx,ks⟩:=kill_rs hS b hbn
     have hnext:(σ.set b .dead).next=σ.next:=rfl
     have hgrow2: ∀(base:Option Addr) (c:Nat) (olds:List Value),(cs.drop off).length=olds.length→(∀j,RV fm w X μ ((cs.drop off).getD j .undef) (olds.getD j Go.undef))→
       (Builtin.firstCells i.size len' (.slice base len' c)).run P w.drew= .ok olds.toArray w.drew→c < len'+n→
       ∃cv w' μ',(Builtin.append_ #[t,tx] ty #[.slice base len' c,yv]).run P w= .ok cv w'∧RV fm w' X μ' (.sl σ.next 0 (len'+n) i.size none) cv∧Ext w μ w' μ'∧
        RS (fm:=fm) ((σ.set b .dead).alloc (cs.drop off ++new)) w' X μ'∧NewQ σ (.sl b off len' i.size none) e w' μ μ':=by
      intro base c olds h1 h3 h4 h5
      have hrun:=run_append_grow_src w t tx ty e i z ht hi hz base len' c olds h4 yv n news hsrc h5 hb63 (growslice_fits h5 hmax)
      obtain ⟨k1,k2⟩:=grow_rs ks hX h1 (by omega) (fun j=>(h3 j).ext kx) (fun j=>(hnr j).ext kx) (Builtin.zeroCells z.cells (grownCap w (len'+n) c e - (len'+n))) e
      refine ⟨_,_,_,hrun,?_,kx.trans k1,k2,newQ_bind hnext (heap_alloc_new w.drew _)⟩
      have hcap:len'+n≤grownCap w (len'+n) c e:=by simp [grownCap,Question.cut]
      refine RV.sl σ.next 0 (len'+n) i.size none w.heap.size 0 (grownCap w (len'+n) c e) true _ e (0,0) (by simp [Mu.bind,hnext]) (heap_alloc_new w.drew _) ?_ hcap (.inl rfl)
      simp only [Array.size_append,List.size_toArray,List.length_append,zeroCells_size,hzs]
      have e1:olds.length+news.length=(len'+n)*i.size:=by rw [Nat.add_mul]; omega
      have e2:(grownCap w (len'+n) c e - (len'+n))*i.size+(len'+n)*i.size=grownCap w (len'+n) c e*i.size:=by rw [←Nat.add_mul]; congr 1; omega
      omega
     cases hx with
     | slDead _ _ _ _ _ ad c hl hm=>have:=hS.dead b hm; simp [Store.cells,hget] at this
     | slZero _ _ _ _ ad hcap=>
      have hnil:cs.drop off= []:=List.eq_nil_of_length_eq_zero (by rw [hdl]; simp)
      refine hgrow2 (some ad) 0 [] (by rw [hnil]; rfl) (fun j=>by rw [hnil]; exact .undef _) (by simp [Builtin.firstCells,loadCells,loadCellsFrom]) (by omega)
     | sl _ _ _ _ _ blk base c ow arr el fz hm hrow hroom hl hcap=>
      obtain ⟨cs',arr',e',q1,q2,q3,q4⟩:=hS.cells b blk base ow hm
      rw [hget] at q1
      cases ow with
      | false=>simp at q1
      | true=>
       simp only [if_true,Option.some.injEq,Blk.own.injEq] at q1
       subst q1
       rw [hrow] at q2
       simp only [Option.some.injEq,Obj.cells.injEq] at q2
       obtain ⟨rfl,rfl,rfl⟩:=q2
       by_cases hfit:len'+n≤c
       ·
        have hroom2:base+off+(len'+n)*i.size≤arr.size:=by
         have:(len'+n)*i.size≤c*i.size:=Nat.mul_le_mul_right _ hfit
         omega
        have hnl2:news.length=n*i.size:=by omega
        have hst:=run_storeCells_at (P:=P) blk (base+(off+len'*i.size)) el news 0 arr w hrow (by rw [Nat.add_mul] at hroom2; omega) hsrc.one
        simp only [Nat.add_zero] at hst
        have hrun:(Builtin.append_ #[t,tx] ty #[.slice (some ⟨blk,base+off,none⟩) len' c,yv]).run P w= .ok (.slice (some ⟨blk,base+off,none⟩) (len'+n) c)
          (w.setRow blk (arr.toList.take (base+(off+len'*i.size)) ++news ++arr.toList.drop (base+(off+len'*i.size)+news.length)).toArray):=by
         rcases hsrc.kind with ⟨e',hk⟩ | hk <;>
          simp [Builtin.append_,run_underlying ht,run_underlying hk,sizeOf,typeInfo,hi,hsrc.len,hfit,hsrc.cells,addr_add,Nat.add_assoc,hst]
        generalize harr:(arr.toList.take (base+(off+len'*i.size)) ++news ++arr.toList.drop (base+(off+len'*i.size)+news.length)).toArray=arr2 at hrun
        have hsz2:arr2.size=arr.size:=by
         rw [←harr]; simp; rw [Nat.add_mul] at hroom2; omega
        have hget2: ∀k,arr2.getD k Go.undef=if base+(off+len'*i.size)≤k∧k < base+(off+len'*i.size)+news.length then news.getD (k - (base+(off+len'*i.size))) Go.undef else arr.getD k Go.undef:=by
         intro k
         rw [←harr,toArr_getD,seg_getD _ _ _ _ (by simp; rw [Nat.add_mul] at hroom2; omega)]
         by_cases hk:base+(off+len'*i.size)≤k∧k < base+(off+len'*i.size)+news.length
         ·rw [if_pos hk,if_pos hk]
         ·rw [if_neg hk,if_neg hk]; simp
        have hin:=inplace_rs hS hm hget hrow hsz2 (cs':=cs.drop off ++new) (off:=off) (by simp only [List.length_append]; rw [Nat.add_mul] at hroom2; omega) (fun j hj=>by
         rw [hget2]
         simp only [List.length_append] at hj
         by_cases hj1:j < (cs.drop off).length
         ·rw [if_neg (by omega)]
          have e1:(cs.drop off ++new).getD j .undef=cs.getD (off+j) .undef:=by
           simp only [List.getD_eq_getElem?_getD]
           rw [List.getElem?_append_left hj1]; simp
          rw [e1,Nat.add_assoc]
          exact q4 (off+j) (by omega)
         ·rw [if_pos (by omega)]
          have e1:(cs.drop off ++new).getD j .undef=new.getD (j - len'*i.size) .undef:=by
           simp only [List.getD_eq_getElem?_getD]
           rw [List.getElem?_append_right (by omega),hdl]
          have e2:base+off+j - (base+(off+len'*i.size))=j - len'*i.size:=by omega
          rw [e1,e2]
          exact hnr _) (len:=len'+n) (c:=c) (sz:=i.size) hfit (by
           have:c*i.size+(base+off)≤arr.size:=by omega
           omega)
        refine ⟨_,_,_,hrun,hin.1,hin.2.1,hin.2.2,fun blk' base' o' hm'=> .inr ⟨b,off,len',i.size,none,base,rfl,?_⟩⟩
        simp only [Mu.bind,if_true,Loc.at.injEq] at hm'
        obtain ⟨rfl,rfl,rfl⟩:=hm'
        exact ⟨hm,rfl⟩
       ·have hcell: ∀j,j < (cs.drop off).length→∃u,w.cell? ⟨blk,base+off+j,none⟩=some u∧RV fm w X μ ((cs.drop off).getD j .undef) u:=by
         intro j hj
         rw [hdl] at hj
         have hlt:base+off+j < arr.size:=by omega
         refine ⟨arr.getD (base+(off+j)) Go.undef,?_,?_⟩
         ·rw [Nat.add_assoc] at hlt ⊢
          simp [World.cell?,hrow,hlt]
         ·have:=q4 (off+j) (by omega)
          simpa using this
        obtain ⟨vs,h1,h2,h3⟩:=row_values hcell
        exact hgrow2 (some ⟨blk,base+off,none⟩) c vs h1.symm h3
         (run_firstCells_some w.drew i.size len' _ len' c vs (by omega) (fun j u hu=>by rw [addr_add]; exact h2 j u hu)) (by omega)
end
end Go.Ab
namespace Go.Ab
open Go.RowKit
section
variable {P:Program} {fm gm:Nat→Option Nat} {G:Nat→List AV}
variable {w:World} {X X':Nat→Prop} {μ μ':Mu} {σ:Store}
theorem mapO_get {f:AV→Option AV}: ∀ {l m:List AV},mapO f l=some m→l.length=m.length∧∀j,j < l.length→f (l.getD j .undef)=some (m.getD j .undef)
 | [],m,h=>by simp only [mapO,Option.some.injEq] at h; subst h; exact ⟨rfl,fun j hj=>absurd hj (by simp)⟩
 | a ::l,m,h=>by
  simp only [mapO] at h
  split at h
  case h_2=>simp at h
  rename_i b hb
  split at h <;> simp only [Option.some.injEq,reduceCtorEq] at h
  rename_i m' hm
  subst h
  obtain ⟨h1,h2⟩:=mapO_get hm
  refine ⟨by simp [h1],fun j hj=> ?_⟩
  cases j with
  | zero=>simpa using hb
  | succ j=>simpa using h2 j (by simpa using hj)
theorem closedL_get: ∀ {l:List AV},closedL l=true→∀j,(l.getD j .undef).closed=true
 | [],_,j=>by simp [AV.closed]
 | a ::l,h,j=>by
  simp only [closedL,Bool.and_eq_true] at h
  cases j with
  | zero=>simpa using h.1
  | succ j=>simpa using closedL_get h.2 j
theorem closedL_append: ∀ {l m:List AV},closedL (l ++m)=(closedL l && closedL m)
 | [],m=>by simp [closedL]
 | a ::l,m=>by simp [closedL,closedL_append,Bool.and_assoc]
theorem closed_cells {a:AV}:a.closed=true→closedL a.cells=true:=by
 intro h
 cases a <;> simp_all [AV.cells,closedL,AV.closed]
theorem closedL_flat: ∀ {l:List AV},closedL l=true→closedL (l.flatMap AV.cells)=true
 | [],_=>by simp [closedL]
 | a ::l,h=>by
  simp only [closedL,Bool.and_eq_true] at h
  simp only [List.flatMap_cons,closedL_append,closed_cells h.1,closedL_flat h.2,Bool.and_self]
theorem closed_rv {v:AV} {cv:Value} (r:RV fm w X μ v cv) (h:v.closed=true) (hA: ∀blk,Av X' μ' blk→Av X μ blk):RV fm w X' μ' v cv:=by
 induction r with
 | undef v=>exact .undef v
 | bool b=>exact .bool b
 | int k n=>exact .int k n
 | str l s hs=>exact .str l s hs
 | lit v hv=>exact .lit v hv
 | fn f f' a c a' c' hf ha hc _ _ i1 i2=>
  simp only [AV.closed,Bool.and_eq_true] at h
  exact .fn f f' a c a' c' hf ha hc (fun j=>i1 j (closedL_get h.1 j)) (fun j=>i2 j (closedL_get h.2 j))
 | ptr=>simp [AV.closed] at h
 | ptrDead=>simp [AV.closed] at h
 | vptr cells off blk base g hAv hlt hc _ ih=>
  simp only [AV.closed] at h
  exact .vptr cells off blk base g (fun h'=>hAv (hA _ h')) hlt hc (fun j=>ih j (closedL_get h j))
 | sl=>simp [AV.closed] at h
 | slDead=>simp [AV.closed] at h
 | slZero=>simp [AV.closed] at h
 | vslEmpty cap a c hcap=>exact .vslEmpty cap a c hcap
 | vslNil cap hcap=>exact .vslNil cap hcap
 | vsl els cap blk base sz c g hAv hlt hs hl hcap hc _ ih=>
  simp only [AV.closed] at h
  exact .vsl els cap blk base sz c g (fun h'=>hAv (hA _ h')) hlt hs hl hcap hc (fun j=>ih j (closedL_get (closedL_flat h) j))
 | nils=>exact .nils
 | e0 a c=>exact .e0 a c
 | agg cs vs hl _ ih=>
  simp only [AV.closed] at h
  exact .agg cs vs hl (fun j=>ih j (closedL_get h j))
 | tup cs vs hl _ ih=>
  simp only [AV.closed] at h
  exact .tup cs vs hl (fun j=>ih j (closedL_get h j))
theorem flatL_get: ∀ {l:List AV},flatL l=true→∀j,(l.getD j .undef).flat=true
 | [],_,j=>by simp [AV.flat]
 | a ::l,h,j=>by
  simp only [flatL,Bool.and_eq_true] at h
  cases j with
  | zero=>simpa using h.1
  | succ j=>simpa using flatL_get h.2 j
theorem flat_rv {v:AV} {cv:Value} (r:RV fm w X μ v cv) (h:v.flat=true):RV fm w X' μ' v cv:=by
 induction r with
 | undef v=>exact .undef v
 | bool b=>exact .bool b
 | int k n=>exact .int k n
 | str l s hs=>exact .str l s hs
 | lit v hv=>exact .lit v hv
 | fn f f' a c a' c' hf ha hc _ _ i1 i2=>
  simp only [AV.flat,Bool.and_eq_true] at h
  exact .fn f f' a c a' c' hf ha hc (fun j=>i1 j (flatL_get h.1 j)) (fun j=>i2 j (flatL_get h.2 j))
 | ptr=>simp [AV.flat] at h
 | ptrDead=>simp [AV.flat] at h
 | vptr=>simp [AV.flat] at h
 | sl=>simp [AV.flat] at h
 | slDead=>simp [AV.flat] at h
 | slZero=>simp [AV.flat] at h
 | vslEmpty cap a c hcap=>exact .vslEmpty cap a c hcap
 | vslNil cap hcap=>exact .vslNil cap hcap
 | vsl els cap blk base sz c g hAv hlt hs hl hcap hc _ ih=>
  cases els with
  | nil=>exact .vslEmpty cap _ _ hcap
  | cons=>simp [AV.flat] at h
 | nils=>exact .nils
 | e0 a c=>exact .e0 a c
 | agg cs vs hl _ ih=>
  simp only [AV.flat] at h
  exact .agg cs vs hl (fun j=>ih j (flatL_get h j))
 | tup cs vs hl _ ih=>
  simp only [AV.flat] at h
  exact .tup cs vs hl (fun j=>ih j (flatL_get h j))
def Mu.none:Mu:=fun _=> .unborn
theorem closedL_of: ∀ {l:List AV},(∀j,j < l.length→(l.getD j .undef).closed=true)→closedL l=true
 | [],_=>rfl
 | a ::l,h=>by
  simp only [closedL,Bool.and_eq_true]
  exact ⟨by simpa using h 0 (by simp),closedL_of (fun j hj=>by simpa using h (j+1) (by simpa using hj))⟩
theorem closedL_chunks {sz:Nat}: ∀(n:Nat) {cs:List AV},closedL cs=true→closedL (chunks sz n cs)=true
 | 0,_,_=>rfl
 | n+1,cs,h=>by
  have hd:closedL (cs.drop sz)=true:=closedL_of (fun j _=>by
   have:=closedL_get h (sz+j)
   simpa [List.getElem?_drop] using this)
  have ht:closedL (cs.take sz)=true:=closedL_of (fun j hj=>by
   have:=closedL_get h j
   have hj':j < sz:=by simp at hj; omega
   simpa [List.getElem?_take,hj'] using this)
  simp only [chunks,closedL,closedL_chunks n hd,Bool.and_true]
  split
  ·cases cs with
   | nil=>rfl
   | cons c cs=>simp only [closedL,Bool.and_eq_true] at h; simpa using h.1
  ·simpa [AV.closed] using ht
theorem rb_closed: ∀(d:Nat) {v v':AV},rb σ d v=some v'→v'.closed=true
 | 0,v,v',h=>by
  simp only [rb] at h
  split at h <;> simp only [Option.some.injEq,reduceCtorEq] at h
  rename_i hc; subst h; exact hc
 | d+1,v,v',h=>by
  have mo: ∀ {l m:List AV},mapO (rb σ d) l=some m→closedL m=true:=fun {l m} hm=>by
   obtain ⟨h1,h2⟩:=mapO_get hm
   exact closedL_of (fun j hj=>rb_closed d (h2 j (by omega)))
  simp only [rb] at h
  split at h
  ·rename_i hc
   simp only [Option.some.injEq] at h
   subst h; exact hc
  ·cases v <;> simp only [reduceCtorEq] at h
   case fn=>
    split at h <;> simp only [Option.some.injEq,reduceCtorEq] at h
    rename_i h1 h2
    subst h
    simp [AV.closed,mo h1,mo h2]
   case ptr=>
    split at h
    case h_2=>simp at h
    split at h <;> simp only [Option.some.injEq,reduceCtorEq] at h
    rename_i h1
    subst h
    simp [AV.closed,mo h1]
   case sl=>
    split at h
    case h_2=>simp at h
    split at h
    case isFalse=>simp at h
    split at h
    case h_2=>simp at h
    rename_i h1
    split at h <;> simp only [Option.some.injEq,reduceCtorEq] at h
    subst h
    simp only [AV.closed]
    exact closedL_chunks _ (mo h1)
   case agg=>
    split at h <;> simp only [Option.some.injEq,reduceCtorEq] at h
    rename_i h1
    subst h
    simp [AV.closed,mo h1]
   case tup=>
    split at h <;> simp only [Option.some.injEq,reduceCtorEq] at h
    rename_i h1
    subst h
    simp [AV.closed,mo h1]
theorem rb_rv (hS:RS (fm:=fm) σ w X μ) (hX: ∀blk,X' blk→Av X μ blk) (hlive: ∀b blk base o,μ b= .at blk base o→¬X' blk) :
  ∀(d:Nat) {v v':AV} {cv:Value},rb σ d v=some v'→RV fm w X μ v cv→RV fm w X' Mu.none v' cv:=by
 have hA: ∀blk,Av X' Mu.none blk→Av X μ blk:=by
  rintro blk (h | ⟨b,base,h⟩)
  ·exact hX blk h
  ·simp [Mu.none] at h
 have hnot: ∀b blk base o,μ b= .at blk base o→¬Av X' Mu.none blk:=by
  rintro b blk base o hm (h | ⟨b',base',h⟩)
  ·exact hlive b blk base o hm h
  ·simp [Mu.none] at h
 intro d
 induction d with
 | zero=>
  intro v v' cv h r
  simp only [rb] at h
  split at h <;> simp only [Option.some.injEq,reduceCtorEq] at h
  rename_i hc; subst h; exact closed_rv r hc hA
 | succ d ih=>
  intro v v' cv h r
  have mo: ∀ {l m:List AV} {vs:Nat→Value},mapO (rb σ d) l=some m→(∀j,j < l.length→RV fm w X μ (l.getD j .undef) (vs j))→∀j,RV fm w X' Mu.none (m.getD j .undef) (vs j):=by
   intro l m vs hm hr j
   obtain ⟨h1,h2⟩:=mapO_get hm
   by_cases hj:j < l.length
   ·exact ih (h2 j hj) (hr j hj)
   ·have:m.getD j .undef= .undef:=by rw [List.getD_eq_getElem?_getD,List.getElem?_eq_none (by omega)]; rfl
    rw [this]; exact .undef _
  simp only [rb] at h
  split at h
  ·rename_i hc
   simp only [Option.some.injEq] at h
   subst h; exact closed_rv r hc hA
  ·cases r with
   | undef | bool | int | str | lit | vptr | vslEmpty | vslNil | vsl | nils | e0=>simp at h
   | fn f f' a c a' c' hf ha hc h1 h2=>
    simp only at h
    split at h <;> simp only [Option.some.injEq,reduceCtorEq] at h
    rename_i m1 m2 e1 e2
    subst h
    exact .fn f f' _ _ a' c' hf (by rw [←(mapO_get e1).1,ha]) (by rw [←(mapO_get e2).1,hc]) (mo e1 (fun j _=>h1 j)) (mo e2 (fun j _=>h2 j))
   | agg cs vs hl hr=>
    simp only at h
    split at h <;> simp only [Option.some.injEq,reduceCtorEq] at h
    rename_i m1 e1
    subst h
    exact .agg _ vs (by rw [←(mapO_get e1).1,hl]) (mo e1 (fun j _=>hr j))
   | tup cs vs hl hr=>
    simp only at h
    split at h <;> simp only [Option.some.injEq,reduceCtorEq] at h
    rename_i m1 e1
    subst h
    exact .tup _ vs (by rw [←(mapO_get e1).1,hl]) (mo e1 (fun j _=>hr j))
   | ptrDead b off ad hm=>simp [hS.dead b hm] at h
   | ptr b off blk base o hm=>
    obtain ⟨cs,arr,e,h1,h2,h3,h4⟩:=hS.cells b blk base o hm
    have hc:σ.cells b=some cs:=by cases o <;> simp [Store.cells,h1]
    simp only [hc] at h
    split at h <;> simp only [Option.some.injEq,reduceCtorEq] at h
    rename_i m1 e1
    subst h
    obtain ⟨l1,_⟩:=mapO_get e1
    exact .vptr m1 off blk base (fun j=>arr.getD (base+j) Go.undef) (hnot b blk base o hm) (hS.lt b blk base o hm)
     (fun j hj=>by
      have:base+j < arr.size:=by omega
      simp [World.cell?,h2,this])
     (mo e1 (fun j hj=>h4 j hj))
   | slDead b off len sz cap ad c hl hm=>simp [hS.dead b hm] at h
   | slZero b off sz cap ad hcap=>
    simp only at h
    split at h
    case h_2=>simp at h
    split at h
    case isFalse=>simp at h
    split at h
    case h_2=>simp at h
    split at h <;> simp only [Option.some.injEq,reduceCtorEq] at h
    subst h
    exact .vslEmpty none _ _ (.inl rfl)
   | sl b off len sz cap blk base c o arr e fz hm hb hroom hl hcap=>
    obtain ⟨cs,arr',e',h1,h2,h3,h4⟩:=hS.cells b blk base o hm
    have hc:σ.cells b=some cs:=by cases o <;> simp [Store.cells,h1]
    rw [hb] at h2
    simp only [Option.some.injEq,Obj.cells.injEq] at h2
    obtain ⟨rfl,rfl,rfl⟩:=h2
    simp only [hc] at h
    split at h
    case isFalse=>simp at h
    rename_i hcond
    obtain ⟨hle,hsz⟩:=hcond
    split at h
    case h_2=>simp at h
    rename_i m1 e1
    split at h <;> simp only [Option.some.injEq,reduceCtorEq] at h
    rename_i hna
    subst h
    obtain ⟨l1,_⟩:=mapO_get e1
    have hml:m1.length=len*sz:=by rw [←l1]; simp; omega
    obtain ⟨f1,f2,f3⟩:=chunks_flat hsz len m1 hml hna
    have:=RV.vsl (fm:=fm) (w:=w) (X:=X') (μ:=Mu.none) (chunks sz len m1) none blk (base+off) sz c (fun j=>arr.getD (base+(off+j)) Go.undef) (hnot b blk base o hm) (hS.lt b blk base o hm) f3
     (by omega) (.inl rfl)
     (by
      intro j hj
      rw [f2] at hj
      have:base+(off+j) < arr.size:=by omega
      rw [Nat.add_assoc]
      simp [World.cell?,hb,this])
     (by
      rw [f1]
      exact mo e1 (fun j hj=>by
       rw [l1,hml] at hj
       have e2:((cs.drop off).take (len*sz)).getD j .undef=cs.getD (off+j) .undef:=by simp [hj]
       rw [e2]
       exact h4 (off+j) (by omega)))
    rw [f2] at this
    exact this
theorem erL_getD (l:List AV) (j:Nat):(erL l).getD j .undef=(l.getD j .undef).er:=by
 rw [erL_map]
 simp only [List.getD_eq_getElem?_getD,List.getElem?_map]
 cases l[j]? <;> rfl
theorem er_cells (v:AV):v.er.cells=v.cells.map AV.er:=by
 cases v <;> simp [AV.er,AV.cells,erL_map]
theorem erL_flat (l:List AV):(erL l).flatMap AV.cells=(l.flatMap AV.cells).map AV.er:=by
 rw [erL_map]
 induction l with
 | nil=>rfl
 | cons v l ih=>simp [er_cells,ih]
theorem er_rv {v:AV} {cv:Value} (r:RV fm w X μ v cv):RV fm w X μ v.er cv:=by
 induction r with
 | undef v=>exact .undef v
 | bool b=>exact .bool b
 | int k n=>exact .int k n
 | str l s hs=>exact .str l s hs
 | lit v hv=>exact .lit v hv
 | fn f f' a c a' c' hf ha hc _ _ i1 i2=>
  exact .fn f f' _ _ a' c' hf (by simp [erL_map,ha]) (by simp [erL_map,hc]) (fun j=>by rw [erL_getD]; exact i1 j) (fun j=>by rw [erL_getD]; exact i2 j)
 | ptr b off blk base o h=>exact .ptr b off blk base o h
 | ptrDead b off x h=>exact .ptrDead b off x h
 | vptr cells off blk base g hAv hlt hc _ ih=>
  exact .vptr _ off blk base g hAv hlt (fun j hj=>hc j (by simpa [erL_map] using hj)) (fun j=>by rw [erL_getD]; exact ih j)
 | sl b off len sz cap blk base c o arr e fz h hb hr hl hcap=>exact .sl b off len sz cap blk base c o arr e fz h hb hr hl hcap
 | slDead b off len sz cap a c hl h=>exact .slDead b off len sz cap a c hl h
 | slZero b off sz cap a hcap=>exact .slZero b off sz cap a hcap
 | vslEmpty cap a c hcap=>exact .vslEmpty none a c (.inl rfl)
 | vslNil cap hcap=>exact .vslNil none (.inl rfl)
 | vsl els cap blk base sz c g hAv hlt hs hl hcap hc _ ih=>
  have hlen:(erL els).length=els.length:=by simp [erL_map]
  have:=RV.vsl (fm:=fm) (w:=w) (X:=X) (μ:=μ) (erL els) none blk base sz c g hAv hlt
   (by
    intro x hx
    rw [erL_map] at hx
    obtain ⟨y,hy,rfl⟩:=List.mem_map.1 hx
    rw [er_cells,List.length_map]
    exact hs y hy) (by omega) (.inl rfl) (by rw [hlen]; exact hc)
   (by
    intro j
    have e1:((erL els).flatMap AV.cells).getD j .undef=((els.flatMap AV.cells).getD j .undef).er:=by
     rw [erL_flat,←erL_map,erL_getD]
    rw [e1]; exact ih j)
  rw [hlen] at this
  exact this
 | nils=>exact .vslNil none (.inl rfl)
 | e0 a c=>exact .vslEmpty none a c (.inl rfl)
 | agg cs vs hl _ ih=>exact .agg _ vs (by simp [erL_map,hl]) (fun j=>by rw [erL_getD]; exact ih j)
 | tup cs vs hl _ ih=>exact .tup _ vs (by simp [erL_map,hl]) (fun j=>by rw [erL_getD]; exact ih j)
end
end Go.Ab
namespace Go.Ab
open Go.RowKit
section
variable (P:Program) (fm gm:Nat→Option Nat)
def guardChk (ops:Array Oper):Option (Nat×Bool)→Option (Nat×Bool)→Bool
 | none,none=>true
 | some (t,b),some (j,b')=>(b == b') && (match ops[j]? with
  | some o=>o.dst == some t
  | none=>false)
 | _,_=>false
def operChk (N:Nat) (ops:Array Oper) (io:IOper) (o:Oper):Bool:=
 (io.dst == o.dst) && (match o.dst with | some d=>decide (d < N) | none=>true) && guardChk ops io.guard o.guard && opChk P fm gm io.op o.op
def opersChk (N:Nat) (ops:Array Oper):List IOper→List Oper→Bool
 | [], []=>true
 | io ::r,o ::s=>operChk P fm gm N ops io o && opersChk N ops r s
 | _,_=>false
def codeChk (dc:List IOper→Array Oper→Bool) (N:Nat):ICode→Code→Bool
 | .skip, .skip=>true
 | .region ops, .region _ ops' draw=>opersChk P fm gm N ops' ops ops'.toList && (!draw || dc ops ops')
 | .seq a b, .seq a' b'=>codeChk dc N a a' && codeChk dc N b b'
 | .cond c a b, .cond c' a' b'=>opdChk fm gm c c' && codeChk dc N a a' && codeChk dc N b b'
 | .block id c, .block id' c'=>(id == id') && codeChk dc N c c'
 | .loop _ c, .loop c'=>codeChk dc N c c'
 | .keep _ c,c'=>codeChk dc N c c'
 | .frz _ c,c'=>codeChk dc N c c'
 | .arity _ _,_=>false
 | .exit id, .exit id'=>id == id'
 | .ret, .ret=>true
 | .stop,_=>true
 | _,_=>false
def resChk:List IRes→List ResultVar→Bool
 | [], []=>true
 | .tmp t ::r, .tmp t' ::s=>(t == t') && resChk r s
 | .cell t n ::r, .cell t' ty ::s=>(t == t') && loadIs P ty n && resChk r s
 | _,_=>false
def funcChk (dc:List IOper→Array Oper→Bool) (F:IFunc) (f:Nat):Bool:=
 match P.funcs[f]? with
 | some fn=>(match fn.body with
  | some c=>codeChk P fm gm dc fn.ntmps F.body c
  | none=>false) && resChk P F.res fn.results.toList && (fn.name != "runtime.NumGoroutine")
 | none=>false
end
section
variable {P:Program} {fm gm:Nat→Option Nat} {G:Nat→List AV} {ip:Nat→Option IFunc}
inductive OpsEx (ip:Nat→Option IFunc) (G:Nat→List AV) (n:Nat):List IOper→Fr→Store→Fr→Store→Prop
 | nil (fr:Fr) (σ:Store):OpsEx ip G n [] fr σ fr σ
 | step (o:IOper) (os:List IOper) (fr fr':Fr) (σ σ1 σ':Store) (v:AV) (m:Nat) (hm:m < n) (hw:wanted o.guard fr=some true)
   (hd:doOp ip G (run ip G m) o.op fr σ=some (v,σ1)) (t:OpsEx ip G n os (fr.put o.dst v) σ1 fr' σ'):OpsEx ip G n (o ::os) fr σ fr' σ'
 | skip (o:IOper) (os:List IOper) (fr fr':Fr) (σ σ':Store) (hw:wanted o.guard fr=some false)
   (t:OpsEx ip G n os (fr.put o.dst (.tup [])) σ fr' σ'):OpsEx ip G n (o ::os) fr σ fr' σ'
theorem OpsEx.mono {n m:Nat} (h:n≤m) {os:List IOper} {fr fr':Fr} {σ σ':Store} (x:OpsEx ip G n os fr σ fr' σ'):OpsEx ip G m os fr σ fr' σ':=by
 induction x with
 | nil fr σ=>exact .nil fr σ
 | step o os fr fr' σ σ1 σ' v k hm hw hd _ ih=>exact .step o os fr fr' σ σ1 σ' v k (by omega) hw hd ih
 | skip o os fr fr' σ σ' hw _ ih=>exact .skip o os fr fr' σ σ' hw ih
theorem run_ops: ∀(n:Nat) (os:List IOper) (k:List Item) (fr fr':Fr) (σ σ':Store),run ip G n (.ops os ::k) fr σ=some (fr',σ')→
  ∃m fr1 σ1,m < n∧OpsEx ip G n os fr σ fr1 σ1∧run ip G m k fr1 σ1=some (fr',σ')
 | 0,os,k,fr,fr',σ,σ',h=>by simp [run] at h
 | n+1, [],k,fr,fr',σ,σ',h=>by
  simp only [run] at h
  exact ⟨n,fr,σ,by omega, .nil fr σ,h⟩
 | n+1,o ::os,k,fr,fr',σ,σ',h=>by
  simp only [run] at h
  split at h
  ·rename_i hw
   split at h
   case h_2=>simp at h
   rename_i v σ1 hd
   obtain ⟨m,fr1,σ2,h1,h2,h3⟩:=run_ops n os k _ fr' σ1 σ' h
   exact ⟨m,fr1,σ2,by omega, .step o os fr fr1 σ σ1 σ2 v n (by omega) hw hd (h2.mono (by omega)),h3⟩
  ·rename_i hw
   obtain ⟨m,fr1,σ2,h1,h2,h3⟩:=run_ops n os k _ fr' σ σ' h
   exact ⟨m,fr1,σ2,by omega, .skip o os fr fr1 σ σ2 hw (h2.mono (by omega)),h3⟩
  ·simp at h
structure Out (fm:Nat→Option Nat) (N:Nat) (X:Nat→Prop) (w:World) (μ:Mu) (a:Act) (fr':Fr) (σ':Store) (a':Act) (w':World) (μ':Mu):Prop where
 rf:RF (fm:=fm) N fr' a'.tmps w' X μ'
 rs:RS (fm:=fm) σ' w' X μ'
 ext:Ext w μ w' μ'
 defers:a'.defers=a.defers
def CallOk (P:Program) (fm:Nat→Option Nat) (X:Nat→Prop) (μ:Mu) (f:FuncId) (args:Array Value) (w:World) (r:AV) (σ':Store):Prop:=
 Calls P f args w fun e w'=>∃cv μ',e= .returned cv∧RV fm w' X μ' r cv∧RS (fm:=fm) σ' w' X μ'∧Ext w μ w' μ'
def SCallsOk (P:Program) (fm gm:Nat→Option Nat) (G:Nat→List AV) (ip:Nat→Option IFunc) (n:Nat):Prop:=
 ∀(m:Nat),m < n→∀(X:Nat→Prop) (μ:Mu) (w:World) (σ σ':Store) (id:Nat) (first args caps:List AV) (r:AV),
  scall ip (run ip G m) (.fn id first caps) args σ=some (r,σ')→GlobOK fm gm G w X μ→RS (fm:=fm) σ w X μ→(∀b,X b→b < w.heap.size)→
  ∀(f':FuncId) (first' args' caps':Array Value),fm id=some f'→first.length=first'.size→args.length=args'.size→caps.length=caps'.size→
   (∀j,RV fm w X μ (first.getD j .undef) (first'.getD j Go.undef))→(∀j,RV fm w X μ (args.getD j .undef) (args'.getD j Go.undef))→(∀j,RV fm w X μ (caps.getD j .undef) (caps'.getD j Go.undef))→
   (∃fn,P.funcs[f']? =some fn∧fn.body.isSome=true∧fn.name≠ "runtime.NumGoroutine")∧CallOk P fm X μ f' (first' ++args' ++caps') w r σ'
end
end Go.Ab
namespace Go.Ab
open Go.RowKit
section
variable {P:Program} {fm gm:Nat→Option Nat} {G:Nat→List AV} {ip:Nat→Option IFunc}
variable {w:World} {X:Nat→Prop} {μ:Mu} {σ σ':Store} {N:Nat} {fr:Fr} {a:Act} {o:Oper} {v:AV}
def OpWp (P:Program) (fm:Nat→Option Nat) (X:Nat→Prop) (μ:Mu) (o:Oper) (a:Act) (w:World) (v:AV) (σ':Store):Prop:=
 ∀(next:Act→World→Prop) (Q:Exit→Act→World→Prop),
  (∀cv w' μ',RV fm w' X μ' v cv→Ext w μ w' μ'→RS (fm:=fm) σ' w' X μ'→next (a.put o.dst cv) w')→o.wp P a w next Q
def QWp (P:Program) (fm:Nat→Option Nat) (X:Nat→Prop) (μ:Mu) (o:Oper) (a:Act) (w:World) (v:AV):Prop:=
 ∀(next:Act→World→Prop) (Q:Exit→Act→World→Prop),
  (∀cv w',RV fm w' X μ v cv→Below w.heap.size w w'→next (a.put o.dst cv) w')→o.wp P a w next Q
theorem QWp.of_yld (h:OpYld P fm X μ o a w v):QWp P fm X μ o a w v:=by
 intro next Q hk
 obtain ⟨cv,w',h1,h2,h3⟩:=h
 unfold Oper.wp
 rw [h1]; exact hk cv w' h2 h3
theorem QWp.opWp (g:Given P fm gm G w X μ σ N fr a) (h:QWp P fm X μ o a w v):OpWp P fm X μ o a w v σ:=by
 intro next Q hk
 exact h next Q (fun cv w' h1 h2=>hk cv w' μ h1 (Ext.of_below h2) (g.rs.below h2))
theorem OpWp.of_eff (h:Eff P fm X μ o a w v σ'):OpWp P fm X μ o a w v σ':=by
 intro next Q hk
 obtain ⟨cv,w',μ',h1,h2,h3,h4⟩:=h
 unfold Oper.wp
 rcases h1 with h1 | ⟨h1,rfl⟩
 ·rw [h1]; exact hk cv w' μ' h2 h3 h4
 ·rw [h1]; exact hk _ w' μ' h2 h3 h4
theorem storeS_same {n:Nat} {p x v:AV} (h:storeSOf σ n p x=some (v,σ')):σ'=σ:=by
 unfold storeSOf at h
 split at h
 ·split at h
  ·split at h <;> simp only [Option.some.injEq,Prod.mk.injEq,reduceCtorEq] at h
   exact h.2.symm
  ·cases h
 ·cases h
theorem sameInts_get: ∀ {l m:List AV},sameInts l m=true→l.length=m.length∧∀j,j < l.length→∃k z,l.getD j .undef= .int k z∧m.getD j .undef= .int k z
 | [], [],_=>⟨rfl,fun j h=>by simp at h⟩
 | .int k z ::l, .int k' z' ::m,h=>by
  simp only [sameInts,Bool.and_eq_true,beq_iff_eq] at h
  obtain ⟨⟨rfl,rfl⟩,h⟩:=h
  obtain ⟨h1,h2⟩:=sameInts_get h
  refine ⟨by simp [h1],fun j hj=> ?_⟩
  cases j with
  | zero=>exact ⟨_,_,rfl,rfl⟩
  | succ j=>simpa using h2 j (by simpa using hj)
 | [],_ ::_,h=>by simp [sameInts] at h
 | _ ::_, [],h=>by simp [sameInts] at h
 | .undef ::_,_ ::_,h | .bool _ ::_,_ ::_,h | .str _ ::_,_ ::_,h | .lit _ ::_,_ ::_,h | .fn .. ::_,_ ::_,h | .ptr .. ::_,_ ::_,h | .vptr .. ::_,_ ::_,h | .sl .. ::_,_ ::_,h | .vsl .. ::_,_ ::_,h | .e0 ::_,_ ::_,h | .nils ::_,_ ::_,h | .agg _ ::_,_ ::_,h | .tup _ ::_,_ ::_,h=>by simp [sameInts] at h
 | .int _ _ ::_, .undef ::_,h | .int _ _ ::_, .bool _ ::_,h | .int _ _ ::_, .str _ ::_,h | .int _ _ ::_, .lit _ ::_,h | .int _ _ ::_, .fn .. ::_,h | .int _ _ ::_, .ptr .. ::_,h | .int _ _ ::_, .vptr .. ::_,h | .int _ _ ::_, .sl .. ::_,h | .int _ _ ::_, .vsl .. ::_,h | .int _ _ ::_, .e0 ::_,h | .int _ _ ::_, .nils ::_,h | .int _ _ ::_, .agg _ ::_,h | .int _ _ ::_, .tup _ ::_,h=>by simp [sameInts] at h
theorem setRow_same {w:World} {blk:Nat} {arr:Array Value} {e:TypeId} {fz:Nat×Nat} (h:w.heap[blk]? =some (.cells arr e fz)):w.setRow blk arr=w:=by
 have key:(w.setRow blk arr).heap=w.heap:=by
  apply Array.ext_getElem?
  intro i
  show (w.heap.modify blk _)[i]? =_
  rw [Array.getElem?_modify]
  split
  ·rename_i hi; subst hi; rw [h]; rfl
  ·rfl
 have e:w.setRow blk arr= { w with heap:=(w.setRow blk arr).heap }:=rfl
 rw [e,key]
theorem q_storeS (g:Given P fm gm G w X μ σ N fr a) {n:Nat} {p x:Opd} (hc:opChk P fm gm (.storeS n p x) o.op=true) (h:storeSOf σ n (val G fr p) (val G fr x)=some (v,σ')):QWp P fm X μ o a w v:=by
 obtain ⟨dst,op,type,pos,after,guard⟩:=o
 simp only [opChk] at hc
 split at hc
 case h_2=>simp at hc
 rename_i t p' x'
 simp only [Bool.and_eq_true] at hc
 obtain ⟨⟨ht,hp'⟩,hx'⟩:=hc
 have rp:=val_rv g.glob g.rf hp'
 have rx:=val_rv g.glob g.rf hx'
 generalize val G fr p=pa at rp h
 unfold storeSOf at h
 split at h
 case h_2=>cases h
 rename_i b off
 split at h
 case h_2=>cases h
 rename_i cs hcs
 split at h <;> simp only [Option.some.injEq,Prod.mk.injEq,reduceCtorEq] at h
 rename_i hcond
 obtain ⟨hle,hn,hsame,how⟩:=hcond
 obtain ⟨rfl,rfl⟩:=h
 obtain ⟨cs',ho⟩:=Option.isSome_iff_exists.1 how
 have hget:σ.get b=some (.own cs'):=by
  unfold Store.owned at ho
  split at ho
  ·rename_i hh; rw [hh]; rw [Option.some.inj ho]
  ·cases ho
 obtain rfl:cs'=cs:=by unfold Store.cells at hcs; rw [hget] at hcs; exact Option.some.inj hcs
 obtain ⟨hsl,hsg⟩:=sameInts_get hsame
 have htl:((cs'.drop off).take n).length=n:=by simp; omega
 have hone:(val G fr x).cells.all AV.one=true:=by
  rw [List.all_eq_true]
  intro y hy
  obtain ⟨j,hj,rfl⟩:=List.getElem_of_mem hy
  obtain ⟨k,z,_,h2⟩:=hsg j (by omega)
  rw [List.getD_eq_getElem?_getD,List.getElem?_eq_getElem hj] at h2
  simp only [Option.getD_some] at h2
  rw [h2]; rfl
 have hkn:(val G fr x).known=true:=by
  cases hv:val G fr x <;> first | rfl | (rw [hv] at hone; simp [AV.cells,AV.one] at hone)
 obtain ⟨hl,hr⟩:=rx.cells hkn
 have hs:=sizeIs_run (P:=P) (w:=w) ht
 generalize hxv:a.eval x'=xv at rx hl hr
 generalize hpv:a.eval p'=pv at rp
 cases rp with
 | ptrDead _ _ ad hm=>have:=g.rs.dead b hm; simp [Store.cells,hget] at this
 | ptr _ _ blk base ow hm=>
  obtain ⟨cs2,arr,e,h1,h2,h3,h4⟩:=g.rs.cells b blk base ow hm
  rw [hget] at h1
  cases ow with
  | false=>simp at h1
  | true=>
   simp only [if_true,Option.some.injEq,Blk.own.injEq] at h1
   subst h1
   have hvl:xv.cells.toList.length=n:=by simp; omega
   have hone': ∀u∈xv.cells.toList,u.oneCell'=true:=all_one (cs:=(val G fr x).cells) (by simpa using hl) (fun j=>by simpa using hr j) hone
   have hrun:=run_storeCells_at (P:=P) blk (base+off) e xv.cells.toList 0 arr w h2 (by omega) hone'
   simp only [Nat.add_zero] at hrun
   have harr:(arr.toList.take (base+off) ++xv.cells.toList ++arr.toList.drop (base+off+xv.cells.toList.length)).toArray=arr:=by
    apply Array.ext'
    have hxs:xv.cells.toList=(arr.toList.drop (base+off)).take n:=by
     apply List.ext_getElem?
     intro j
     by_cases hj:j < n
     ·obtain ⟨k,z,q1,q2⟩:=hsg j (by omega)
      have r1:=hr j
      rw [q2] at r1
      have r2:=h4 (off+j) (by omega)
      have q3:cs'.getD (off+j) .undef= .int k z:=by
       rw [←q1]
       simp only [List.getD_eq_getElem?_getD,List.getElem?_take,List.getElem?_drop,if_pos hj]
      rw [q3] at r2
      have hja:base+off+j < arr.size:=by omega
      have hjx:j < xv.cells.size:=by have:=hvl; simp at this; omega
      have w1:xv.cells.getD j Go.undef= .int k z:=by
       generalize xv.cells.getD j Go.undef=u at r1; cases r1; rfl
      have w2:arr.getD (base+(off+j)) Go.undef= .int k z:=by
       generalize arr.getD (base+(off+j)) Go.undef=u at r2; cases r2; rfl
      rw [←Nat.add_assoc] at w2
      rw [List.getElem?_take,if_pos hj,List.getElem?_drop]
      simp [hjx] at w1
      simp [hja] at w2
      simp [hjx,hja,w1,w2]
     ·rw [List.getElem?_eq_none (by omega),List.getElem?_eq_none (by simp; omega)]
    rw [hvl]
    show arr.toList.take (base+off) ++xv.cells.toList ++arr.toList.drop (base+off+n)=arr.toList
    have hd:arr.toList.drop (base+off+n)=(arr.toList.drop (base+off)).drop n:=by rw [List.drop_drop]
    rw [hxs,hd,List.append_assoc,List.take_append_drop,List.take_append_drop]
   rw [harr,setRow_same h2] at hrun
   intro next Q hk
   unfold Oper.wp
   have hex:(execOp a.eval ⟨dst, .store t p' x',type,pos,after,guard⟩).run P w= .ok .skip w:=by
    simp only [execOp,hpv,hxv,Instr.storeAt,Instr.sureAddr,storeVar,Sem.run_bind,Sem.run_pure,Result.andThen_ok,hs,Sem.run_ite]
    rw [if_neg (by simp; omega)]
    simp [hrun]
   rw [hex]; exact hk _ w (.undef _) (Below.refl _ _)
theorem e_append (g:Given P fm gm G w X μ σ N fr a) {sz bytes:Nat} {str:Bool} {x y:Opd} (hc:opChk P fm gm (.append sz bytes str x y) o.op=true) {run:Runs}
  (h:doOp ip G run (.append sz bytes str x y) fr σ=some (v,σ')):Eff P fm X μ o a w v σ':=by
 obtain ⟨dst,op,type,pos,after,guard⟩:=o
 simp only [opChk] at hc
 split at hc
 case h_2=>simp at hc
 rename_i args argTypes
 simp only [Bool.and_eq_true] at hc
 obtain ⟨⟨hx,h0⟩,h1⟩:=hc
 obtain ⟨x',y',rfl,hx2,hy2⟩:=args_two hx
 have rx:=val_rv g.glob g.rf hx2
 have ry:=val_rv g.glob g.rf hy2
 unfold argTy at h0 h1
 cases ha0:argTypes[0]? with
 | none=>simp [ha0] at h0
 | some t=>
  cases ha1:argTypes[1]? with
  | none=>simp [ha1] at h1
  | some tx=>
   simp only [ha0] at h0
   simp only [ha1] at h1
   split at h0
   case h_2=>simp at h0
   rename_i e hu
   cases hi:P.info? e with
   | none=>simp [hi] at h0
   | some i=>
    simp only [hi,Bool.and_eq_true,beq_iff_eq] at h0
    obtain ⟨⟨hsz,hby⟩,hz⟩:=h0
    cases hzv:i.zero with
    | none=>simp [hzv] at hz
    | some z=>
     simp only [hzv,beq_iff_eq] at hz
     have hsz2:argTypes.size≥2:=by
      have:=(Array.getElem?_eq_some_iff.1 ha1).1
      omega
     have hat: ∀(av:Array Value),Builtin.append_ argTypes type av=Builtin.append_ #[t,tx] type av:=by
      intro av
      unfold Builtin.append_
      simp only [ha0,ha1]
      rfl
     have fin: ∀(new:List AV) (n:Nat),SrcRV P fm w X μ sz tx (a.eval y') n new→appendTo σ sz bytes (val G fr x) new n=some (v,σ')→
       Eff P fm X μ ⟨dst, .call { callee:= .builtin .append,args:=#[x',y'],argTypes:=argTypes },type,pos,after,guard⟩ a w v σ':=by
      intro new n hs happ
      obtain ⟨cv,w',μ',r1,r2,r3,r4,_⟩:=append_rv (P:=P) (ty:=type) g.rs g.out rx hu hi hzv hsz hby (by rw [hz]) hs happ
      refine ⟨cv,w',μ', .inl ?_,r2,r3,r4⟩
      simp [execOp,resolve,invoke,builtin,hat,r1]
     simp only [doOp] at h
     split at h1
     ·rename_i hut
      subst h1
      simp only [if_true] at h
      generalize hyv:val G fr y=yv at ry h
      split at h
      case h_2=>simp at h
      rename_i s
      split at h
      case isFalse=>simp at h
      rename_i hsz1
      subst hsz1
      generalize hyc:a.eval y'=yc at ry fin
      cases ry with
      | str _ b hb=>
       have hl:s.length=b.size:=by rw [←hb]; simp
       rw [←hb] at h
       have:=src_string (P:=P) (fm:=fm) (w:=w) (X:=X) (μ:=μ) (s:=b) hut
       refine fin _ _ this ?_
       rw [show b.size=b.data.toList.length from by simp]
       exact h
     ·rename_i e' hut
      simp only [Bool.not_eq_true'] at h1
      subst h1
      simp only [Bool.false_eq_true,if_false] at h
      split at h
      case h_2=>simp at h
      rename_i n new hn hro
      have hone:new.all AV.one=true:=by
       unfold appendTo at h
       split at h
       ·simp at h
       ·split at h
        ·rename_i hcond; exact hcond.2.2.2.2
        ·simp at h
      exact fin _ _ (src_slice g.rs ry hro hn hone hut) h
     ·simp at h1
theorem run_enter {dst:Option Tmp} {c:Call} {type:TypeId} {pos:String} {after:Array Edge} {guard:Option (Nat×Bool)} {fo:Operand} (hcal:c.callee= .value fo)
  {f':FuncId} {first' caps':Array Value} (hf:a.eval fo= .func (.func f') first' caps') {fn:Func} (h1:P.funcs[f']? =some fn) (h2:fn.body.isSome=true) (h3:fn.name≠ "runtime.NumGoroutine") :
  (execOp a.eval ⟨dst, .call c,type,pos,after,guard⟩).run P w= .ok (.enter f' (first' ++c.args.map a.eval ++caps')) w:=by
 have hb:fn.body.isNone=false:=by cases hb:fn.body <;> simp_all
 simp only [execOp,resolve,hcal,hf,Deferred.ofValue,Sem.run_bind,Sem.run_pure,Result.andThen_ok,invoke,callFunc,run_program,h1]
 simp [h3,hb]
theorem o_scall (g:Given P fm gm G w X μ σ N fr a) {n m:Nat} (hS:SCallsOk P fm gm G ip n) (hm:m < n) {sh:CMode} {f:Opd} {xs:List Opd} (hc:opChk P fm gm (.call sh f xs) o.op=true)
  (h:scall ip (run ip G m) (val G fr f) (xs.map (val G fr)) σ=some (v,σ')):OpWp P fm X μ o a w v σ':=by
 obtain ⟨dst,op,type,pos,after,guard⟩:=o
 simp only [opChk] at hc
 split at hc
 case h_2=>simp at hc
 rename_i fo args argTypes
 simp only [Bool.and_eq_true] at hc
 obtain ⟨hf,hx⟩:=hc
 have rf:=val_rv g.glob g.rf hf
 obtain ⟨l1,r1⟩:=vals_rv g.glob g.rf hx
 cases hfv:val G fr f with
 | fn id first caps=>
  rw [hfv] at h rf
  generalize hfe:a.eval fo=fv at rf
  cases rf with
  | fn _ f' _ _ first' caps' hfm ha hcp q1 q2=>
   obtain ⟨⟨fn,k1,k2,k3⟩,hcall⟩:=hS m hm X μ w σ σ' id first (xs.map (val G fr)) caps v h g.glob g.rs g.out f' first' (args.map a.eval) caps' hfm ha
    (by simpa using l1) hcp q1 (fun j=>by have:=r1 j; simpa using this) q2
   intro next Q hk
   have hrun:=run_enter (P:=P) (w:=w) (dst:=dst) (c:={ callee:= .value fo,args:=args,argTypes:=argTypes }) (type:=type) (pos:=pos) (after:=after) (guard:=guard) rfl hfe k1 k2 k3
   unfold Oper.wp
   rw [hrun]
   show Calls P f' _ w _
   refine Calls.mono hcall ?_
   rintro e w' ⟨cv,μ',rfl,h2,h3,h4⟩
   exact hk cv w' μ' h2 h4 h3
 | _=>rw [hfv] at h; simp [scall] at h
def Mu.frozen (μ:Mu):Mu:=fun b=>match μ b with
 | .at blk base _=> .at blk base false
 | l=>l
theorem frozen_not_own (μ:Mu) (b blk base:Nat):μ.frozen b≠ .at blk base true:=by
 unfold Mu.frozen
 split <;> simp_all
theorem freeze_get (σ:Store) (b:Nat):σ.freeze.get b=(σ.get b).map fun x=>match x with | .own cs=> .frz cs | x=>x:=by
 unfold Store.freeze Store.get
 simp only
 induction σ.m with
 | nil=>rfl
 | cons p l ih=>
  obtain ⟨i,x⟩:=p
  simp only [List.map_cons,look_cons]
  by_cases h:i=b
  ·rw [if_pos h,if_pos h]; rfl
  ·rw [if_neg h,if_neg h]; exact ih
theorem mem_freeze {σ:Store} {b e:Nat} (h:(b,Blk.tag e)∈σ.freeze.m):(b,Blk.tag e)∈σ.m:=by
 obtain ⟨⟨i,x⟩,h1,h2⟩:=List.mem_map.1 h
 simp only [Prod.mk.injEq] at h2
 obtain ⟨rfl,h2⟩:=h2
 cases x <;> simp at h2
 subst h2; exact h1
theorem freeze1_next (σ:Store) (b:Nat):(σ.freeze1 b).next=σ.next:=by unfold Store.freeze1; split <;> rfl
theorem mem_freeze1 {σ:Store} {b0 b e:Nat} (h:(b,Blk.tag e)∈(σ.freeze1 b0).m):(b,Blk.tag e)∈σ.m:=by
 unfold Store.freeze1 at h
 split at h
 ·exact mem_push (fun _=>by simp) h
 ·exact h
theorem freeze_rs (hS:RS (fm:=fm) σ w X μ):Ext w μ w μ.frozen∧RS (fm:=fm) σ.freeze w X μ.frozen:=by
 have hat: ∀b blk base o,μ.frozen b= .at blk base o→o=false∧∃o',μ b= .at blk base o':=by
  intro b blk base o h
  unfold Mu.frozen at h
  split at h
  ·rename_i bl ba oo hh
   simp only [Loc.at.injEq] at h
   obtain ⟨rfl,rfl,rfl⟩:=h
   exact ⟨rfl,oo,hh⟩
  ·rename_i l hh
   exact absurd h (hh _ _ _)
 have hext:Ext w μ w μ.frozen:=by
  refine ⟨rfl,rfl,rfl,Nat.le_refl _,fun _ _ _=>rfl,fun _ ar _ fz h=>⟨ar,fz,h,rfl⟩,fun b blk base h=>absurd h (frozen_not_own μ b blk base),fun b blk base o h=> .inr ⟨false,by simp [Mu.frozen,h]⟩,fun b h=>by simp [Mu.frozen,h]⟩
 refine ⟨hext,?_⟩
 refine ⟨fun b blk base o h=> ?_,fun b blk base h=>absurd h (frozen_not_own μ b blk base),fun b blk base h=> ?_,fun b b' blk base base' h=>absurd h (frozen_not_own μ b blk base),fun b blk base o h=> ?_,fun b h=> ?_,fun b x h=> ?_,fun b h=> ?_,fun b h=> ?_,hS.tys.step (fun _ _ h=>mem_freeze h) (Nat.le_refl _) (fun b blk base o _ _ h=>(hat b blk base o h).2) hext⟩
 ·obtain ⟨_,o',h'⟩:=hat b blk base o h
  exact hS.lt b blk base o' h'
 ·obtain ⟨_,o',h'⟩:=hat b blk base false h
  rintro (hx | ⟨b',base',hx⟩)
  ·cases o' with
   | true=>exact hS.far b blk base h' hx
   | false=>exact hS.frz b blk base h' (.inl hx)
  ·exact frozen_not_own μ b' blk base' hx
 ·obtain ⟨rfl,o',h'⟩:=hat b blk base o h
  obtain ⟨cs,arr,e,h1,h2,h3,h4⟩:=hS.cells b blk base o' h'
  exact ⟨cs,arr,e,by rw [freeze_get,h1]; cases o' <;> rfl,h2,h3,fun j hj=>(h4 j hj).ext hext⟩
 ·rw [freeze_get] at h
  have h':σ.get b=none:=by cases hg:σ.get b <;> simp_all
  simp [Mu.frozen,hS.born b h']
 ·rw [freeze_get] at h
  cases hg:σ.get b with
  | none=>simp [hg] at h
  | some y=>exact hS.lim b y hg
 ·rw [freeze_get] at h
  cases hg:σ.get b with
  | none=>simp [hg] at h
  | some y=>
   rw [hg] at h
   cases y <;> simp at h
   simp [Mu.frozen,hS.gone b hg]
 ·have h':μ b= .dead:=by
   unfold Mu.frozen at h
   split at h
   ·simp at h
   ·exact h
  have:=hS.dead b h'
  simp only [Store.cells,freeze_get] at this ⊢
  cases hg:σ.get b with
  | none=>rfl
  | some y=>rw [hg] at this; cases y <;> simp_all
def Mu.frozen1 (μ:Mu) (b:Nat):Mu:=fun b'=>if b'=b then (match μ b with
 | .at blk base _=> .at blk base false
 | l=>l) else μ b'
theorem freeze1_get (σ:Store) (b b':Nat):(σ.freeze1 b).get b'=if b'=b then (match σ.get b with | some (.own cs)=>some (.frz cs) | x=>x) else σ.get b':=by
 unfold Store.freeze1
 by_cases h:b'=b
 ·subst h
  rw [if_pos rfl]
  split
  ·rename_i cs hg
   rw [set_get,if_pos rfl]
   rw [hg]
  ·rename_i hg
   cases hx:σ.get b' with
   | none=>rfl
   | some y=>cases y <;> simp_all
 ·rw [if_neg h]
  split
  ·rw [set_get,if_neg h]
  ·rfl
theorem freeze1_rs (hS:RS (fm:=fm) σ w X μ) (b0:Nat):Ext w μ w (μ.frozen1 b0)∧RS (fm:=fm) (σ.freeze1 b0) w X (μ.frozen1 b0):=by
 have hat: ∀b blk base o,μ.frozen1 b0 b= .at blk base o→(b=b0→o=false)∧(b≠b0→μ b= .at blk base o)∧∃o',μ b= .at blk base o':=by
  intro b blk base o h
  unfold Mu.frozen1 at h
  by_cases hb:b=b0
  ·subst hb
   rw [if_pos rfl] at h
   split at h
   ·rename_i bl ba oo hh
    simp only [Loc.at.injEq] at h
    obtain ⟨rfl,rfl,rfl⟩:=h
    exact ⟨fun _=>rfl,fun hn=>absurd rfl hn,oo,hh⟩
   ·rename_i l hh
    exact absurd h (hh _ _ _)
  ·rw [if_neg hb] at h
   exact ⟨fun e=>absurd e hb,fun _=>h,o,h⟩
 have hown: ∀b blk base,μ.frozen1 b0 b= .at blk base true→b≠b0∧μ b= .at blk base true:=by
  intro b blk base h
  obtain ⟨h1,h2,_⟩:=hat b blk base true h
  have hb:b≠b0:=fun e=>by have:=h1 e; simp at this
  exact ⟨hb,h2 hb⟩
 have hext:Ext w μ w (μ.frozen1 b0):=by
  refine ⟨rfl,rfl,rfl,Nat.le_refl _,fun _ _ _=>rfl,fun _ ar _ fz h=>⟨ar,fz,h,rfl⟩,fun b blk base h=> .inl ⟨_,_,(hown b blk base h).2⟩,fun b blk base o h=> .inr ?_,fun b h=> ?_⟩
  ·unfold Mu.frozen1
   by_cases hb:b=b0
   ·subst hb; exact ⟨false,by simp [h]⟩
   ·exact ⟨o,by simp [hb,h]⟩
  ·unfold Mu.frozen1
   by_cases hb:b=b0
   ·subst hb; simp [h]
   ·simp [hb,h]
 refine ⟨hext,?_⟩
 refine ⟨fun b blk base o h=> ?_,fun b blk base h=>hS.far b blk base (hown b blk base h).2,fun b blk base h=> ?_,fun b b' blk base base' h h'=>hS.inj b b' blk base base' (hown b blk base h).2 (hown b' blk base' h').2,fun b blk base o h=> ?_,fun b h=> ?_,fun b x h=> ?_,fun b h=> ?_,fun b h=> ?_,hS.tys.step (fun _ _ h=>mem_freeze1 h) (by rw [freeze1_next]; exact Nat.le_refl _) (fun b blk base o _ _ h=>(hat b blk base o h).2.2) hext⟩
 ·obtain ⟨_,_,o',h'⟩:=hat b blk base o h
  exact hS.lt b blk base o' h'
 ·obtain ⟨_,h2,o',h'⟩:=hat b blk base false h
  rintro (hx | ⟨b',base',hx⟩)
  ·cases o' with
   | true=>exact hS.far b blk base h' hx
   | false=>exact hS.frz b blk base h' (.inl hx)
  ·obtain ⟨hb',hx'⟩:=hown b' blk base' hx
   cases o' with
   | false=>exact hS.frz b blk base h' (.inr ⟨b',base',hx'⟩)
   | true=>
    have:=hS.inj b b' blk base base' h' hx'
    subst this
    have:=h2 hb'
    rw [h'] at this; simp at this
 ·obtain ⟨h1,h2,o',h'⟩:=hat b blk base o h
  obtain ⟨cs,arr,e,k1,k2,k3,k4⟩:=hS.cells b blk base o' h'
  refine ⟨cs,arr,e,?_,k2,k3,fun j hj=>(k4 j hj).ext hext⟩
  rw [freeze1_get]
  by_cases hb:b=b0
  ·subst hb
   have:=h1 rfl
   subst this
   rw [if_pos rfl,k1]
   cases o' <;> rfl
  ·rw [if_neg hb]
   have:=h2 hb
   rw [h'] at this
   simp only [Loc.at.injEq,true_and] at this
   subst this
   exact k1
 ·rw [freeze1_get] at h
  unfold Mu.frozen1
  by_cases hb:b=b0
  ·subst hb
   rw [if_pos rfl] at h
   have h':σ.get b=none:=by cases hg:σ.get b with
    | none=>rfl
    | some y=>rw [hg] at h; cases y <;> simp at h
   simp [hS.born b h']
  ·rw [if_neg hb] at h
   simp [hb,hS.born b h]
 ·have hn:(σ.freeze1 b0).next=σ.next:=by unfold Store.freeze1; split <;> rfl
  rw [hn]
  rw [freeze1_get] at h
  by_cases hb:b=b0
  ·subst hb
   cases hg:σ.get b with
   | none=>rw [if_pos rfl,hg] at h; simp at h
   | some y=>exact hS.lim b y hg
  ·rw [if_neg hb] at h; exact hS.lim b x h
 ·rw [freeze1_get] at h
  unfold Mu.frozen1
  by_cases hb:b=b0
  ·subst hb
   rw [if_pos rfl] at h
   have h':σ.get b=some .dead:=by cases hg:σ.get b with
    | none=>rw [hg] at h; simp at h
    | some y=>rw [hg] at h; cases y <;> simp_all
   simp [hS.gone b h']
  ·rw [if_neg hb] at h
   simp [hb,hS.gone b h]
 ·have h':μ b= .dead:=by
   unfold Mu.frozen1 at h
   by_cases hb:b=b0
   ·subst hb
    rw [if_pos rfl] at h
    split at h
    ·simp at h
    ·exact h
   ·rw [if_neg hb] at h; exact h
  have:=hS.dead b h'
  simp only [Store.cells,freeze1_get] at this ⊢
  by_cases hb:b=b0
  ·subst hb
   rw [if_pos rfl]
   cases hg:σ.get b with
   | none=>rfl
   | some y=>rw [hg] at this; cases y <;> simp_all
  ·rw [if_neg hb]; exact this
theorem freezeV_rs (hS:RS (fm:=fm) σ w X μ) (v:AV): ∃μ',Ext w μ w μ'∧RS (fm:=fm) (σ.freezeV v) w X μ':=by
 unfold Store.freezeV
 split
 ·exact ⟨_,freeze1_rs hS _⟩
 ·exact ⟨_,freeze1_rs hS _⟩
 ·exact ⟨μ,Ext.refl _ _,hS⟩
theorem freezeTs_rs {fr:Fr}: ∀(ts:List Nat) {σ:Store} {μ:Mu},RS (fm:=fm) σ w X μ→∃μ',Ext w μ w μ'∧RS (fm:=fm) (freezeTs fr ts σ) w X μ'
 | [],_,μ,hS=>⟨μ,Ext.refl _ _,hS⟩
 | t ::ts,_,_,hS=>by
  obtain ⟨μ1,x1,r1⟩:=freezeV_rs hS (fr.get t)
  obtain ⟨μ2,x2,r2⟩:=freezeTs_rs ts r1
  exact ⟨μ2,x1.trans x2,r2⟩
theorem empty_rs:RS (fm:=fm) Store.empty w X Mu.none:=by
 refine ⟨?_,?_,?_,?_,?_,?_,?_,?_,?_,fun _ _ h=>by simp [Store.empty] at h⟩ <;> intros <;> simp_all [Mu.none,Store.empty,Store.get,look]
theorem below_of_ext {w w':World} {μ':Mu} (h:Ext w Mu.none w' μ'):Below w.heap.size w w':=
 ⟨h.os,h.tape,h.output,h.size,fun k hk=>h.keep k hk (by rintro ⟨b,base,hb⟩; simp [Mu.none] at hb)⟩
theorem rb_fn {d:Nat} {x y:AV} (h:rb σ d x=some y) {id:Nat} {p q:List AV} (hy:y= .fn id p q): ∃p' q',x= .fn id p' q':=by
 subst hy
 cases d with
 | zero=>
  simp only [rb] at h
  split at h <;> simp only [Option.some.injEq,reduceCtorEq] at h
  exact ⟨p,q,h⟩
 | succ d=>
  simp only [rb] at h
  split at h
  ·simp only [Option.some.injEq] at h; exact ⟨p,q,h⟩
  ·cases x <;> simp only [reduceCtorEq] at h
   case fn=>
    split at h <;> simp only [Option.some.injEq,reduceCtorEq,AV.fn.injEq] at h
    obtain ⟨rfl,_,_⟩:=h
    exact ⟨_,_,rfl⟩
   all_goals
    (repeat' split at h) <;> simp only [Option.some.injEq,reduceCtorEq] at h
theorem mapO_rv {d:Nat} (hS:RS (fm:=fm) σ w X μ) {X':Nat→Prop} (hX: ∀blk,X' blk→Av X μ blk) (hlive: ∀b blk base o,μ b= .at blk base o→¬X' blk) {l m:List AV} {vs:Array Value}
  (h:mapO (rb σ d) l=some m) (hr: ∀j,RV fm w X μ (l.getD j .undef) (vs.getD j Go.undef)):l.length=m.length∧∀j,RV fm w X' Mu.none (m.getD j .undef) (vs.getD j Go.undef):=by
 obtain ⟨h1,h2⟩:=mapO_get h
 refine ⟨h1,fun j=> ?_⟩
 by_cases hj:j < l.length
 ·exact rb_rv hS hX hlive d (h2 j hj) (hr j)
 ·have:m.getD j .undef= .undef:=by rw [List.getD_eq_getElem?_getD,List.getElem?_eq_none (by omega)]; rfl
  rw [this]; exact .undef _
theorem rb_same {d:Nat} {x:AV} (h:x.closed=true):rb σ d x=some x:=by
 cases d <;> simp [rb,h]
theorem mapO_closed {d:Nat} {l m:List AV} (h:mapO (rb σ d) l=some m) (hc:closedL l=true):m=l:=by
 obtain ⟨h1,h2⟩:=mapO_get h
 apply List.ext_getElem?
 intro j
 by_cases hj:j < l.length
 ·have h3:=h2 j hj
  have h4:=closedL_get hc j
  have h5:rb σ d (l.getD j .undef)=some (l.getD j .undef):=rb_same h4
  rw [h5] at h3
  simp only [Option.some.injEq] at h3
  have hj':j < m.length:=by omega
  simp only [List.getD_eq_getElem?_getD,List.getElem?_eq_getElem hj,List.getElem?_eq_getElem hj',Option.getD_some] at h3
  rw [List.getElem?_eq_getElem hj,List.getElem?_eq_getElem hj',h3]
 ·rw [List.getElem?_eq_none (by omega),List.getElem?_eq_none (by omega)]
theorem o_pcall_core (g:Given P fm gm G w X μ σ N fr a) {n m:Nat} (hSC:SCallsOk P fm gm G ip n) (hm:m < n) (hglob: ∀(w':World) (X':Nat→Prop),Below w.heap.size w w'→(∀b,X' b→Av X μ b)→GlobOK fm gm G w' X' Mu.none)
  {sh:CMode} {f:Opd} {xs:List Opd} (hc:opChk P fm gm (.call sh f xs) o.op=true)
  {ea st:Bool} (h:pcall ip (run ip G m) ea st (val G fr f) (xs.map (val G fr)) σ=some (v,σ')):(QWp P fm X μ o a w v∧σ'=σ)∨(st=false∧OpWp P fm X μ o a w v σ'):=by
 obtain ⟨dst,op,type,pos,after,guard⟩:=o
 simp only [opChk] at hc
 split at hc
 case h_2=>simp at hc
 rename_i fo args argTypes
 simp only [Bool.and_eq_true] at hc
 obtain ⟨hf,hx⟩:=hc
 have rf:=val_rv g.glob g.rf hf
 obtain ⟨l1,r1⟩:=vals_rv g.glob g.rf hx
 have r1': ∀j,RV fm w X μ ((xs.map (val G fr)).getD j .undef) ((args.map a.eval).getD j Go.undef):=fun j=>by have:=r1 j; simpa using this
 unfold pcall at h
 split at h
 case h_2=>simp at h
 rename_i fv' args' hrf hra
 split at h
 case h_2=>simp at h
 rename_i r σ1 hsc
 split at h
 case h_2=>simp at h
 rename_i r' hrr
 have hfv: ∃id p q,fv'= .fn id p q:=by
  cases fv' with
  | fn id p q=>exact ⟨id,p,q,rfl⟩
  | _=>simp [scall,AV.er] at hsc
 obtain ⟨id,first,caps,rfl⟩:=hfv
 obtain ⟨first0,caps0,hfv0⟩:=rb_fn hrf rfl
 have key: ∀(X':Nat→Prop),(∀b,X' b→Av X μ b)→(∀b blk base o,μ b= .at blk base o→¬X' blk)∨((val G fr f).closed=true∧closedL (xs.map (val G fr))=true)→
   ∃f' first' caps',a.eval fo= .func (.func f') first' caps'∧(∃fn,P.funcs[f']? =some fn∧fn.body.isSome=true∧fn.name≠ "runtime.NumGoroutine")∧
    Calls P f' (first' ++args.map a.eval ++caps') w fun e w'=>∃cv,e= .returned cv∧RV fm w' X' Mu.none (if ea=true then r'.er else r') cv∧Below w.heap.size w w':=by
  intro X' hX' hcase
  have hA: ∀blk,Av X' Mu.none blk→Av X μ blk:=by
   rintro blk (hh | ⟨b,base,hh⟩)
   ·exact hX' blk hh
   ·simp [Mu.none] at hh
  have hXlt: ∀b,X' b→b < w.heap.size:=by
   intro b hb
   rcases hX' b hb with hh | ⟨b',base,hh⟩
   ·exact g.out b hh
   ·exact g.rs.lt b' b base true hh
  have rfn:RV fm w X' Mu.none (AV.fn id (erL first) (erL caps)) (a.eval fo):=by
   suffices hh:RV fm w X' Mu.none (.fn id first caps) (a.eval fo) by simpa [AV.er] using er_rv hh
   rcases hcase with hl | ⟨hcf,_⟩
   ·exact rb_rv g.rs hX' hl rbDepth hrf rf
   ·rw [rb_same hcf] at hrf
    simp only [Option.some.injEq] at hrf
    rw [←hrf]
    exact closed_rv rf hcf hA
  have rargs:(xs.map (val G fr)).length=(if ea=true then erL args' else args').length∧∀j,RV fm w X' Mu.none ((if ea=true then erL args' else args').getD j .undef) ((args.map a.eval).getD j Go.undef):=by
   suffices hh:(xs.map (val G fr)).length=args'.length∧∀j,RV fm w X' Mu.none (args'.getD j .undef) ((args.map a.eval).getD j Go.undef) by
    cases ea with
    | false=>exact hh
    | true=>exact ⟨by simpa [erL_map] using hh.1,fun j=>by rw [if_pos rfl,erL_getD]; exact er_rv (hh.2 j)⟩
   rcases hcase with hl | ⟨_,hca⟩
   ·exact mapO_rv g.rs hX' hl hra r1'
   ·have hsame:=mapO_closed hra hca
    rw [hsame]
    exact ⟨rfl,fun j=>closed_rv (r1' j) (closedL_get hca j) hA⟩
  generalize hfe:a.eval fo=fv at rfn
  cases rfn with
  | fn _ f' _ _ first' caps' hfm ha hcp q1 q2=>
   obtain ⟨hfn,hcall⟩:=hSC m hm X' Mu.none w .empty σ1 id (erL first) (if ea=true then erL args' else args') (erL caps) r hsc (hglob w X' (Below.refl _ _) hX') empty_rs hXlt f' first' (args.map a.eval) caps' hfm ha
    (by rw [←rargs.1]; simpa using l1) hcp q1 rargs.2 q2
   refine ⟨f',first',caps',rfl,hfn,Calls.mono hcall ?_⟩
   rintro e w' ⟨cv,μ1,rfl,h2,h3,h4⟩
   have hb:=below_of_ext h4
   have hXav: ∀blk,X' blk→Av X' μ1 blk:=fun blk hh=> .inl hh
   have hlive: ∀b blk base o,μ1 b= .at blk base o→¬X' blk:=by
    intro b blk base o hmm
    cases o with
    | true=>exact h3.far b blk base hmm
    | false=>exact fun hh=>h3.frz b blk base hmm (.inl hh)
   refine ⟨cv,rfl,?_,hb⟩
   cases ea with
   | false=>exact rb_rv h3 hXav hlive rbDepth hrr h2
   | true=>exact er_rv (rb_rv h3 hXav hlive rbDepth hrr h2)
 have hclosed:(if ea=true then r'.er else r').closed=true:=by
  cases ea with
  | false=>exact rb_closed rbDepth hrr
  | true=>rw [if_pos rfl,er_closed]; exact rb_closed rbDepth hrr
 have hflt:(if ea=true then r'.er else r').flat=r'.flat:=by
  cases ea with
  | false=>rfl
  | true=>rw [if_pos rfl,er_flat]
 generalize hres:(if ea=true then r'.er else r')=res at key h hclosed hflt
 have fin: ∀(X':Nat→Prop) (μ2:Mu) (σ2:Store),(∃f' first' caps',a.eval fo= .func (.func f') first' caps'∧(∃fn,P.funcs[f']? =some fn∧fn.body.isSome=true∧fn.name≠ "runtime.NumGoroutine")∧
    Calls P f' (first' ++args.map a.eval ++caps') w fun e w'=>∃cv,e= .returned cv∧RV fm w' X' Mu.none res cv∧Below w.heap.size w w')→
   (∀w' cv,Below w.heap.size w w'→RV fm w' X' Mu.none res cv→RV fm w' X μ2 res cv)→Ext w μ w μ2→RS (fm:=fm) σ2 w X μ2→
   OpWp P fm X μ ⟨dst, .call { callee:= .value fo,args:=args,argTypes:=argTypes },type,pos,after,guard⟩ a w res σ2:=by
  intro X' μ2 σ2 hk hback hext2 hrs2 next Q hnext
  obtain ⟨f',first',caps',hfe,⟨fn,k1,k2,k3⟩,hcall⟩:=hk
  have hrun:=run_enter (P:=P) (w:=w) (dst:=dst) (c:={ callee:= .value fo,args:=args,argTypes:=argTypes }) (type:=type) (pos:=pos) (after:=after) (guard:=guard) rfl hfe k1 k2 k3
  unfold Oper.wp
  rw [hrun]
  show Calls P f' _ w _
  refine Calls.mono hcall ?_
  rintro e w' ⟨cv,rfl,h2,h3⟩
  exact hnext cv w' μ2 (hback w' cv h3 h2) (hext2.trans (Ext.of_below h3)) (hrs2.below h3)
 have finq: ∀(X':Nat→Prop),(∃f' first' caps',a.eval fo= .func (.func f') first' caps'∧(∃fn,P.funcs[f']? =some fn∧fn.body.isSome=true∧fn.name≠ "runtime.NumGoroutine")∧
    Calls P f' (first' ++args.map a.eval ++caps') w fun e w'=>∃cv,e= .returned cv∧RV fm w' X' Mu.none res cv∧Below w.heap.size w w')→
   (∀w' cv,Below w.heap.size w w'→RV fm w' X' Mu.none res cv→RV fm w' X μ res cv)→
   QWp P fm X μ ⟨dst, .call { callee:= .value fo,args:=args,argTypes:=argTypes },type,pos,after,guard⟩ a w res:=by
  intro X' hk hback next Q hnext
  obtain ⟨f',first',caps',hfe,⟨fn,k1,k2,k3⟩,hcall⟩:=hk
  have hrun:=run_enter (P:=P) (w:=w) (dst:=dst) (c:={ callee:= .value fo,args:=args,argTypes:=argTypes }) (type:=type) (pos:=pos) (after:=after) (guard:=guard) rfl hfe k1 k2 k3
  unfold Oper.wp
  rw [hrun]
  show Calls P f' _ w _
  refine Calls.mono hcall ?_
  rintro e w' ⟨cv,rfl,h2,h3⟩
  exact hnext cv w' (hback w' cv h3 h2) h3
 split at h
 ·rename_i hcond
  simp only [Option.some.injEq,Prod.mk.injEq] at h
  obtain ⟨rfl,rfl⟩:=h
  simp only [Bool.or_eq_true,Bool.and_eq_true] at hcond
  refine .inl ⟨?_,rfl⟩
  rcases hcond with hflat | ⟨hcf,hca⟩
  ·exact finq (fun _=>False) (key _ (fun _ hh=>hh.elim) (.inl (fun _ _ _ _ _ hh=>hh))) (fun w' cv _ hr=>flat_rv hr (by rw [hflt]; exact hflat))
  ·exact finq (Av X μ) (key _ (fun _ hh=>hh) (.inr ⟨hcf,hca⟩)) (fun w' cv _ hr=>closed_rv hr hclosed (fun blk hh=> .inl hh))
 ·split at h <;> simp only [Option.some.injEq,Prod.mk.injEq,reduceCtorEq] at h
  rename_i hst
  obtain ⟨rfl,rfl⟩:=h
  obtain ⟨x1,x2⟩:=freeze_rs g.rs
  refine .inr ⟨by simpa using hst,fin X μ.frozen _ (key _ (fun _ hh=> .inl hh) (.inl (fun b blk base o hmm hx=> ?_))) (fun w' cv _ hr=>closed_rv hr hclosed ?_) x1 x2⟩
  ·cases o with
   | true=>exact g.rs.far b blk base hmm hx
   | false=>exact g.rs.frz b blk base hmm (.inl hx)
  ·rintro blk (hh | ⟨b,base,hh⟩)
   ·exact .inl hh
   ·exact absurd hh (frozen_not_own μ b blk base)
theorem o_pcall (g:Given P fm gm G w X μ σ N fr a) {n m:Nat} (hSC:SCallsOk P fm gm G ip n) (hm:m < n) (hglob: ∀(w':World) (X':Nat→Prop),Below w.heap.size w w'→(∀b,X' b→Av X μ b)→GlobOK fm gm G w' X' Mu.none)
  {sh:CMode} {f:Opd} {xs:List Opd} (hc:opChk P fm gm (.call sh f xs) o.op=true)
  {ea st:Bool} (h:pcall ip (run ip G m) ea st (val G fr f) (xs.map (val G fr)) σ=some (v,σ')):OpWp P fm X μ o a w v σ':=by
 rcases o_pcall_core g hSC hm hglob hc h with ⟨h1,rfl⟩ | ⟨_,h1⟩
 ·exact h1.opWp g
 ·exact h1
theorem noItems_one {xs:List Opd} (h:noItems (xs.map (val G fr))=true): ∃x,xs= [x]∧noItems [val G fr x]=true:=by
 match xs,h with
 | [x],h=>exact ⟨x,rfl,h⟩
 | [],h=>simp [noItems] at h
 | _ ::_ ::_,h=>simp [noItems] at h
theorem noItems_rv {w:World} {X:Nat→Prop} {μ:Mu} {x:AV} {cv:Value} (h:noItems [x]=true) (r:RV fm w X μ x cv):RV fm w X μ .nils cv∨RV fm w X μ .e0 cv:=by
 cases r with
 | nils=>exact .inl .nils
 | e0 a c=>exact .inr (.e0 a c)
 | vslEmpty cap a c hcap=>exact .inr (.e0 a c)
 | vslNil cap hcap=>exact .inl .nils
 | vsl els cap blk base sz c g hA hlt hs hl hcap hc hr=>
  cases els with
  | nil=>exact .inr (.e0 _ _)
  | cons y ys=>simp [noItems] at h
 | _=>simp [noItems] at h
theorem e00_rv {w:World} {X:Nat→Prop} {μ:Mu} {x:AV} {cv:Value} (h:e00 x=true) (r:RV fm w X μ x cv):RV fm w X μ (.vsl [] (some 0)) cv:=by
 cases r with
 | nils=>exact .vslNil _ (.inr rfl)
 | vslEmpty cap a c hcap=>
  have:cap=some 0:=by unfold e00 at h; split at h <;> simp_all
  subst this
  exact .vslEmpty _ _ _ hcap
 | vslNil cap hcap=>exact .vslNil _ (.inr rfl)
 | vsl els cap blk base sz c g hA hlt hs hl hcap hc hr=>
  cases els with
  | nil=>
   have:cap=some 0:=by unfold e00 at h; split at h <;> simp_all
   subst this
   refine .vslEmpty _ _ _ ?_
   rcases hcap with h | h
   ·simp at h
   ·exact .inr h
  | cons y ys=>simp [e00] at h
 | _=>simp [e00] at h
theorem QWp.weaken {o:Oper} {u v:AV} (h:QWp P fm X μ o a w u) (hv: ∀(w':World) (cv:Value),RV fm w' X μ u cv→RV fm w' X μ v cv):QWp P fm X μ o a w v:=by
 intro next Q hnext
 exact h next Q (fun cv w' hr hb=>hnext cv w' (hv w' cv hr) hb)
theorem o_both (g:Given P fm gm G w X μ σ N fr a) {n m:Nat} (hSC:SCallsOk P fm gm G ip n) (hm:m < n) (hglob: ∀(w':World) (X':Nat→Prop),Below w.heap.size w w'→(∀b,X' b→Av X μ b)→GlobOK fm gm G w' X' Mu.none)
  {sh:CMode} {f:Opd} {xs:List Opd} (hc:opChk P fm gm (.call sh f xs) o.op=true) (hn:noItems (xs.map (val G fr))=true)
  (h:bothWays ip (run ip G m) (val G fr f) σ=true):QWp P fm X μ o a w (.vsl [] (some 0)):=by
 obtain ⟨x,rfl,hx⟩:=noItems_one hn
 unfold bothWays at h
 split at h
 case h_2=>simp at h
 rename_i r1 σ1 r2 σ2 h1 h2
 simp only [Bool.and_eq_true] at h
 have fin: ∀ {r1:AV} {σ1:Store} {a0:AV} {fr0:Fr} {x0:Opd} (g0:Given P fm gm G w X μ σ N fr0 a),opChk P fm gm (.call sh f [x0]) o.op=true→val G fr0 f=val G fr f→val G fr0 x0=a0→
   pcall ip (run ip G m) false true (val G fr f) [a0] σ=some (r1,σ1)→e00 r1=true→QWp P fm X μ o a w (.vsl [] (some 0)):=by
  intro r1 σ1 a0 fr0 x0 g0 hc0 hf0 hx0 hp he
  have hp':pcall ip (run ip G m) false true (val G fr0 f) ([x0].map (val G fr0)) σ=some (r1,σ1):=by
   rw [hf0,List.map_cons,List.map_nil,hx0]; exact hp
  rcases o_pcall_core g0 hSC hm hglob hc0 hp' with ⟨q,_⟩ | ⟨q,_⟩
  ·exact q.weaken (fun w' cv hr=>e00_rv he hr)
  ·simp at q
 cases x with
 | func f=>simp [val,noItems] at hx
 | glob gg=>simp [val,noItems] at hx
 | const v=>
  have hv:v= .nils:=by
   have hc':=hc
   simp only [opChk] at hc'
   split at hc'
   case h_2=>simp at hc'
   rename_i f' args argTypes _
   simp only [Bool.and_eq_true] at hc'
   have hx2:=hc'.2
   revert hx2
   cases args.toList with
   | nil=>intro hh; simp [opdsChk] at hh
   | cons y ys=>
    simp only [opdsChk,Bool.and_eq_true]
    rintro ⟨q,_⟩
    simp only [val] at hx
    cases v with
    | nils=>rfl
    | vsl els cap=>cases y <;> simp [opdChk,constChk] at q
    | e0=>cases y <;> simp [opdChk,constChk] at q
    | _=>simp [noItems] at hx
  subst hv
  exact fin g hc rfl rfl h1 h.1
 | tmp t=>
  have hne: ∀t',f= .tmp t'→t'≠t:=by
   rintro t' rfl rfl
   simp only [val] at hx h1
   unfold pcall at h1
   cases hv:fr.get t' with
   | nils=>rw [hv] at h1; simp [rb,rbDepth,AV.closed,mapO,AV.er,scall] at h1
   | e0=>rw [hv] at h1; simp [rb,rbDepth,AV.closed,mapO,AV.er,scall] at h1
   | vsl els cap=>
    cases els with
    | nil=>rw [hv] at h1; simp [rb,rbDepth,AV.closed,closedL,mapO,AV.er,scall] at h1
    | cons y ys=>rw [hv] at hx; simp [noItems] at hx
   | _=>rw [hv] at hx; simp [noItems] at hx
  have hfv: ∀u:AV,val G ((t,u) ::fr) f=val G fr f:=by
   intro u
   cases f with
   | tmp t'=>
    have:=hne t' rfl
    simp only [val,Fr.get,look]
    rw [if_neg (fun hh=>this hh.symm)]
   | _=>rfl
  have hxv: ∀u:AV,val G ((t,u) ::fr) (.tmp t)=u:=by
   intro u; simp [val,Fr.get,look]
  have hg: ∀u:AV,RV fm w X μ u (a.tmps.getD t Go.undef)→Given P fm gm G w X μ σ N ((t,u) ::fr) a:=by
   intro u hu
   refine ⟨g.glob,g.rs,g.out,⟨g.rf.size,fun t'=> ?_⟩⟩
   by_cases ht:t=t'
   ·subst ht; simpa [Fr.get,look] using hu
   ·have:Fr.get ((t,u) ::fr) t'=fr.get t':=by simp [Fr.get,look,ht]
    rw [this]; exact g.rf.val t'
  rcases noItems_rv hx (g.rf.val t) with hr | hr
  ·exact fin (hg _ hr) hc (hfv _) (hxv _) h1 h.1
  ·exact fin (hg _ hr) hc (hfv _) (hxv _) h2 h.2
end
end Go.Ab
namespace Go.Ab
open Go.RowKit
section
variable {P:Program} {fm gm:Nat→Option Nat} {G:Nat→List AV}
variable {w:World} {X:Nat→Prop} {μ:Mu} {σ σ':Store} {N:Nat} {fr:Fr} {a:Act} {o:Oper} {v:AV}
theorem opds_one {x:Opd} {l:List Operand} (h:opdsChk fm gm [x] l=true): ∃x',l= [x']∧opdChk fm gm x x'=true:=by
 cases l with
 | nil=>simp [opdsChk] at h
 | cons y l=>
  cases l with
  | nil=>simp only [opdsChk,Bool.and_true] at h; exact ⟨y,rfl,h⟩
  | cons z l=>simp [opdsChk] at h
theorem map_one {α β:Type} {f:α→β} {xs:List α} {y:β} (h:xs.map f= [y]): ∃x,xs= [x]∧f x=y:=by
 cases xs with
 | nil=>simp at h
 | cons x xs=>
  cases xs with
  | nil=>simp at h; exact ⟨x,rfl,h⟩
  | cons z xs=>simp at h
theorem e_makeSl (g:Given P fm gm G w X μ σ N fr a) {sz bytes:Nat} {z:List AV} {xs:List Opd} (hc:opChk P fm gm (.prim (.makeSl sz bytes z) xs) o.op=true) {k:IntKind} {n:Int}
  (hx:xs.map (val G fr)= [.int k n]) (h:makeSlOf σ sz bytes z n=some (v,σ')):Eff P fm X μ o a w v σ':=by
 obtain ⟨x,rfl,hxv⟩:=map_one hx
 obtain ⟨dst,op,type,pos,after,guard⟩:=o
 simp only [opChk] at hc
 split at hc
 case h_2=>simp at hc
 rename_i t lo co
 simp only [Bool.and_eq_true] at hc
 obtain ⟨⟨ht,hl⟩,hcc⟩:=hc
 obtain ⟨l',e1,hl⟩:=opds_one hl
 simp only [List.cons.injEq,and_true] at e1; subst e1
 obtain ⟨c',e1,hcc⟩:=opds_one hcc
 simp only [List.cons.injEq,and_true] at e1; subst e1
 have rl:=val_rv g.glob g.rf hl
 have rc:=val_rv g.glob g.rf hcc
 rw [hxv] at rl rc
 have hlv:a.eval lo= .int k n:=by
  generalize a.eval lo=y at rl
  cases rl; rfl
 have hcv:a.eval co= .int k n:=by
  generalize a.eval co=y at rc
  cases rc; rfl
 split at ht
 case h_2=>simp at ht
 rename_i e hu
 cases hi:P.info? e with
 | none=>simp [hi] at ht
 | some i=>
  simp only [hi,Bool.and_eq_true,beq_iff_eq] at ht
  obtain ⟨⟨hsz,hby⟩,hz⟩:=ht
  have hz0:=hz
  unfold zeroIs at hz
  rw [hi] at hz
  simp only at hz
  cases hzv:i.zero with
  | none=>simp [hzv] at hz
  | some zv=>
   rw [hzv] at hz
   simp only at hz
   obtain ⟨c1,c2⟩:=constChkL_rv (fm:=fm) (w:=w) (X:=X) (μ:=μ) z zv.cells.toList hz
   unfold makeSlOf at h
   split at h
   case isFalse=>simp at h
   rename_i hcond
   obtain ⟨h0,hmax,hzl,hsp,hbp⟩:=hcond
   have hex:execOp a.eval ⟨dst, .makeSlice t lo co,type,pos,after,guard⟩=(do pure (.value (←Instr.makeSlice t (a.eval lo) (a.eval co)))):=by
    simp only [execOp]
   unfold maxBytes at hmax
   have hn:(n.toNat:Int)=n:=by omega
   have hbi:(i.bytes:Int)*n≤281474976710656:=by
    rw [hby,←hn,←Int.natCast_mul,Nat.mul_comm]; omega
   have hn63:n.toNat≤140737488355328:=Nat.le_trans (Nat.le_mul_of_pos_right _ hbp) hmax
   have hrun:=run_make (P:=P) w t e i zv hu hi hzv k k n n h0 (Int.le_refl _) hbi (by omega)
   rw [hsz,←hzl] at hrun
   split at h
   ·rename_i hn0
    simp only [Option.some.injEq,Prod.mk.injEq] at h
    obtain ⟨rfl,rfl⟩:=h
    have hb:Below w.heap.size w (w.alloc (.cells (madeCells zv.cells (n.toNat*z.length)) e)):=(Below.refl w.heap.size w).alloc (Nat.le_refl _) _
    refine eff_val hex ⟨_,_,μ,by rw [hlv,hcv]; exact hrun,?_,Ext.of_below hb,g.rs.below hb⟩
    subst hn0
    exact .vslEmpty (some 0) _ 0 (.inr rfl)
   ·rename_i hn0
    simp only [Option.some.injEq,Prod.mk.injEq] at h
    obtain ⟨rfl,rfl⟩:=h
    have hcw:Cellwise fm w X μ z zv.cells:=⟨by simpa using c1,fun j=>by simpa using c2 j⟩
    have hz2:=zeros_cw hcw n.toNat
    obtain ⟨k1,k2⟩:=alloc_rs g.rs g.out (cs:=rep n.toNat z) (arr:=madeCells zv.cells (n.toNat*z.length)) e (Nat.le_of_eq hz2.1) (fun j _=>hz2.2 j)
    refine eff_val hex ⟨_,_,_,by rw [hlv,hcv]; exact hrun,?_,k1,k2⟩
    refine RV.sl σ.next 0 n.toNat sz none w.heap.size 0 n.toNat true (madeCells zv.cells (n.toNat*z.length)) e (0,0) (by simp [Mu.bind]) (show (w.heap.push _)[w.heap.size]? =_ by simp) ?_ (Nat.le_refl _) (.inl rfl)
    rw [size_madeCells,hzl]; omega
theorem clear_none {argTypes:Array TypeId} {t e type:TypeId} (ha0:argTypes[0]? =some t) (hu:P.underlying t=some (.slice e)) (ad:Option Addr) (c:Nat) :
  (Builtin.clear_ argTypes type #[.slice ad 0 c]).run P w= .ok (.tuple #[]) w:=by
 unfold Builtin.clear_
 simp only [ha0]
 cases ad <;> simp [run_underlying hu]
theorem rep_one {z:List AV} (h:z.all AV.one=true) (n:Nat):(rep n z).all AV.one=true:=by
 unfold rep
 induction n with
 | zero=>rfl
 | succ n ih=>rw [List.range_succ,List.flatMap_append,List.all_append,ih]; simpa using h
theorem e_clear (g:Given P fm gm G w X μ σ N fr a) {sz:Nat} {z:List AV} {xs:List Opd} (hc:opChk P fm gm (.prim (.clear sz z) xs) o.op=true) {xv:AV}
  (hx:xs.map (val G fr)= [xv]) (h:clearOf σ sz z xv=some (v,σ')):Eff P fm X μ o a w v σ':=by
 obtain ⟨x,rfl,hxv⟩:=map_one hx
 obtain ⟨dst,op,type,pos,after,guard⟩:=o
 simp only [opChk] at hc
 split at hc
 case h_2=>simp at hc
 rename_i args argTypes
 simp only [Bool.and_eq_true] at hc
 obtain ⟨ha,ht⟩:=hc
 obtain ⟨x',e1,hx'⟩:=opds_one ha
 have e1:args= #[x']:=by cases args; simp_all
 subst e1
 have rx:=val_rv g.glob g.rf hx'
 rw [hxv] at rx
 unfold argTy at ht
 cases ha0:argTypes[0]? with
 | none=>simp [ha0] at ht
 | some t=>
  simp only [ha0] at ht
  split at ht
  case h_2=>simp at ht
  rename_i e hu
  simp only [Bool.and_eq_true] at ht
  obtain ⟨hs,hz⟩:=ht
  obtain ⟨zv,hz1,hz2⟩:=zeroIs_run (P:=P) (fm:=fm) (w:=w) (X:=X) (μ:=μ) hz
  have hex:execOp a.eval ⟨dst, .call { callee:= .builtin .clear,args:=#[x'],argTypes:=argTypes },type,pos,after,guard⟩=(do pure (.value (←Builtin.clear_ argTypes type #[a.eval x']))):=by
   simp [execOp,resolve,invoke,builtin]
  have hrt:RV fm w X μ (.tup []) (.tuple #[]):= .tup [] #[] rfl (fun j=>by simpa using RV.undef _)
  generalize hxc:a.eval x'=xc at rx hex
  unfold clearOf at h
  have quiet: ∀ad c,xc= .slice ad 0 c→some (AV.tup [],σ)=some (v,σ')→Eff P fm X μ ⟨dst, .call { callee:= .builtin .clear,args:=#[x'],argTypes:=argTypes },type,pos,after,guard⟩ a w v σ':=by
   intro ad c hxe he
   simp only [Option.some.injEq,Prod.mk.injEq] at he
   obtain ⟨rfl,rfl⟩:=he
   subst hxe
   refine eff_val hex ⟨_,w,μ,?_,hrt,Ext.refl w μ,g.rs⟩
   have hcl:(Builtin.clear_ argTypes type #[.slice ad 0 c]).run P w= .ok (.tuple #[]) w:=clear_none ha0 hu ad c
   rw [hcl]
  split at h
  ·cases rx with | nils=>exact quiet _ _ rfl h
  ·cases rx with | e0 ad c=>exact quiet _ _ rfl h
  ·cases rx with
   | vslEmpty cap ad c hcap=>exact quiet _ _ rfl h
   | vslNil cap hcap=>exact quiet _ _ rfl h
   | vsl els cap blk base sz' c g' hA hlt hs' hl hcap hc hr=>exact quiet _ _ rfl h
  ·rename_i b off l sz' cap
   split at h
   case h_2=>simp at h
   rename_i cs ho
   split at h
   case isFalse=>simp at h
   rename_i hcond
   obtain ⟨rfl,hzl,hsp,hle,hone⟩:=hcond
   simp only [Option.some.injEq,Prod.mk.injEq] at h
   obtain ⟨rfl,rfl⟩:=h
   have hget:σ.get b=some (.own cs):=by
    unfold Store.owned at ho
    split at ho
    ·rename_i cs' hh; rw [hh]; rw [Option.some.inj ho]
    ·cases ho
   have hrl:(rep l z).length=l*sz':=by unfold rep; rw [rep_length,hzl]
   by_cases hl0:l=0
   ·
    have hsame:splice cs off (rep l z)=cs:=by subst hl0; simp [splice,rep]
    rw [hsame]
    have hrs:RS (fm:=fm) (σ.set b (.own cs)) w X μ:=by
     have hg: ∀b',(σ.set b (.own cs)).get b'=σ.get b':=fun b'=>by
      rw [set_get]; split
      ·rename_i hb; rw [hb,hget]
      ·rfl
     refine ⟨g.rs.lt,g.rs.far,g.rs.frz,g.rs.inj,fun b' blk base o hm=> ?_,fun b' h'=>g.rs.born b' (by rw [←hg]; exact h'),fun b' y h'=>g.rs.lim b' y (by rw [←hg]; exact h'),fun b' h'=>g.rs.gone b' (by rw [←hg]; exact h'),fun b' h'=> ?_,g.rs.tys.step (fun _ _ h=>mem_push (fun _=>by simp) h) (Nat.le_refl _) (fun _ _ _ o _ _ h=>⟨o,h⟩) (Ext.refl _ _)⟩
     ·rw [hg]; exact g.rs.cells b' blk base o hm
     ·have:=g.rs.dead b' h'
      unfold Store.cells at this ⊢
      rw [hg]; exact this
    subst hl0
    have hxc0: ∃ad c,xc= .slice (some ad) 0 c:=by
     cases rx with
     | sl _ _ _ _ _ blk base c o arr e fz hm hb hr hl hcap=>exact ⟨_,_,rfl⟩
     | slDead _ _ _ _ _ ad c hl hm=>exact ⟨_,_,rfl⟩
     | slZero _ _ _ _ ad hcap=>exact ⟨_,_,rfl⟩
    obtain ⟨ad,c,rfl⟩:=hxc0
    refine eff_val hex ⟨_,w,μ,?_,hrt,Ext.refl w μ,hrs⟩
    exact clear_none ha0 hu _ _
   cases rx with
   | slDead _ _ _ _ _ ad c hl hm=>have:=g.rs.dead b hm; simp [Store.cells,hget] at this
   | slZero _ _ _ _ ad hcap=>exact absurd rfl hl0
   | sl _ _ _ _ _ blk base c ow arr0 e0 fz hm hb hr hl hcap=>
    obtain ⟨cs',arr,e',h1,h2,h3,h4⟩:=g.rs.cells b blk base ow hm
    rw [hget] at h1
    cases ow with
    | false=>simp at h1
    | true=>
     simp only [if_true,Option.some.injEq,Blk.own.injEq] at h1
     subst h1
     have hal:arr.toList.length=arr.size:=by simp
     have hzs:zv.cells.size=sz':=by rw [←hz2.1,hzl]
     have hzn:Cellwise fm w X μ (rep l z) (Builtin.zeroCells zv.cells l):=by
      have:=zeros_cw hz2 l
      refine ⟨by rw [zeroCells_size,hrl,hzs],fun j=> ?_⟩
      have h5:=this.2 j
      by_cases hj:j < l*sz'
      ·have e1:(Builtin.zeroCells zv.cells l).getD j Go.undef=((Array.range (l*z.length)).map (zv.cells[· % zv.cells.size]!)).getD j Go.undef:=by
        rw [hzl]
        unfold Builtin.zeroCells
        rw [hzs]
       rw [e1]; exact h5
      ·have e1:(Builtin.zeroCells zv.cells l).getD j Go.undef=Go.undef:=by
        have: ¬j < (Builtin.zeroCells zv.cells l).size:=by rw [zeroCells_size,hzs]; exact hj
        simp [Array.getD,this]
       have e2:(rep l z).getD j .undef= .undef:=by
        rw [List.getD_eq_getElem?_getD,List.getElem?_eq_none (by omega)]; rfl
       rw [e2]; exact .undef _
     have hvl:(Builtin.zeroCells zv.cells l).toList.length=l*sz':=by
      have:=hzn.1; rw [hrl] at this; simp; omega
     have hone': ∀u∈(Builtin.zeroCells zv.cells l).toList,u.oneCell'=true:=all_one (cs:=rep l z) (by rw [hvl,hrl]) (fun j=>by simpa using hzn.2 j) (rep_one hone l)
     have hrun:=run_storeCells_at (P:=P) blk (base+off) e' (Builtin.zeroCells zv.cells l).toList 0 arr w h2 (by omega) hone'
     simp only [Nat.add_zero] at hrun
     have hsz:(arr.toList.take (base+off) ++(Builtin.zeroCells zv.cells l).toList ++arr.toList.drop (base+off+(Builtin.zeroCells zv.cells l).toList.length)).toArray.size=arr.size:=by simp at hvl ⊢; omega
     refine eff_val hex ⟨_,_,μ,?_, .tup [] #[] rfl (fun j=>by simpa using RV.undef _),setRow_ext hm h2 hsz,setRow_rs g.rs hm h2 hsz ?_ ?_⟩
     ·obtain ⟨l',rfl⟩ : ∃l',l=l'+1:=⟨l - 1,by omega⟩
      simp [Builtin.clear_,ha0,run_underlying hu,hz1,hrun]
     ·rw [splice_length _ _ _ (by omega),hsz]; omega
     ·intro j hj
      rw [splice_length _ _ _ (by omega)] at hj
      rw [splice_getD _ _ _ _ (by omega),toArr_getD,seg_getD _ _ _ _ (by omega)]
      by_cases hk:off≤j∧j < off+(rep l z).length
      ·rw [if_pos hk,if_pos (by omega)]
       have e1:base+j - (base+off)=j - off:=by omega
       rw [e1]
       simpa using hzn.2 (j - off)
      ·rw [if_neg hk,if_neg (by omega)]
       simpa using h4 j hj
  ·simp at h
theorem map_two {α β:Type} {f:α→β} {xs:List α} {y z:β} (h:xs.map f= [y,z]): ∃a b,xs= [a,b]∧f a=y∧f b=z:=by
 match xs,h with
 | [a,b],h=>simp only [List.map_cons,List.map_nil,List.cons.injEq,and_true] at h; exact ⟨a,b,rfl,h.1,h.2⟩
 | [],h | [_],h | _ ::_ ::_ ::_,h=>simp at h
theorem lenOf_sl {x:AV} {xv:Value} (hx:RV fm w X μ x xv) {l:Nat} (h:lenOf x=some l) (hs: ∀s,x≠ .str s): ∃ad c,xv= .slice ad l c:=by
 cases hx <;> simp only [lenOf,Option.some.injEq,reduceCtorEq] at h <;> (try subst h) <;> first | exact ⟨_,_,rfl⟩ | exact absurd rfl (hs _)
theorem e_copy (g:Given P fm gm G w X μ σ N fr a) {sz:Nat} {xs:List Opd} (hc:opChk P fm gm (.prim (.copy sz) xs) o.op=true) {xa ya:AV}
  (hx:xs.map (val G fr)= [xa,ya]) (h:copyOf σ sz xa ya=some (v,σ')):Eff P fm X μ o a w v σ':=by
 obtain ⟨x,y,rfl,hxv,hyv⟩:=map_two hx
 obtain ⟨dst,op,type,pos,after,guard⟩:=o
 simp only [opChk] at hc
 split at hc
 case h_2=>simp at hc
 rename_i args argTypes
 simp only [Bool.and_eq_true] at hc
 obtain ⟨⟨ha,ht⟩,ht2⟩:=hc
 obtain ⟨x',y',rfl,hx',hy'⟩:=args_two ha
 have rx:=val_rv g.glob g.rf hx'
 have ry:=val_rv g.glob g.rf hy'
 rw [hxv] at rx
 rw [hyv] at ry
 unfold argTy at ht ht2
 cases ha0:argTypes[0]? with
 | none=>simp [ha0] at ht
 | some t=>
 cases ha1:argTypes[1]? with
 | none=>simp [ha1] at ht2
 | some t2=>
 simp only [ha0] at ht
 simp only [ha1] at ht2
 split at ht
 case h_2=>simp at ht
 rename_i e hu
 split at ht2
 case h_2=>simp at ht2
 rename_i e2 hu2
 have hs:=sizeIs_run (P:=P) (w:=w) ht
 have hex:execOp a.eval ⟨dst, .call { callee:= .builtin .copy,args:=#[x',y'],argTypes:=argTypes },type,pos,after,guard⟩=(do pure (.value (←Builtin.copy_ argTypes type #[a.eval x',a.eval y']))):=by
  simp [execOp,resolve,invoke,builtin]
 generalize a.eval x'=xc at rx hex
 generalize a.eval y'=yc at ry hex
 unfold copyOf at h
 split at h
 case h_2=>simp at h
 rename_i l m new hl hm hrow
 have nstr: ∀z:AV,∀r,rowOf σ sz z=some r→∀s,z≠ .str s:=by
  rintro z r hz s rfl; simp [rowOf] at hz
 split at h
 ·rename_i hm0
  split at h
  ·simp at h
  rename_i hns
  simp only [Option.some.injEq,Prod.mk.injEq] at h
  obtain ⟨rfl,rfl⟩:=h
  subst hm0
  obtain ⟨yad,yc',rfl⟩:=lenOf_sl ry hm (nstr _ _ hrow)
  have hxs:=lenOf_sl rx hl (fun s hs=>by subst hs; exact hns rfl)
  obtain ⟨xad,xc',rfl⟩:=hxs
  refine eff_val hex ⟨.int .i64 0,w,μ,?_, .int _ _,Ext.refl w μ,g.rs⟩
  have h1:(Builtin.firstCells sz 0 (.slice yad 0 yc')).run P w= .ok #[] w:=by
   cases yad <;> simp [Builtin.firstCells,loadCells,loadCellsFrom]
  unfold Builtin.copy_
  cases xad <;> simp [ha0,run_underlying hu,Builtin.lenOf,hs,h1,goInt,storeCells]
 ·rename_i hm0
  split at h
  case h_2=>simp at h
  rename_i b off l' sz' cap
  split at h
  case h_2=>simp at h
  rename_i cs ho
  split at h
  case isFalse=>simp at h
  rename_i hcond
  obtain ⟨rfl,hsp,hml,hle,hnl,hone⟩:=hcond
  simp only [Option.some.injEq,Prod.mk.injEq] at h
  obtain ⟨rfl,rfl⟩:=h
  simp only [lenOf,Option.some.injEq] at hl
  subst hl
  have hget:σ.get b=some (.own cs):=by
   unfold Store.owned at ho
   split at ho
   ·rename_i cs' hh; rw [hh]; rw [Option.some.inj ho]
   ·cases ho
  have hsrc:=src_slice (P:=P) g.rs ry hrow hm hone hu2
  obtain ⟨hsl,news,hS,hnn,hnr⟩:=hsrc
  cases rx with
  | slDead _ _ _ _ _ ad c hl hm=>have:=g.rs.dead b hm; simp [Store.cells,hget] at this
  | slZero _ _ _ _ ad hcap=>omega
  | sl _ _ _ _ _ blk base c ow arr0 e0 fz hmu hb hr hl hcap=>
   obtain ⟨cs',arr,e',h1,h2,h3,h4⟩:=g.rs.cells b blk base ow hmu
   rw [hget] at h1
   cases ow with
   | false=>simp at h1
   | true=>
    simp only [if_true,Option.some.injEq,Blk.own.injEq] at h1
    subst h1
    have hal:arr.toList.length=arr.size:=by simp
    have hmul:m*sz'≤l'*sz':=Nat.mul_le_mul_right _ hml
    have hvl:news.length=m*sz':=by omega
    have hrun:=run_storeCells_at (P:=P) blk (base+off) e' news 0 arr w h2 (by omega) hS.one
    simp only [Nat.add_zero] at hrun
    have hsz:(arr.toList.take (base+off) ++news ++arr.toList.drop (base+off+news.length)).toArray.size=arr.size:=by simp at hvl ⊢; omega
    refine eff_val hex ⟨.int .i64 m,_,μ,?_, .int _ _,setRow_ext hmu h2 hsz,setRow_rs g.rs hmu h2 hsz ?_ ?_⟩
    ·have hmin:Nat.min m l'=m:=Nat.min_eq_left hml
     have hlen:=hS.len w
     have hcl:=hS.cells
     simp [Builtin.copy_,ha0,run_underlying hu,hlen,hmin,hs,hcl,hrun,goInt]
    ·rw [splice_length _ _ _ (by omega),hsz]; omega
    ·intro j hj
     rw [splice_length _ _ _ (by omega)] at hj
     rw [splice_getD _ _ _ _ (by omega),toArr_getD,seg_getD _ _ _ _ (by omega)]
     by_cases hk:off≤j∧j < off+new.length
     ·rw [if_pos hk,if_pos (by omega)]
      have e1:base+j - (base+off)=j - off:=by omega
      rw [e1]
      exact hnr (j - off)
     ·rw [if_neg hk,if_neg (by omega)]
      simpa using h4 j hj
theorem mkNZ_find (fn:Func) (h1:fn.name= "internal/bytealg.MakeNoZero") (h2:fn.origin= ""):Extern.findNext fn=none∧Extern.find fn=some (Extern.BytealgMakeNoZero.makeNoZero fn.params fn.resultTypes)∧(fn.name == "runtime.NumGoroutine")=false:=by
 unfold Extern.findNext Extern.find
 simp only [h1,h2]
 exact ⟨by kernel_rfl,by rfl,by decide⟩
theorem e_mkNZ (g:Given P fm gm G w X μ σ N fr a) {xs:List Opd} (hc:opChk P fm gm (.prim .mkNZ xs) o.op=true) {n:Int} (hx:xs.map (val G fr)= [.int .i64 n]) (h:mkNZOf σ n=some (v,σ')):Eff P fm X μ o a w v σ':=by
 obtain ⟨x,rfl,hxa⟩:=map_one hx
 obtain ⟨dst,op,type,pos,after,guard⟩:=o
 simp only [opChk] at hc
 split at hc
 case h_2=>simp at hc
 rename_i f' args ats
 simp only [Bool.and_eq_true] at hc
 obtain ⟨hf,hargs⟩:=hc
 split at hf
 case h_2=>simp at hf
 rename_i fn hfn
 simp only [Bool.and_eq_true,beq_iff_eq] at hf
 obtain ⟨⟨⟨hn,ho⟩,hb⟩,ht⟩:=hf
 split at ht
 case h_2=>simp at ht
 rename_i t hres0
 have hres:fn.resultTypes= #[t]:=by rw [←Array.toList_inj,hres0]
 split at ht
 case h_2=>simp at ht
 rename_i e hu
 obtain ⟨x',hx1,hx'⟩:=opds_one hargs
 have hx2:args= #[x']:=by cases args; simp_all
 subst hx2
 have rx:=val_rv g.glob g.rf hx'
 rw [hxa] at rx
 generalize hxv:a.eval x'=xv at rx
 cases rx
 unfold mkNZOf at h
 split at h <;> simp only [Option.some.injEq,Prod.mk.injEq,reduceCtorEq] at h
 rename_i hcond
 obtain ⟨h0,hmax⟩:=hcond
 obtain ⟨rfl,rfl⟩:=h
 obtain ⟨e1,e2,e3⟩:=mkNZ_find fn hn ho
 have hmax':n.toNat≤140737488355328:=hmax
 obtain ⟨cs,hrun,hle,_⟩:=Lib.run_makeNoZero (P:=P) w fn.params t e hu n.toNat (by omega)
 have hnn:((n.toNat:Nat):Int)=n:=by omega
 rw [hnn] at hrun
 have hbel:Below w.heap.size w w.drew.drew:=((Below.refl w.heap.size w).drew).drew
 have hS':=g.rs.below hbel
 obtain ⟨k1,k2⟩:=alloc_rs (w:=w.drew.drew) hS' (fun b hb=>g.out b hb) (cs:=List.replicate n.toNat .undef) (arr:=cs) e (by simp; omega) (fun j hj=>by
  have:(List.replicate n.toNat AV.undef).getD j .undef= .undef:=by
   rw [List.getD_eq_getElem?_getD,List.getElem?_replicate]; split <;> rfl
  rw [this]; exact .undef _)
 have h5:=run_callFunc_extern hfn e3 hb e1 e2 #[.int .i64 n] w
 rw [hres,hrun] at h5
 simp only [Result.andThen] at h5
 have hfe:a.eval (.func f')= .func (.func f') #[] #[]:=rfl
 refine ⟨_,_,_, .inl (by simpa [execOp,resolve,invoke,hxv,hfe,Deferred.ofValue] using h5),?_,(Ext.of_below hbel).trans k1,k2⟩
 exact RV.sl σ.next 0 n.toNat 1 none w.heap.size 0 cs.size true cs e (0,0) (by simp [Mu.bind]) (heap_alloc_new w.drew.drew _) (by omega) hle (.inl rfl)
end
end Go.Ab
namespace Go.Ab
open Go.RowKit
section
variable {P:Program} {fm gm:Nat→Option Nat} {G:Nat→List AV}
variable {w:World} {X:Nat→Prop} {μ:Mu} {σ σ':Store} {N:Nat} {fr:Fr} {a:Act} {o:Oper} {v:AV}
theorem look_append {α:Type} (b:Nat): ∀(l m:List (Nat×α)),look (l ++m) b=match look l b with | some x=>some x | none=>look m b
 | [],m=>by simp [look]
 | (i,x) ::l,m=>by
  simp only [List.cons_append,look]
  split
  ·rfl
  ·exact look_append b l m
theorem addTag_get {b0 e:Nat} (h: ∃x,σ.get b0=some x) (b:Nat):(σ.addTag b0 e).get b=σ.get b:=by
 obtain ⟨x,hx⟩:=h
 unfold Store.get Store.addTag at*
 rw [look_append]
 cases hl:look σ.m b with
 | some y=>rfl
 | none=>
  simp only [look]
  by_cases hb:b0=b
  ·subst hb; rw [hx] at hl; cases hl
  ·rw [if_neg hb]
theorem addTag_rs (hS:RS (fm:=fm) σ w X μ) {b e:Nat} (hg: ∃x,σ.get b=some x) (hu:μ b≠ .unborn) (ht: ∀blk base o,μ b= .at blk base o→base=0∧∃arr fz,w.heap[blk]? =some (.cells arr e fz)):RS (fm:=fm) (σ.addTag b e) w X μ:=by
 have hget:=addTag_get (e:=e) hg
 refine ⟨hS.lt,hS.far,hS.frz,hS.inj,fun b' blk base o hm=>by rw [hget]; exact hS.cells b' blk base o hm,fun b' h=>hS.born b' (by rw [←hget]; exact h),fun b' x h=>hS.lim b' x (by rw [←hget]; exact h),fun b' h=>hS.gone b' (by rw [←hget]; exact h),fun b' h=> ?_,fun b' e' h=> ?_⟩
 ·have:=hS.dead b' h
  unfold Store.cells at*
  rw [hget]; exact this
 ·rcases List.mem_append.1 h with k | k
  ·exact hS.tys b' e' k
  ·simp only [List.mem_singleton,Prod.mk.injEq,Blk.tag.injEq] at k
   obtain ⟨rfl,rfl⟩:=k
   obtain ⟨x,hx⟩:=hg
   exact ⟨hS.lim _ _ hx,hu,ht⟩
theorem tagged_mem {b e:Nat} (h:σ.tagged b e=true):(b,Blk.tag e)∈σ.m:=by
 obtain ⟨⟨b',x⟩,h1,h2⟩:=List.any_eq_true.1 h
 unfold isTag at h2
 split at h2
 ·rename_i heq
  simp only [Prod.mk.injEq] at heq
  obtain ⟨rfl,rfl⟩:=heq
  simp only [Bool.and_eq_true,beq_iff_eq] at h2
  obtain ⟨rfl,rfl⟩:=h2
  exact h1
 ·cases h2
theorem e_boxT (g:Given P fm gm G w X μ σ N fr a) {e:Nat} {xs:List Opd} (hc:opChk P fm gm (.prim (.boxT e) xs) o.op=true) {xa:AV} (hx:xs.map (val G fr)= [xa]) (hk:xa.known=true) :
  Eff P fm X μ o a w (.ptr σ.next 0) ((σ.alloc xa.cells).addTag σ.next e):=by
 obtain ⟨x,rfl,rfl⟩:=map_one hx
 obtain ⟨dst,op,type,pos,after,guard⟩:=o
 simp only [opChk] at hc
 split at hc
 case h_2=>simp at hc
 rename_i el x'
 simp only [Bool.and_eq_true,beq_iff_eq] at hc
 obtain ⟨rfl,hc⟩:=hc
 have rx:=val_rv g.glob g.rf (by simpa [opdsChk] using hc:opdChk fm gm x x'=true)
 obtain ⟨hl,hr⟩:=rx.cells hk
 obtain ⟨h1,h2⟩:=alloc_rs g.rs g.out el (Nat.le_of_eq hl) (fun j _=>hr j)
 refine eff_val (s:=Instr.box el (a.eval x')) rfl ⟨_,_,_,rfl,?_,h1,addTag_rs h2 ⟨_,by rw [alloc_get,if_pos rfl]⟩ (by simp [Mu.bind]) fun blk base o hm=> ?_⟩
 ·exact RV.ptr (fm:=fm) (w:=w.alloc (.cells (a.eval x').cells el)) (X:=X) (μ:=μ.bind σ.next (.at w.heap.size 0 true)) σ.next 0 w.heap.size 0 true (by simp [Mu.bind])
 ·simp only [Mu.bind,if_true,Loc.at.injEq] at hm
  obtain ⟨rfl,rfl,rfl⟩:=hm
  exact ⟨rfl,_,_,heap_alloc_new w _⟩
theorem e_appT (g:Given P fm gm G w X μ σ N fr a) {e sz bytes:Nat} {str:Bool} {xs:List Opd} (hc:opChk P fm gm (.prim (.appT e sz bytes str) xs) o.op=true) {xa ya:AV} (hx:xs.map (val G fr)= [xa,ya])
  {new:List AV} {n:Nat} (hsrc: ∀(args:Array Operand) (argTypes:Array TypeId) (tx:TypeId) (y':Operand),argTypes[1]? =some tx→RV fm w X μ ya (a.eval y')→(if str=true then P.underlying tx=some .string else ∃e',P.underlying tx=some (.slice e'))→SrcRV P fm w X μ sz tx (a.eval y') n new)
  (h:appTOf σ e sz bytes xa new n=some (v,σ')):Eff P fm X μ o a w v σ':=by
 obtain ⟨x,y,rfl,rfl,rfl⟩:=map_two hx
 obtain ⟨dst,op,type,pos,after,guard⟩:=o
 simp only [opChk] at hc
 split at hc
 case h_2=>simp at hc
 rename_i args argTypes
 simp only [Bool.and_eq_true] at hc
 obtain ⟨⟨hx,h0⟩,h1⟩:=hc
 obtain ⟨x',y',rfl,hx2,hy2⟩:=args_two hx
 have rx:=val_rv g.glob g.rf hx2
 have ry:=val_rv g.glob g.rf hy2
 unfold argTy at h0 h1
 cases ha0:argTypes[0]? with
 | none=>simp [ha0] at h0
 | some t=>
 cases ha1:argTypes[1]? with
 | none=>simp [ha1] at h1
 | some tx=>
 simp only [ha0] at h0
 simp only [ha1] at h1
 split at h0
 case h_2=>simp at h0
 rename_i e' hu
 simp only [Bool.and_eq_true,beq_iff_eq] at h0
 obtain ⟨rfl,h0⟩:=h0
 cases hi:P.info? e' with
 | none=>simp [hi] at h0
 | some i=>
 simp only [hi,Bool.and_eq_true,beq_iff_eq] at h0
 obtain ⟨⟨hsz,hby⟩,hz⟩:=h0
 cases hzv:i.zero with
 | none=>simp [hzv] at hz
 | some z=>
 simp only [hzv,beq_iff_eq] at hz
 have hat: ∀(av:Array Value),Builtin.append_ argTypes type av=Builtin.append_ #[t,tx] type av:=by
  intro av
  unfold Builtin.append_
  simp only [ha0,ha1]
  rfl
 have hs:=hsrc #[x',y'] argTypes tx y' ha1 ry (by
  split at h1
  ·rename_i hut; subst h1; simpa using hut
  ·rename_i e'' hut; simp only [Bool.not_eq_true'] at h1; subst h1; exact ⟨e'',hut⟩
  ·simp at h1)
 have fin: ∀v0 σ0,appendTo σ sz bytes (val G fr x) new n=some (v0,σ0)→n≠0→(∀b off l sz' c,val G fr x= .sl b off l sz' c→off=0∧σ.tagged b e'=true)→
   Eff P fm X μ ⟨dst, .call { callee:= .builtin .append,args:=#[x',y'],argTypes:=argTypes },type,pos,after,guard⟩ a w v0 (σ0.addTag σ.next e'):=by
  intro v0 σ0 happ hn hb
  obtain ⟨cv,w',μ',r1,r2,r3,r4,r5⟩:=append_rv (P:=P) (ty:=type) g.rs g.out rx hu hi hzv hsz hby (by rw [hz]) hs happ
  have hg:(∃cs,σ0.get σ.next=some cs)∧∃l,v0= .sl σ.next 0 l sz none∧l≠0:=by
   unfold appendTo at happ
   split at happ
   ·cases happ
   split at happ
   case isFalse=>cases happ
   split at happ
   ·(try rw [if_neg hn] at happ); cases happ
   ·try rw [if_neg hn] at happ
    simp only [Option.some.injEq,Prod.mk.injEq] at happ
    rw [←happ.2]; exact ⟨⟨_,by rw [alloc_get,if_pos rfl]⟩,_,happ.1.symm,by omega⟩
   ·try rw [if_neg hn] at happ
    split at happ
    case isFalse=>cases happ
    split at happ <;> simp only [Option.some.injEq,Prod.mk.injEq,reduceCtorEq] at happ
    rw [←happ.2]; exact ⟨⟨_,by rw [alloc_get,if_pos rfl]⟩,_,happ.1.symm,by omega⟩
   ·split at happ
    case isFalse=>cases happ
    split at happ
    case h_2=>cases happ
    try rw [if_neg hn] at happ
    split at happ
    case isFalse=>cases happ
    simp only [Option.some.injEq,Prod.mk.injEq] at happ
    rw [←happ.2]; exact ⟨⟨_,by rw [alloc_get]; exact if_pos rfl⟩,_,happ.1.symm,by omega⟩
   ·try rw [if_neg hn] at happ
    split at happ
    case isFalse=>cases happ
    split at happ <;> simp only [Option.some.injEq,Prod.mk.injEq,reduceCtorEq] at happ
    rw [←happ.2]; exact ⟨⟨_,by rw [alloc_get,if_pos rfl]⟩,_,happ.1.symm,by omega⟩
   ·cases happ
  refine ⟨cv,w',μ', .inl ?_,r2,r3,addTag_rs r4 hg.1 ?_ fun blk base o hm=> ?_⟩
  ·simp [execOp,resolve,invoke,builtin,hat,r1]
  ·obtain ⟨_,l,rfl,hl0⟩:=hg
   cases r2 with
   | sl _ _ _ _ _ blk base c o arr e fz hm hb hr hl hcap=>rw [hm]; exact fun c=>by cases c
   | slDead _ _ _ _ _ ad c hl hm=>rw [hm]; exact fun c=>by cases c
   | slZero=>exact absurd rfl hl0
  ·rcases r5 blk base o hm with k | ⟨b,off,l,sz',c,base0,k1,k2,k3⟩
   ·exact k
   ·obtain ⟨rfl,ht⟩:=hb b off l sz' c k1
    obtain ⟨_,_,h4⟩:=g.rs.tys b e' (tagged_mem ht)
    obtain ⟨rfl,arr,fz,h5⟩:=h4 _ _ _ k2
    exact ⟨k3,r3.ty _ _ _ _ h5⟩
 unfold appTOf at h
 split at h
 ·cases h
 rename_i hn
 split at h
 ·rename_i hxn
  obtain ⟨⟨v0,σ0⟩,h2,h3⟩:=Option.map_eq_some_iff.1 h
  simp only [Prod.mk.injEq] at h3
  obtain ⟨rfl,rfl⟩:=h3
  exact fin v0 σ0 (by rw [hxn]; exact h2) hn (fun b off l sz' c k=>by rw [hxn] at k; cases k)
 ·rename_i b l sz' hxs
  split at h
  case isFalse=>cases h
  rename_i ht
  obtain ⟨⟨v0,σ0⟩,h2,h3⟩:=Option.map_eq_some_iff.1 h
  simp only [Prod.mk.injEq] at h3
  obtain ⟨rfl,rfl⟩:=h3
  exact fin v0 σ0 (by rw [hxs]; exact h2) hn (fun b' off l' sz'' c k=>by rw [hxs] at k; cases k; exact ⟨rfl,ht⟩)
 ·cases h
theorem freeze_heap (w:World) (blk k n blk':Nat) (h:blk'≠blk):(w.freeze ⟨blk,k,none⟩ n).heap[blk']? =w.heap[blk']? :=by
 unfold World.freeze
 split
 ·rfl
 ·simp [Array.getElem?_modify,Ne.symm h]
theorem freeze_size (w:World) (a:Addr) (n:Nat):(w.freeze a n).heap.size=w.heap.size:=by
 unfold World.freeze; split <;> simp
theorem freeze_row (w:World) {blk k n:Nat} {arr:Array Value} {e:TypeId} {fz:Nat×Nat} (h:w.heap[blk]? =some (.cells arr e fz)): ∃fz',(w.freeze ⟨blk,k,none⟩ n).heap[blk]? =some (.cells arr e fz'):=by
 unfold World.freeze
 split
 ·exact ⟨_,h⟩
 ·obtain ⟨lo,hi⟩:=fz
  exact ⟨_,by simp [Array.getElem?_modify,h]; rfl⟩
theorem frzKill_rs (hS:RS (fm:=fm) σ w X μ) {b blk base k n:Nat} (hmb:μ b= .at blk base true):Ext w μ (w.freeze ⟨blk,k,none⟩ n) (μ.bind b .dead)∧RS (fm:=fm) (σ.set b .dead) (w.freeze ⟨blk,k,none⟩ n) X (μ.bind b .dead):=by
 obtain ⟨cs0,arr0,e0,g1,g2,g3,g4⟩:=hS.cells b blk base true hmb
 have hb:b < σ.next:=hS.lim b _ g1
 have back: ∀b' blk' base' o,(μ.bind b .dead) b'= .at blk' base' o→b'≠b∧μ b'= .at blk' base' o:=by
  intro b' blk' base' o h
  by_cases hbb:b'=b
  ·simp [Mu.bind,hbb] at h
  ·exact ⟨hbb,by simpa [Mu.bind,hbb] using h⟩
 have hext:Ext w μ (w.freeze ⟨blk,k,none⟩ n) (μ.bind b .dead):=by
  refine ⟨?_,?_,?_,by rw [freeze_size]; exact Nat.le_refl _,fun blk' hk hn=>freeze_heap w blk k n blk' (by rintro rfl; exact hn ⟨b,base,hmb⟩),fun blk' arr e fz h=> ?_,fun b' blk' base' h=> .inl ⟨_,_,(back _ _ _ _ h).2⟩,fun b' blk' base' o h=> ?_,fun b' h=> ?_⟩
  ·unfold World.freeze; split <;> rfl
  ·unfold World.freeze; split <;> rfl
  ·unfold World.freeze; split <;> rfl
  ·by_cases hbk:blk'=blk
   ·subst hbk
    obtain ⟨fz',h'⟩:=freeze_row w (k:=k) (n:=n) h
    exact ⟨arr,fz',h',rfl⟩
   ·exact ⟨arr,fz,by rw [freeze_heap w blk k n blk' hbk]; exact h,rfl⟩
  ·by_cases hbb:b'=b
   ·exact .inl (by simp [Mu.bind,hbb])
   ·exact .inr ⟨o,by simpa [Mu.bind,hbb] using h⟩
  ·by_cases hbb:b'=b
   ·simp [Mu.bind,hbb]
   ·simpa [Mu.bind,hbb] using h
 refine ⟨hext,fun b' blk base o hm=>by rw [freeze_size]; exact hS.lt b' blk base o (back _ _ _ _ hm).2,fun b' blk base hm=>hS.far b' blk base (back _ _ _ _ hm).2,
  fun b' blk base hm=>av_ext hext (hS.lt b' blk base false (back _ _ _ _ hm).2) (hS.frz b' blk base (back _ _ _ _ hm).2),
  fun b' b'' blk base base' hm hm'=>hS.inj b' b'' blk base base' (back _ _ _ _ hm).2 (back _ _ _ _ hm').2,fun b' blk1 base1 o hm=> ?_,fun b' h=> ?_,fun b' x h=> ?_,fun b' h=> ?_,fun b' hm=> ?_,
  hS.tys.step (fun _ _ h=>mem_push (fun _=>by simp) h) (Nat.le_refl _) (fun _ _ _ o _ _ h=>⟨o,(back _ _ _ _ h).2⟩) hext⟩
 ·obtain ⟨hne,hm'⟩:=back _ _ _ _ hm
  obtain ⟨cs1,arr1,e1,h1,h2,h3,h4⟩:=hS.cells b' blk1 base1 o hm'
  have hnb:blk1≠blk:=by
   rintro rfl
   cases o with
   | true=>exact hne (hS.inj b' b blk1 base1 base hm' hmb)
   | false=>exact hS.frz b' blk1 base1 hm' (.inr ⟨b,base,hmb⟩)
  exact ⟨cs1,arr1,e1,by rw [set_get,if_neg hne]; exact h1,by rw [freeze_heap w blk k n blk1 hnb]; exact h2,h3,fun j hj=>(h4 j hj).ext hext⟩
 ·rw [set_get] at h
  by_cases hbb:b'=b
  ·rw [if_pos hbb] at h; simp at h
  ·rw [if_neg hbb] at h; simp [Mu.bind,hbb,hS.born b' h]
 ·rw [set_get] at h
  show b' < σ.next
  by_cases hbb:b'=b
  ·omega
  ·rw [if_neg hbb] at h; exact hS.lim b' x h
 ·rw [set_get] at h
  by_cases hbb:b'=b
  ·simp [Mu.bind,hbb]
  ·rw [if_neg hbb] at h; simp [Mu.bind,hbb,hS.gone b' h]
 ·by_cases hbb:b'=b
  ·simp [Store.cells,set_get,hbb]
  ·have hm':μ b'= .dead:=by simpa [Mu.bind,hbb] using hm
   have:=hS.dead b' hm'
   simp only [Store.cells,set_get,if_neg hbb] at this ⊢
   exact this
theorem bytesOf_get: ∀ {l:List AV} {s:List UInt8},bytesOf l=some s→l=u8cells s
 | [],s,h=>by simp [bytesOf] at h; subst h; rfl
 | .int .u8 n ::r,s,h=>by
  rw [bytesOf] at h
  split at h
  case h_2=>cases h
  rename_i l hl
  split at h <;> simp only [Option.some.injEq,reduceCtorEq] at h
  rename_i hn
  subst h
  have ih:=bytesOf_get hl
  show _=_ ::u8cells l
  rw [←ih]
  congr 2
  have:(UInt8.ofNat n.toNat).toNat=n.toNat:=by rw [UInt8.toNat_ofNat']; exact Nat.mod_eq_of_lt (by show n.toNat < 2 ^ 8; omega)
  rw [this]; omega
 | .undef ::_,_,h | .bool _ ::_,_,h | .str _ ::_,_,h | .lit _ ::_,_,h | .fn .. ::_,_,h | .ptr .. ::_,_,h | .vptr .. ::_,_,h | .sl .. ::_,_,h | .vsl .. ::_,_,h | .e0 ::_,_,h | .nils ::_,_,h | .agg _ ::_,_,h | .tup _ ::_,_,h=>by simp [bytesOf] at h
 | .int .i8 _ ::_,_,h | .int .i16 _ ::_,_,h | .int .i32 _ ::_,_,h | .int .i64 _ ::_,_,h | .int .u16 _ ::_,_,h | .int .u32 _ ::_,_,h | .int .u64 _ ::_,_,h=>by simp [bytesOf] at h
open Go.Lib in
theorem e_ustr (g:Given P fm gm G w X μ σ N fr a) {e:Nat} {xs:List Opd} (hc:opChk P fm gm (.prim (.ustr e) xs) o.op=true) {xa:AV} {n:Int} (hx:xs.map (val G fr)= [xa, .int .i64 n])
  (h:ustrOf σ e xa n=some (v,σ')):Eff P fm X μ o a w v σ':=by
 obtain ⟨x,y,rfl,hxa,hya⟩:=map_two hx
 obtain ⟨dst,op,type,pos,after,guard⟩:=o
 simp only [opChk] at hc
 split at hc
 case h_2=>simp at hc
 rename_i args argTypes
 simp only [Bool.and_eq_true] at hc
 obtain ⟨hx,h0⟩:=hc
 obtain ⟨x',y',rfl,hx2,hy2⟩:=args_two hx
 have rx:=val_rv g.glob g.rf hx2
 have ry:=val_rv g.glob g.rf hy2
 rw [hxa] at rx
 rw [hya] at ry
 unfold ustrChk at h0
 split at h0
 case h_2=>simp at h0
 rename_i hue
 simp only [Bool.and_eq_true,beq_iff_eq] at h0
 obtain ⟨hce,h0⟩:=h0
 cases ha0:argTypes[0]? with
 | none=>simp [ha0] at h0
 | some t=>
 simp only [ha0] at h0
 split at h0
 case h_2=>simp at h0
 rename_i u hut
 simp only [beq_iff_eq] at h0
 subst h0
 generalize hxv:a.eval x'=xv at rx
 generalize hyv:a.eval y'=yv at ry
 cases ry
 unfold ustrOf at h
 split at h
 case h_2=>cases h
 rename_i b
 split at h
 case isFalse=>cases h
 rename_i hcond
 obtain ⟨ht,hn,hn63⟩:=hcond
 split at h
 case h_2=>cases h
 rename_i cs ho
 split at h
 case isFalse=>cases h
 rename_i hle
 split at h
 case h_2=>cases h
 rename_i s hs
 simp only [Option.some.injEq,Prod.mk.injEq] at h
 obtain ⟨rfl,rfl⟩:=h
 have hget:σ.get b=some (.own cs):=by
  unfold Store.owned at ho
  split at ho
  ·rename_i cs' hh; rw [hh]; rw [Option.some.inj ho]
  ·cases ho
 have hcells:=bytesOf_get hs
 rw [List.drop_zero] at hcells
 cases rx with
 | ptrDead _ _ y hm=>have:=g.rs.dead b hm; simp [Store.cells,hget] at this
 | ptr _ _ blk base ow hm=>
  obtain ⟨cs',arr,e',k1,k2,k3,k4⟩:=g.rs.cells b blk base ow hm
  rw [hget] at k1
  cases ow with
  | false=>simp at k1
  | true=>
   simp only [if_true,Option.some.injEq,Blk.own.injEq] at k1
   subst k1
   obtain ⟨_,_,h4⟩:=g.rs.tys b u (tagged_mem ht)
   obtain ⟨rfl,arr2,fz2,h5⟩:=h4 _ _ _ hm
   rw [k2] at h5
   simp only [Option.some.injEq,Obj.cells.injEq] at h5
   obtain ⟨rfl,rfl,rfl⟩:=h5
   have hlen:s.length=n.toNat:=by
    have:=congrArg List.length hcells
    simp [u8cells] at this; omega
   have hnn:n=(s.length:Int):=by omega
   obtain ⟨x1,x2⟩:=frzKill_rs (k:=0) (n:=s.length) g.rs hm
   have hsh:w.shape? blk=some (e',arr.size):=by simp [World.shape?,k2]
   have hrun:=run_unsafeString_row (P:=P) w t t type e' hut hce blk arr.size hsh s (by rintro rfl; simp at hlen; omega) (by omega) (by omega) (fun j x hj=>by
    have hjl:j < s.length:=(List.getElem?_eq_some_iff.1 hj).1
    have:=k4 j (by omega)
    have e1:cs.getD j .undef= .int .u8 x.toNat:=by
     have h6:(cs.take n.toNat)[j]? =(u8cells s)[j]? :=by rw [hcells]
     rw [List.getElem?_take,if_pos (by omega)] at h6
     rw [List.getD_eq_getElem?_getD,h6]
     simp [u8cells,hj]
    rw [e1,Nat.zero_add] at this
    generalize hz:arr.getD j Go.undef=z at this
    cases this
    rw [addr_add,Nat.zero_add]
    have hja:j < arr.size:=by omega
    simp only [World.cell?,k2]
    simp [hja] at hz ⊢
    exact hz)
   have hat:Builtin.unsafeString_ argTypes type #[.pointer (some ⟨blk,0,none⟩), .int .i64 s.length]=Builtin.unsafeString_ #[t,t] type #[.pointer (some ⟨blk,0,none⟩), .int .i64 s.length]:=by
    have hdef: ∀ts:Array TypeId,Builtin.unsafeString_ ts type #[.pointer (some ⟨blk,0,none⟩), .int .i64 s.length]=(do
      let n ←asInt (.int .i64 s.length)
      let some pt:=ts[0]? | stuck "unsafe.String: no argument types"
      if n < 0 then runtimePanic (.error "unsafe.String: len out of range")
      if n > IntKind.i64.max then unsupported (.unsafePointer "String: a length above the largest int")
      if n=0 then pure (.string .empty)
      else if ←variablesAt ⟨blk,0,none⟩ (←elemOf pt) n.toNat then do
       let s ←loadBytes ⟨blk,0,none⟩ .empty n.toNat
       freeze ⟨blk,0,none⟩ n.toNat
       pure (.string s)
      else unsupported (.unsafePointer "String: not so many bytes at ptr")):=fun _=>rfl
    rw [hdef,hdef,ha0]; rfl
   refine ⟨_,_,_, .inl ?_,RV.str s ⟨s.toArray⟩ (by simp),x1,x2⟩
   simp only [execOp,resolve,invoke,builtin,List.map_toArray,List.map_cons,List.map_nil,hxv,hyv,Sem.run_bind,Sem.run_pure,Result.andThen_ok]
   rw [hnn,hat]
   simp [hrun]
theorem appT_one {e sz bytes:Nat} {x:AV} {new:List AV} {n:Nat} {r:AV×Store} (h:appTOf σ e sz bytes x new n=some r):new.all AV.one=true:=by
 have key: ∀y z,appendTo σ sz bytes y new n=some z→new.all AV.one=true:=by
  intro y z h
  unfold appendTo at h
  split at h
  ·cases h
  ·split at h
   ·rename_i hcond; exact hcond.2.2.2.2
   ·cases h
 unfold appTOf at h
 split at h
 ·cases h
 split at h
 ·obtain ⟨z,h2,_⟩:=Option.map_eq_some_iff.1 h; exact key _ _ h2
 ·split at h
  ·obtain ⟨z,h2,_⟩:=Option.map_eq_some_iff.1 h; exact key _ _ h2
  ·cases h
 ·cases h
theorem lies_one {e u:Nat} (hn:0 < P.cellsOf e) (h:liesAt P P.depth e 1 0 u 1=true) (hu:(match P.underlying u with | some (.array ..)=>false | _=>true)=true) {count:Nat} (hc:0 < count):liesAt P P.depth e count 0 u 1=true:=by
 have hd:P.depth=(2*(P.types.size+Made.depth)+1)+1:=rfl
 rw [hd] at h ⊢
 have hne: ¬P.cellsOf e=0:=by omega
 have h1:1≤count:=hc
 have hr: ∀(fits:TypeId→Bool) (d c:Nat),0 < c→rowAt P fits (d+1) e c 0 1=rowAt P fits (d+1) e 1 0 1:=by
  intro fits d c hc
  have h2:1≤c:=hc
  simp only [rowAt,if_neg hne,Nat.zero_div,Nat.zero_mod,Nat.zero_add,h2,hc,Nat.le_refl,decide_true,Bool.and_true,Nat.lt_irrefl,show (0:Nat) < 1 from Nat.one_pos]
 simp only [liesAt,Bool.or_eq_true] at h ⊢
 rcases h with h | h
 ·left
  rw [hd] at h ⊢
  rw [hr _ _ _ hc]; exact h
 ·split at h
  ·rename_i m u' hh
   rw [hh] at hu; simp at hu
  ·cases h
theorem e_cvp (g:Given P fm gm G w X μ σ N fr a) {e n:Nat} {xs:List Opd} (hc:opChk P fm gm (.prim (.cvp e n) xs) o.op=true) {xa:AV} (hx:xs.map (val G fr)= [xa]) (h:cvpOf σ e n xa=some (v,σ')):Eff P fm X μ o a w v σ':=by
 obtain ⟨x,rfl,hxa⟩:=map_one hx
 obtain ⟨dst,op,type,pos,after,guard⟩:=o
 simp only [opChk] at hc
 split at hc
 case h_2=>simp at hc
 rename_i s d x'
 simp only [Bool.and_eq_true] at hc
 obtain ⟨hcv,hc⟩:=hc
 have rx:=val_rv g.glob g.rf (by simpa [opdsChk] using hc:opdChk fm gm x x'=true)
 rw [hxa] at rx
 unfold cvpOf at h
 split at h
 case h_2=>cases h
 rename_i b
 split at h
 case isFalse=>cases h
 rename_i ht
 split at h
 case h_2=>cases h
 rename_i cs ho
 split at h <;> simp only [Option.some.injEq,Prod.mk.injEq,reduceCtorEq] at h
 rename_i hle
 obtain ⟨rfl,rfl⟩:=h
 have hget:σ.get b=some (.own cs):=by
  unfold Store.owned at ho
  split at ho
  ·rename_i cs' hh; rw [hh]; rw [Option.some.inj ho]
  ·cases ho
 generalize hxv:a.eval x'=xv at rx
 cases rx with
 | ptrDead _ _ y hm=>have:=g.rs.dead b hm; simp [Store.cells,hget] at this
 | ptr _ _ blk base ow hm=>
  obtain ⟨cs',arr,e',k1,k2,k3,k4⟩:=g.rs.cells b blk base ow hm
  have hcs:cs'=cs:=by rw [hget] at k1; cases ow <;> simp at k1; exact k1.symm
  subst hcs
  obtain ⟨_,_,h4⟩:=g.rs.tys b e (tagged_mem ht)
  obtain ⟨rfl,arr2,fz2,h5⟩:=h4 _ _ _ hm
  rw [k2] at h5
  simp only [Option.some.injEq,Obj.cells.injEq] at h5
  obtain ⟨rfl,rfl,rfl⟩:=h5
  unfold cvpChk at hcv
  simp only [Bool.and_eq_true,beq_iff_eq] at hcv
  obtain ⟨hcells,hcv⟩:=hcv
  have hsh:w.shape? blk=some (e',arr.size):=by simp [World.shape?,k2]
  have hpos:0 < arr.size:=by omega
  have hview:(viewAt blk).run P w= .ok none w:=by simp [viewAt,hsh]
  have hseen:(Conv.seenAt ⟨blk,0,none⟩).run P w= .ok ⟨blk,0,none⟩ w:=by simp [Conv.seenAt,hview]
  refine eff_val (s:=convert s d (a.eval x')) rfl ⟨.pointer (some ⟨blk,0+0,none⟩),w,μ,?_, .ptr b 0 blk 0 ow hm,Ext.refl _ _,g.rs⟩
  rw [hxv]
  split at hcv
  ·rename_i t hs hd
   simp only [Bool.and_eq_true,Bool.not_eq_true'] at hcv
   obtain ⟨h0,hi⟩:=hcv
   obtain ⟨i,hi⟩:=Option.isSome_iff_exists.1 hi
   have hsz:i.size≠0:=by
    unfold sizeIs at h0
    rw [hi] at h0
    simpa using h0
   have hne:arr≠ #[]:=by rintro rfl; simp at hpos
   simp [convert,Conv.unsafePointer,run_underlying hs,run_underlying hd,hseen,cellsIn,hsh,sizeOf,typeInfo,hi,hsz,hne]
  ·rename_i u hs hd
   simp only [Bool.and_eq_true,Bool.not_eq_true'] at hcv
   obtain ⟨⟨⟨hi,h0⟩,hl⟩,hu⟩:=hcv
   obtain ⟨i,hi⟩:=Option.isSome_iff_exists.1 hi
   have hsz:i.size≠0:=by
    unfold sizeIs at h0
    rw [hi] at h0
    simpa using h0
   have hlie:=lies_one (P:=P) (e:=e') (u:=u) (by omega) hl hu (count:=arr.size / P.cellsOf e') (Nat.div_pos (by omega) (by omega))
   simp [convert,Conv.unsafePointer,run_underlying hs,run_underlying hd,hseen,sizeOf,typeInfo,hi,hsz,variablesAt,hsh,hlie]
  ·cases hcv
end
end Go.Ab
namespace Go.Ab
open Go.RowKit
section
variable {P:Program} {fm gm:Nat→Option Nat} {G:Nat→List AV} {ip:Nat→Option IFunc}
theorem glob_of (hGc: ∀g,closedL (G g)=true) {w:World} {X:Nat→Prop} {μ:Mu} (h:GlobOK fm gm G w X μ) (w':World) (X':Nat→Prop) (hb:Below w.heap.size w w') (hX: ∀b,X' b→Av X μ b) :
  GlobOK fm gm G w' X' Mu.none:=by
 intro g g' hg
 refine (closed_rv (h g g' hg) (by simpa [AV.closed] using hGc g) ?_).bel hb
 rintro blk (hh | ⟨b,base,hh⟩)
 ·exact hX blk hh
 ·simp [Mu.none] at hh
section
variable {w:World} {X:Nat→Prop} {μ:Mu} {σ σ':Store} {N:Nat} {fr:Fr} {a:Act} {o:Oper} {v:AV}
theorem doOp_wp (hGc: ∀g,closedL (G g)=true) (g:Given P fm gm G w X μ σ N fr a) {n m:Nat} (hSC:SCallsOk P fm gm G ip n) (hm:m < n) {io:IOp} (hc:opChk P fm gm io o.op=true)
  (h:doOp ip G (run ip G m) io fr σ=some (v,σ')):OpWp P fm X μ o a w v σ':=by
 have pure_: ∀ {io:IOp},opChk P fm gm io o.op=true→(pureOp G io fr σ).map (fun v=>(v,σ))=some (v,σ')→OpWp P fm X μ o a w v σ':=by
  intro io hc h
  simp only [Option.map_eq_some_iff,Prod.mk.injEq] at h
  obtain ⟨v',hv,rfl,rfl⟩:=h
  exact .of_eff (pure_eff g (pure_rv g hc hv))
 cases io with
 | box x=>
  simp only [doOp] at h
  split at h <;> simp only [Option.some.injEq,Prod.mk.injEq,reduceCtorEq] at h
  rename_i hk
  obtain ⟨rfl,rfl⟩:=h
  exact .of_eff (e_box g hc hk)
 | new z=>
  simp only [doOp,Option.some.injEq,Prod.mk.injEq] at h
  obtain ⟨rfl,rfl⟩:=h
  exact .of_eff (e_new g hc)
 | buildSl own sz len z ps=>
  cases own with
  | false=>exact pure_ hc h
  | true=>
   simp only [doOp] at h
   split at h
   case h_2=>simp at h
   rename_i cs hfa
   split at h <;> simp only [Option.some.injEq,Prod.mk.injEq,reduceCtorEq] at h
   rename_i hz
   obtain ⟨rfl,rfl⟩:=h
   exact .of_eff (e_buildSl g hc hfa hz.1)
 | storeS n p x=>
  have h':storeSOf σ n (val G fr p) (val G fr x)=some (v,σ'):=by simpa [doOp] using h
  obtain rfl:=storeS_same h'
  exact (q_storeS g hc h').opWp g
 | store n p x=>
  simp only [doOp] at h
  split at h
  case h_2=>simp at h
  rename_i b off hp
  split at h
  case h_2=>simp at h
  rename_i cs ho
  split at h <;> simp only [Option.some.injEq,Prod.mk.injEq,reduceCtorEq] at h
  rename_i hcond
  obtain ⟨rfl,rfl⟩:=h
  exact .of_eff (e_store g hc hp ho hcond.1 hcond.2.1 hcond.2.2)
 | append sz bytes str x y=>exact .of_eff (e_append g hc h)
 | prim k xs=>
  simp only [doOp] at h
  unfold primOf at h
  split at h
  ·simp [opChk] at hc
  ·rename_i hx; exact .of_eff (e_makeSl g hc hx h)
  ·rename_i hx; exact .of_eff (e_clear g hc hx h)
  ·rename_i hx; exact .of_eff (e_copy g hc hx h)
  ·rename_i hx
   split at h <;> simp only [Option.some.injEq,Prod.mk.injEq,reduceCtorEq] at h
   rename_i hk
   obtain ⟨rfl,rfl⟩:=h
   exact .of_eff (e_boxT g hc hx hk)
  ·rename_i hx
   split at h
   case isFalse=>simp at h
   rename_i hz
   subst hz
   refine .of_eff (e_appT g hc hx (fun args ats tx y' _ ry hk=> ?_) h)
   generalize a.eval y'=yv at ry
   cases ry with
   | str _ b hb=>
    simp only [if_true] at hk
    have:=src_string (P:=P) (fm:=fm) (w:=w) (X:=X) (μ:=μ) (s:=b) hk
    rw [←hb]
    rw [show b.size=b.data.toList.length from by simp] at this
    exact this
  ·rename_i hx
   split at h
   case h_2=>simp at h
   rename_i n new hn hro
   split at h
   ·simp at h
   refine .of_eff (e_appT g hc hx (fun args ats tx y' _ ry hk=> ?_) h)
   obtain ⟨e',hk⟩:=by simpa using hk
   exact src_slice g.rs ry hro hn (appT_one h) hk
  ·rename_i hx; exact .of_eff (e_mkNZ g hc hx h)
  ·rename_i hx; exact .of_eff (e_cvp g hc hx h)
  ·rename_i hx; exact .of_eff (e_ustr g hc hx h)
  ·simp at h
 | call sh f xs=>
  cases sh
  ·exact o_scall g hSC hm hc h
  ·exact o_pcall g hSC hm (fun w' X' hb hX=>glob_of hGc g.glob w' X' hb hX) hc h
  ·exact o_pcall g hSC hm (fun w' X' hb hX=>glob_of hGc g.glob w' X' hb hX) hc h
  ·simp only [doOp] at h
   split at h
   ·rename_i h1
    split at h <;> simp only [Option.some.injEq,Prod.mk.injEq,reduceCtorEq] at h
    rename_i h2
    obtain ⟨rfl,rfl⟩:=h
    exact (o_both g hSC hm (fun w' X' hb hX=>glob_of hGc g.glob w' X' hb hX) hc h1 h2).opWp g
   ·exact o_scall g hSC hm hc h
  ·simp only [doOp] at h
   split at h
   ·rename_i h1
    split at h <;> simp only [Option.some.injEq,Prod.mk.injEq,reduceCtorEq] at h
    rename_i h2
    obtain ⟨rfl,rfl⟩:=h
    exact ((o_both g hSC hm (fun w' X' hb hX=>glob_of hGc g.glob w' X' hb hX) hc h1 h2).weaken (fun _ _ hr=>er_rv hr)).opWp g
   ·exact o_pcall g hSC hm (fun w' X' hb hX=>glob_of hGc g.glob w' X' hb hX) hc h
 | _=>exact pure_ hc h
end
theorem rv_skip {w:World} {X:Nat→Prop} {μ:Mu}:RV fm w X μ (.tup []) Go.undef:= .tup [] #[] rfl (fun j=>by simpa using RV.undef _)
theorem guard_wanted {ops:Array Oper} {io:IOper} {o:Oper} {N:Nat} {fr:Fr} {a:Act} {w:World} {X:Nat→Prop} {μ:Mu} (r:RF (fm:=fm) N fr a.tmps w X μ)
  (h:guardChk ops io.guard o.guard=true) {b:Bool} (hw:wanted io.guard fr=some b):Region.wanted o (yielded ops a.tmps)=b:=by
 cases hg:io.guard with
 | none=>
  rw [hg] at h hw
  cases hg':o.guard with
  | none=>simp only [wanted,Option.some.injEq] at hw; subst hw; simp [Region.wanted,hg']
  | some p=>rw [hg'] at h; simp [guardChk] at h
 | some p=>
  obtain ⟨t,c⟩:=p
  rw [hg] at h hw
  cases hg':o.guard with
  | none=>rw [hg'] at h; simp [guardChk] at h
  | some q=>
   obtain ⟨j,c'⟩:=q
   rw [hg'] at h
   simp only [guardChk,Bool.and_eq_true,beq_iff_eq] at h
   obtain ⟨rfl,h⟩:=h
   cases hj:ops[j]? with
   | none=>simp [hj] at h
   | some oj=>
    simp only [hj,beq_iff_eq] at h
    simp only [wanted] at hw
    split at hw <;> simp only [Option.some.injEq,reduceCtorEq] at hw
    case h_2 hd=>
     have hr:=r.val t
     rw [hd] at hr
     generalize htv:a.tmps.getD t Go.undef=tv at hr
     cases hr
     have hy:yielded ops a.tmps j=none:=by
      simp only [yielded,hj,Option.bind_some,h]
      cases htt:a.tmps[t]? with
      | none=>rfl
      | some q=>
       have:a.tmps.getD t Go.undef=q:=by simp [htt]
       rw [this] at htv
       rw [htv]
     simp only [Region.wanted,hg',hy]
     subst hw
     rfl
    rename_i d hd
    have hr:=r.val t
    rw [hd] at hr
    generalize htv:a.tmps.getD t Go.undef=tv at hr
    cases hr
    have hlt:t < a.tmps.size:=by
     rcases Nat.lt_or_ge t a.tmps.size with h' | h'
     ·exact h'
     ·simp [Array.getElem?_eq_none h',Go.undef] at htv
    have htv2:a.tmps[t]? =some (.bool d):=by
     simp [hlt] at htv ⊢
     exact htv
    have hy:yielded ops a.tmps j=some d:=by simp [yielded,hj,h,htv2]
    simp only [Region.wanted,hg',hy]
    subst hw
    cases d <;> cases c <;> rfl
theorem ops_wp (hGc: ∀g,closedL (G g)=true) {N:Nat} {n:Nat} (hSC:SCallsOk P fm gm G ip n) {ops:Array Oper} {X:Nat→Prop} {fr':Fr} {σ':Store} :
  ∀ {os:List IOper} {fr:Fr} {σ:Store},OpsEx ip G n os fr σ fr' σ'→∀(i:Nat) (rest:List Oper),ops.toList.drop i=rest→opersChk P fm gm N ops os rest=true→
  ∀ {w:World} {μ:Mu} {a:Act} (_:Given P fm gm G w X μ σ N fr a) {Q:Exit→Act→World→Prop},
   (∀a' w' μ',Out fm N X w μ a fr' σ' a' w' μ'→GlobOK fm gm G w' X μ'→(∀b,X b→b < w'.heap.size)→Q .normal a' w')→wpOps P ops Q (List.range' i rest.length) a w:=by
 intro os fr σ h
 induction h with
 | nil fr σ=>
  intro i rest hi hc w μ a g Q hQ
  cases rest with
  | nil=>exact hQ a w μ ⟨g.rf,g.rs,Ext.refl _ _,rfl⟩ g.glob g.out
  | cons=>simp [opersChk] at hc
 | step io os fr fr' σ σ1 σ' v m hm hw hd _ ih=>
  intro i rest hi hc w μ a g Q hQ
  cases rest with
  | nil=>simp [opersChk] at hc
  | cons o rest=>
   simp only [opersChk,operChk,Bool.and_eq_true,beq_iff_eq] at hc
   obtain ⟨⟨⟨⟨hdst,hN⟩,hg⟩,hop⟩,hrest⟩:=hc
   have hoi:ops[i]? =some o:=by
    have:(ops.toList.drop i)[0]? =some o:=by rw [hi]; rfl
    simpa using this
   have hi':ops.toList.drop (i+1)=rest:=by
    have:ops.toList.drop (i+1)=(ops.toList.drop i).drop 1:=by simp [List.drop_drop]
    rw [this,hi]; rfl
   have hwant:=guard_wanted g.rf hg hw
   rw [List.length_cons,List.range'_succ]
   simp only [wpOps,hoi,hwant,if_true]
   refine .inl (doOp_wp hGc g hSC hm hop hd _ _ (fun cv w' μ' h1 h2 h3=> ?_))
   have hdN: ∀d,o.dst=some d→d < N:=by
    intro d hd'
    rw [hd'] at hN
    simpa using hN
   have rf':RF (fm:=fm) N (fr.put io.dst v) (a.put o.dst cv).tmps w' X μ':=by rw [hdst]; exact (g.rf.ext h2).put hdN h1
   have hout: ∀b,X b→b < w'.heap.size:=fun b hb=>Nat.lt_of_lt_of_le (g.out b hb) h2.size
   have hdef:(a.put o.dst cv).defers=a.defers:=by cases o.dst <;> rfl
   exact ih (i+1) rest hi' hrest ⟨g.glob.ext h2,h3,hout,rf'⟩ (fun a' w'' μ'' ho hgl hx=>hQ a' w'' μ'' ⟨ho.rf,ho.rs,h2.trans ho.ext,ho.defers.trans hdef⟩ hgl hx)
 | skip io os fr fr' σ σ' hw _ ih=>
  intro i rest hi hc w μ a g Q hQ
  cases rest with
  | nil=>simp [opersChk] at hc
  | cons o rest=>
   simp only [opersChk,operChk,Bool.and_eq_true,beq_iff_eq] at hc
   obtain ⟨⟨⟨⟨hdst,hN⟩,hg⟩,hop⟩,hrest⟩:=hc
   have hoi:ops[i]? =some o:=by
    have:(ops.toList.drop i)[0]? =some o:=by rw [hi]; rfl
    simpa using this
   have hi':ops.toList.drop (i+1)=rest:=by
    have:ops.toList.drop (i+1)=(ops.toList.drop i).drop 1:=by simp [List.drop_drop]
    rw [this,hi]; rfl
   have hwant:=guard_wanted g.rf hg hw
   rw [List.length_cons,List.range'_succ]
   simp only [wpOps,hoi,hwant]
   have hdN: ∀d,o.dst=some d→d < N:=by
    intro d hd'
    rw [hd'] at hN
    simpa using hN
   have rf':RF (fm:=fm) N (fr.put io.dst (.tup [])) (a.put o.dst Go.undef).tmps w X μ:=by rw [hdst]; exact g.rf.put hdN rv_skip
   have hdef:(a.put o.dst Go.undef).defers=a.defers:=by cases o.dst <;> rfl
   exact ih (i+1) rest hi' hrest ⟨g.glob,g.rs,g.out,rf'⟩ (fun a' w'' μ'' ho hgl hx=>hQ a' w'' μ'' ⟨ho.rf,ho.rs,ho.ext,ho.defers.trans hdef⟩ hgl hx)
def DrawnOk (P:Program) (fm gm:Nat→Option Nat) (G:Nat→List AV) (ip:Nat→Option IFunc) (dc:List IOper→Array Oper→Bool):Prop:=
 ∀(n N:Nat) (os:List IOper) (ops:Array Oper) (fr fr':Fr) (σ σ':Store) (X:Nat→Prop) (w:World) (μ:Mu) (a:Act) (id:Nat),
  SCallsOk P fm gm G ip n→dc os ops=true→opersChk P fm gm N ops os ops.toList=true→OpsEx ip G n os fr σ fr' σ'→Given P fm gm G w X μ σ N fr a→
  (Code.region id ops true).wp P (fun e a' w'=>e= .normal∧∃μ',Out fm N X w μ a fr' σ' a' w' μ'∧GlobOK fm gm G w' X μ'∧∀b,X b→b < w'.heap.size) a w
inductive Todo (P:Program) (fm gm:Nat→Option Nat) (dc:List IOper→Array Oper→Bool) (N:Nat):List Item→List Go.Item→Prop
 | nil:Todo P fm gm dc N [] []
 | code {ic:ICode} {c:Code} {k:List Item} {l:List Go.Item} (h:codeChk P fm gm dc N ic c=true) (t:Todo P fm gm dc N k l):Todo P fm gm dc N (.code ic ::k) (.code c ::l)
 | inBlock {id:Nat} {k:List Item} {l:List Go.Item} (t:Todo P fm gm dc N k l):Todo P fm gm dc N (.inBlock id ::k) (.inBlock id ::l)
 | inLoop {live:List Nat} {ic:ICode} {c:Code} {k:List Item} {l:List Go.Item} (h:codeChk P fm gm dc N ic c=true) (t:Todo P fm gm dc N k l):Todo P fm gm dc N (.inLoop live ic ::k) (.inLoop c ::l)
theorem exitTo_todo {dc:List IOper→Array Oper→Bool} {N id:Nat} {k k':List Item} {l:List Go.Item} (t:Todo P fm gm dc N k l) (h:exitTo id k=some k') (rest:List Go.Item) :
  ∃l',Go.exitTo id (l ++rest)=some (l' ++rest)∧Todo P fm gm dc N k' l':=by
 induction t with
 | nil=>simp [exitTo] at h
 | code hc t ih=>simp only [exitTo] at h; obtain ⟨l',h1,h2⟩:=ih h; exact ⟨l',by simpa [Go.exitTo] using h1,h2⟩
 | inLoop hc t ih=>simp only [exitTo] at h; obtain ⟨l',h1,h2⟩:=ih h; exact ⟨l',by simpa [Go.exitTo] using h1,h2⟩
 | inBlock t ih=>
  rename_i id' k l
  simp only [exitTo] at h
  by_cases hid:id'=id
  ·rw [if_pos hid] at h
   simp only [Option.some.injEq] at h
   subst h hid
   exact ⟨l,by simp [Go.exitTo],t⟩
  ·rw [if_neg hid] at h
   obtain ⟨l',h1,h2⟩:=ih h
   exact ⟨l',by simpa [Go.exitTo,hid] using h1,h2⟩
theorem get_keep (l:List Nat) (fr:Fr) (t:Nat):(keep l fr).get t=fr.get t∨(keep l fr).get t= .undef:=by
 unfold keep
 induction l with
 | nil=>right; rfl
 | cons x l ih=>
  simp only [List.map_cons]
  unfold Fr.get
  rw [look_cons]
  by_cases h:x=t
  ·subst h; left; rw [if_pos rfl]; rfl
  ·rw [if_neg h]; exact ih
theorem Given.keep {w:World} {X:Nat→Prop} {μ:Mu} {σ:Store} {N:Nat} {fr:Fr} {a:Act} (g:Given P fm gm G w X μ σ N fr a) (l:List Nat):Given P fm gm G w X μ σ N (Ab.keep l fr) a:=
 ⟨g.glob,g.rs,g.out,⟨g.rf.size,fun t=>by
  rcases get_keep l fr t with h | h
  ·rw [h]; exact g.rf.val t
  ·rw [h]; exact .undef _⟩⟩
theorem run_sound (hGc: ∀g,closedL (G g)=true) {dc:List IOper→Array Oper→Bool} (hdc:DrawnOk P fm gm G ip dc) {N:Nat} {X:Nat→Prop} :
  ∀(n:Nat),SCallsOk P fm gm G ip n→∀(k:List Item) (fr fr':Fr) (σ σ':Store),run ip G n k fr σ=some (fr',σ')→
  ∀(w:World) (μ:Mu) (a:Act) (l:List Go.Item),Todo P fm gm dc N k l→Given P fm gm G w X μ σ N fr a→∀(b:Frame) (rest:List Go.Item) (cs:List Frame),
   ∃e a' w' μ',(e= .normal∨e= .ret)∧Arrives P (lone (b.at a (l ++rest)) cs w) b rest cs e a' w'∧Out fm N X w μ a fr' σ' a' w' μ':=by
 intro n
 induction n with
 | zero=>intro _ k fr fr' σ σ' h; simp [run] at h
 | succ n ih=>
  intro hSC k fr fr' σ σ' h w μ a l t g b rest cs
  have hSC':SCallsOk P fm gm G ip n:=fun m hm=>hSC m (by omega)
  have go: ∀ {m:Machine} {a1:Act} {w1:World} {μ1:Mu} {fr1:Fr} {σ1:Store} {k1:List Item} {l1:List Go.Item},Steps P m (lone (b.at a1 (l1 ++rest)) cs w1)→
    run ip G n k1 fr1 σ1=some (fr',σ')→Todo P fm gm dc N k1 l1→Given P fm gm G w1 X μ1 σ1 N fr1 a1→Ext w μ w1 μ1→a1.defers=a.defers→
    ∃e a' w' μ',(e= .normal∨e= .ret)∧Arrives P m b rest cs e a' w'∧Out fm N X w μ a fr' σ' a' w' μ':=by
   intro m a1 w1 μ1 fr1 σ1 k1 l1 hs hr ht hg he hd
   obtain ⟨e,a',w',μ',h1,h2,h3⟩:=ih hSC' k1 fr1 fr' σ1 σ' hr w1 μ1 a1 l1 ht hg b rest cs
   exact ⟨e,a',w',μ',h1, .of_steps hs h2,⟨h3.rf,h3.rs,he.trans h3.ext,h3.defers.trans hd⟩⟩
  cases t with
  | nil=>
   simp only [run,Option.some.injEq,Prod.mk.injEq] at h
   obtain ⟨rfl,rfl⟩:=h
   exact ⟨.normal,a,w,μ, .inl rfl,Steps.refl _ _,⟨g.rf,g.rs,Ext.refl _ _,rfl⟩⟩
  | inBlock t=>
   simp only [run] at h
   exact go (.one step_inBlock) h t g (Ext.refl _ _) rfl
  | inLoop hc t=>
   simp only [run] at h
   exact go (.one step_inLoop) h (.code hc (.inLoop hc t)) (g.keep _) (Ext.refl _ _) rfl
  | code hc t=>
   rename_i ic c k l
   cases ic with
   | stop=>simp [run] at h
   | skip=>
    cases c <;> simp only [codeChk,Bool.false_eq_true] at hc
    simp only [run] at h
    exact go (.one step_skip) h t g (Ext.refl _ _) rfl
   | seq x y=>
    cases c <;> simp only [codeChk,Bool.false_eq_true,Bool.and_eq_true] at hc
    simp only [run] at h
    exact go (.one step_seq) h (.code hc.1 (.code hc.2 t)) g (Ext.refl _ _) rfl
   | cond x y z=>
    cases c <;> simp only [codeChk,Bool.false_eq_true,Bool.and_eq_true] at hc
    rename_i x' y' z'
    simp only [run] at h
    split at h
    case h_2=>simp at h
    rename_i tt hv
    have rx:=val_rv g.glob g.rf hc.1.1
    rw [hv] at rx
    generalize hxe:a.eval x'=xv at rx
    cases rx
    cases tt
    ·exact go (.one (step_cond hxe)) h (.code hc.2 t) g (Ext.refl _ _) rfl
    ·exact go (.one (step_cond hxe)) h (.code hc.1.2 t) g (Ext.refl _ _) rfl
   | block id x=>
    cases c <;> simp only [codeChk,Bool.false_eq_true,Bool.and_eq_true,beq_iff_eq] at hc
    obtain ⟨rfl,hc⟩:=hc
    simp only [run] at h
    exact go (.one step_block) h (.code hc (.inBlock t)) g (Ext.refl _ _) rfl
   | loop l x=>
    cases c <;> simp only [codeChk,Bool.false_eq_true] at hc
    simp only [run] at h
    exact go (.one step_loop) h (.code hc (.inLoop hc t)) (g.keep l) (Ext.refl _ _) rfl
   | keep l x=>
    simp only [codeChk] at hc
    simp only [run] at h
    exact go (.refl _ _) h (.code hc t) (g.keep l) (Ext.refl _ _) rfl
   | frz l x=>
    simp only [codeChk] at hc
    simp only [run] at h
    obtain ⟨μ1,x1,r1⟩:=freezeTs_rs (fr:=fr) l g.rs
    exact go (.refl _ _) h (.code hc t) ⟨g.glob.ext x1,r1,g.out,g.rf.ext x1⟩ x1 rfl
   | arity m x=>simp only [codeChk,Bool.false_eq_true] at hc
   | exit id=>
    cases c <;> simp only [codeChk,Bool.false_eq_true,beq_iff_eq] at hc
    subst hc
    simp only [run] at h
    split at h
    case h_2=>simp at h
    rename_i k' hk
    obtain ⟨l',h1,h2⟩:=exitTo_todo t hk rest
    exact go (.one (step_exit h1)) h h2 g (Ext.refl _ _) rfl
   | ret=>
    cases c <;> simp only [codeChk,Bool.false_eq_true] at hc
    simp only [run,Option.some.injEq,Prod.mk.injEq] at h
    obtain ⟨rfl,rfl⟩:=h
    exact ⟨.ret,a,w,μ, .inr rfl,⟨_, .one step_ret⟩,⟨g.rf,g.rs,Ext.refl _ _,rfl⟩⟩
   | region os=>
    cases c <;> simp only [codeChk,Bool.false_eq_true,Bool.and_eq_true] at hc
    rename_i id ops draw
    obtain ⟨hc,hd⟩:=hc
    simp only [run] at h
    obtain ⟨m,fr1,σ1,hm,hex,hrest⟩:=run_ops n os k fr fr' σ σ' h
    have hwp:(Code.region id ops draw).wp P (fun e a' w'=>e= .normal∧∃μ',Out fm N X w μ a fr1 σ1 a' w' μ'∧GlobOK fm gm G w' X μ'∧∀b,X b→b < w'.heap.size) a w:=by
     cases draw with
     | false=>
      refine wp_region ?_
      have:=ops_wp hGc hSC' hex 0 ops.toList rfl hc g (Q:=fun e a' w'=>e= .normal∧∃μ',Out fm N X w μ a fr1 σ1 a' w' μ'∧GlobOK fm gm G w' X μ'∧∀b,X b→b < w'.heap.size)
       (fun a' w' μ' h1 h2 h3=>⟨rfl,μ',h1,h2,h3⟩)
      rw [Array.length_toList] at this
      rw [List.range_eq_range']
      exact this
     | true=>
      simp only [Bool.not_true,Bool.false_or] at hd
      exact hdc n N os ops fr fr1 σ σ1 X w μ a id hSC' hd hc hex g
    obtain ⟨e,a1,w1,⟨rfl,μ1,ho,hgl,hx⟩,harr⟩:=hwp b (l ++rest) cs
    have hup:run ip G n k fr1 σ1=some (fr',σ'):=by
     exact run_mono (by omega) _ _ _ _ hrest
    exact go harr hup t ⟨hgl,ho.rs,hx,ho.rf⟩ ho.ext ho.defers
end
end Go.Ab
namespace Go.Ab
open Go.RowKit
section
variable {P:Program} {fm gm:Nat→Option Nat} {G:Nat→List AV} {ip:Nat→Option IFunc}
theorem run_listMapM {w:World} {α β:Type} (f:α→Sem β): ∀(xs:List α) (ys:List β),xs.length=ys.length→(∀(i:Nat) (x:α) (y:β),xs[i]? =some x→ys[i]? =some y→(f x).run P w= .ok y w)→(xs.mapM f).run P w= .ok ys w
 | [], [],_,_=>by simp
 | x ::xs,y ::ys,h,hh=>by
  have h0:=hh 0 x y rfl rfl
  have ih:=run_listMapM f xs ys (by simpa using h) (fun i a b ha hb=>hh (i+1) a b (by simpa using ha) (by simpa using hb))
  simp [List.mapM_cons,h0,ih]
 | [],_ ::_,h,_=>by simp at h
 | _ ::_, [],h,_=>by simp at h
theorem res_rv {w:World} {X:Nat→Prop} {μ:Mu} {σ:Store} {N:Nat} {fr:Fr} {tmps:Array Value} (hS:RS (fm:=fm) σ w X μ) (r:RF (fm:=fm) N fr tmps w X μ) :
  ∀ {l:List IRes} {l':List ResultVar} {vs:List AV},resChk P l l'=true→resOf fr σ l=some vs→
   ∃ys:List Value,ys.length=l'.length∧vs.length=ys.length∧(∀j,RV fm w X μ (vs.getD j .undef) (ys.getD j Go.undef))∧
    ∀(i:Nat) (x:ResultVar) (y:Value),l'[i]? =some x→ys[i]? =some y→((fun | .tmp t=>pure (tmps.getD t undef) | .cell a t=>do loadVar t (←asAddr (tmps.getD a undef)):ResultVar→Sem Value) x).run P w= .ok y w
 | [], [],vs,_,h=>by
  simp only [resOf,Option.some.injEq] at h
  subst h
  exact ⟨[],rfl,rfl,fun j=> .undef _,fun i x y hx=>by simp at hx⟩
 | .tmp t ::l, .tmp t' ::l',vs,hc,h=>by
  simp only [resChk,Bool.and_eq_true,beq_iff_eq] at hc
  obtain ⟨rfl,hc⟩:=hc
  simp only [resOf] at h
  split at h <;> simp only [Option.some.injEq,reduceCtorEq] at h
  rename_i vs' hv
  subst h
  obtain ⟨ys,h1,h2,h3,h4⟩:=res_rv hS r hc hv
  refine ⟨tmps.getD t Go.undef ::ys,by simp [h1],by simp [h2],fun j=> ?_,fun i x y hx hy=> ?_⟩
  ·cases j with
   | zero=>simpa using r.val t
   | succ j=>simpa using h3 j
  ·cases i with
   | zero=>
    simp only [List.getElem?_cons_zero,Option.some.injEq] at hx hy
    subst hx hy
    rfl
   | succ i=>exact h4 i x y (by simpa using hx) (by simpa using hy)
 | .cell t n ::l, .cell t' ty ::l',vs,hc,h=>by
  simp only [resChk,Bool.and_eq_true,beq_iff_eq] at hc
  obtain ⟨⟨rfl,hl⟩,hc⟩:=hc
  simp only [resOf] at h
  split at h <;> simp only [Option.some.injEq,reduceCtorEq] at h
  rename_i v vs' hv1 hv
  subst h
  obtain ⟨ys,h1,h2,h3,h4⟩:=res_rv hS r hc hv
  obtain ⟨blk,base,off,cs,hpv,hr1,hr2⟩:=readPtr_place hS (r.val t) hv1
  obtain ⟨cv,hcv,hrv⟩:=readAt_load (P:=P) hl hr1 hr2
  refine ⟨cv ::ys,by simp [h1],by simp [h2],fun j=> ?_,fun i x y hx hy=> ?_⟩
  ·cases j with
   | zero=>simpa using hrv
   | succ j=>simpa using h3 j
  ·cases i with
   | zero=>
    simp only [List.getElem?_cons_zero,Option.some.injEq] at hx hy
    subst hx hy
    show (do loadVar ty (←asAddr (tmps.getD t undef)):Sem Value).run P w=_
    rw [hpv]
    simpa [asAddr] using hcv
   | succ i=>exact h4 i x y (by simpa using hx) (by simpa using hy)
 | [],_ ::_,_,hc,_=>by simp [resChk] at hc
 | .tmp _ ::_, [],_,hc,_=>by simp [resChk] at hc
 | .cell _ _ ::_, [],_,hc,_=>by simp [resChk] at hc
 | .tmp _ ::_, .cell _ _ ::_,_,hc,_=>by simp [resChk] at hc
 | .cell _ _ ::_, .tmp _ ::_,_,hc,_=>by simp [resChk] at hc
theorem resAll_rv {w:World} {X:Nat→Prop} {μ:Mu} {σ:Store} {N:Nat} {fr:Fr} {tmps:Array Value} (hS:RS (fm:=fm) σ w X μ) (r:RF (fm:=fm) N fr tmps w X μ) {fn:Func}
  {l:List IRes} (hc:resChk P l fn.results.toList=true) {v:AV} (h:resAll fr σ l=some v): ∃cv,(results fn tmps).run P w= .ok cv w∧RV fm w X μ v cv:=by
 unfold resAll at h
 cases hr:resOf fr σ l with
 | none=>simp [hr] at h
 | some vs=>
  rw [hr] at h
  obtain ⟨ys,h1,h2,h3,h4⟩:=res_rv hS r hc hr
  have hmap:(fn.results.mapM fun | .tmp t=>pure (tmps.getD t undef) | .cell a t=>do loadVar t (←asAddr (tmps.getD a undef)):Sem (Array Value)).run P w= .ok ys.toArray w:=by
   have e:fn.results=fn.results.toList.toArray:=by simp
   rw [e,List.mapM_toArray]
   simp only [Sem.run_map]
   rw [run_listMapM _ fn.results.toList ys h1.symm h4]
   rfl
  have hres:(results fn tmps).run P w= .ok (if h:ys.toArray.size=1 then ys.toArray[0] else .tuple ys.toArray) w:=by
   have h5:=congrArg (fun q:Result (Array Value)=>q.andThen fun vs w'=>(pure (if h:vs.size=1 then vs[0] else .tuple vs):Sem Value).run P w') hmap
   exact (Sem.run_bind' P _ _ w).trans h5
  refine ⟨_,hres,?_⟩
  match vs,ys,h2,h,h3 with
  | [v1], [y1],_,h,h3=>
   simp only [Option.some.injEq] at h
   subst h
   simpa using h3 0
  | [], [],_,h,_=>
   simp only [Option.some.injEq] at h
   subst h
   exact .tup [] #[] rfl (fun j=> .undef _)
  | v1 ::v2 ::vs,y1 ::y2 ::ys,h2,h,h3=>
   simp only [Option.some.injEq] at h
   subst h
   rw [dif_neg (by simp)]
   exact .tup _ _ (by simpa using h2) (fun j=>by simpa using h3 j)
theorem look_init: ∀(l:List AV) (k t:Nat),look ((List.range' k l.length).zip l) t=if k≤t then l[t - k]? else none
 | [],k,t=>by simp [look]
 | x ::l,k,t=>by
  simp only [List.length_cons,List.range'_succ,List.zip_cons_cons,look]
  rw [look_init l (k+1) t]
  by_cases h:k=t
  ·subst h; simp
  ·rw [if_neg h]
   by_cases h2:k≤t
   ·rw [if_pos h2,if_pos (by omega)]
    have:t - k=(t - (k+1))+1:=by omega
    rw [this]; simp
   ·rw [if_neg h2,if_neg (by omega)]
theorem initFr_get (l:List AV) (t:Nat):(initFr l).get t=l.getD t .undef:=by
 unfold initFr Fr.get
 rw [List.range_eq_range',look_init]
 simp
def NatOk (P:Program) (fm:Nat→Option Nat) (F:IFunc) (f':FuncId):Prop:=
 ∃k n,F=natF k n∧(∃fn,P.funcs[f']? =some fn∧fn.body.isSome=true∧fn.name≠ "runtime.NumGoroutine")∧
  ∀(X:Nat→Prop) (μ:Mu) (w:World) (σ σ':Store) (args:List AV) (args':Array Value) (r:AV),RS (fm:=fm) σ w X μ→(∀b,X b→b < w.heap.size)→args.length=args'.size→
   (∀j,RV fm w X μ (args.getD j .undef) (args'.getD j Go.undef))→primOf k σ args=some (r,σ')→CallOk P fm X μ f' args' w r σ'
def ProgOk (P:Program) (fm gm:Nat→Option Nat) (ip:Nat→Option IFunc) (dc:List IOper→Array Oper→Bool):Prop:=
 ∀id F f',ip id=some F→fm id=some f'→funcChk P fm gm dc F f'=true∨NatOk P fm F f'
theorem range_init (args:List AV):(List.range args.length).map (fun t=>(initFr args).get t)=args:=by
 apply List.ext_getElem
 ·simp
 ·intro i h1 h2
  simp only [List.getElem_map,List.getElem_range,initFr_get]
  simp [h2]
theorem nat_run {k:PrimK} {n m:Nat} {args:List AV} {σ σ1:Store} {fr1:Fr} {rv:AV} (h:run ip G m [.code (natF k n).body] (initFr args) σ=some (fr1,σ1)) (hr:resAll fr1 σ1 (natF k n).res=some rv) :
  primOf k σ args=some (rv,σ1):=by
 obtain ⟨m1,rfl⟩ : ∃m1,m=m1+1:=⟨m - 1,by cases m with | zero=>simp [run] at h | succ m=>rfl⟩
 simp only [natF,run] at h
 split at h
 case isFalse=>simp at h
 rename_i hlen
 have hlen':args.length=n:=by simpa [initFr] using hlen
 subst hlen'
 match m1,h with
 | 0,h=>simp [run] at h
 | 1,h=>simp [run] at h
 | 2,h=>simp [run] at h
 | 3,h=>simp [run,wanted] at h; split at h <;> simp [run] at h
 | 4,h=>
  simp only [run,wanted,doOp] at h
  split at h
  ·simp [run] at h
  ·simp at h
 | m1+5,h=>
  simp only [run,wanted,doOp,List.map_map] at h
  split at h
  case h_2=>simp at h
  rename_i v σ' hp
  simp only [Option.some.injEq,Prod.mk.injEq] at h
  obtain ⟨rfl,rfl⟩:=h
  have he:(List.range args.length).map ((val G (initFr args)) ∘ Opd.tmp)=args:=range_init args
  rw [he] at hp
  simp only [natF,resAll,resOf,Fr.put,Fr.get,look,if_true,Option.getD_some,Option.some.injEq] at hr
  rw [hp,hr]
theorem scalls_ok (hGc: ∀g,closedL (G g)=true) {dc:List IOper→Array Oper→Bool} (hdc:DrawnOk P fm gm G ip dc) (hP:ProgOk P fm gm ip dc): ∀n,SCallsOk P fm gm G ip n:=by
 intro n
 induction n with
 | zero=>intro m hm; omega
 | succ n ih=>
  intro m hm
  by_cases hlt:m < n
  ·exact ih m hlt
  have hmn:m=n:=by omega
  subst hmn
  intro X μ w σ σ' id first args caps r h hgl hS hX f' first' args' caps' hf l1 l2 l3 r1 r2 r3
  simp only [scall] at h
  cases hF:ip id with
  | none=>simp [hF] at h
  | some F=>
   simp only [hF] at h
   cases hr:run ip G m [.code F.body] (initFr (first ++args ++caps)) σ with
   | none=>rw [hr] at h; simp at h
   | some y=>
    obtain ⟨fr1,σ1⟩:=y
    rw [hr] at h
    simp only at h
    split at h <;> simp only [Option.some.injEq,Prod.mk.injEq,reduceCtorEq] at h
    rename_i rv hrv
    obtain ⟨rfl,rfl⟩:=h
    rcases hP id F f' hF hf with hchk | ⟨k,n,rfl,hfn,hnat⟩
    case inr=>
     refine ⟨hfn,?_⟩
     have hp:=nat_run hr hrv
     refine hnat X μ w σ σ1 _ _ rv hS hX (by simp [l1,l2,l3]) ?_ hp
     have key: ∀(p:List AV) (p':Array Value) (q:List AV) (q':Array Value),p.length=p'.size→(∀j,RV fm w X μ (p.getD j .undef) (p'.getD j Go.undef))→
       (∀j,RV fm w X μ (q.getD j .undef) (q'.getD j Go.undef))→∀j,RV fm w X μ ((p ++q).getD j .undef) ((p' ++q').getD j Go.undef):=by
      intro p p' q q' hl h1 h2 j
      simp only [List.getD_eq_getElem?_getD,Array.getD_eq_getD_getElem?,List.getElem?_append,Array.getElem?_append]
      by_cases hj:j < p.length
      ·rw [if_pos hj,if_pos (by omega)]; simpa using h1 j
      ·rw [if_neg hj,if_neg (by omega),hl]; simpa using h2 (j - p'.size)
     exact key _ _ _ _ (by simp [l1,l2]) (key _ _ _ _ l1 r1 r2) r3
    unfold funcChk at hchk
    split at hchk
    case h_2=>simp at hchk
    rename_i fn hfn
    simp only [Bool.and_eq_true,bne_iff_ne,ne_eq] at hchk
    obtain ⟨⟨hcode,hres⟩,hname⟩:=hchk
    split at hcode
    case h_2=>simp at hcode
    rename_i c hbody
    refine ⟨⟨fn,hfn,by simp [hbody],hname⟩,?_⟩
    refine calls_of_wp hfn hbody ?_
    have hinit:RF (fm:=fm) fn.ntmps (initFr (first ++args ++caps)) ((first' ++args' ++caps') ++Array.replicate (fn.ntmps - (first' ++args' ++caps').size) Go.undef) w X μ:=by
     refine ⟨by simp; omega,fun t=> ?_⟩
     rw [initFr_get]
     have hl:(first ++args ++caps).length=(first' ++args' ++caps').size:=by simp [l1,l2,l3]
     by_cases ht:t < (first ++args ++caps).length
     ·have e1:((first' ++args' ++caps') ++Array.replicate (fn.ntmps - (first' ++args' ++caps').size) Go.undef).getD t Go.undef=(first' ++args' ++caps').getD t Go.undef:=by
       have ht':t < (first' ++args' ++caps').size:=by omega
       simp only [Array.getD_eq_getD_getElem?]
       rw [Array.getElem?_append_left ht']
      rw [e1]
      have key: ∀(p:List AV) (p':Array Value) (q:List AV) (q':Array Value),p.length=p'.size→(∀j,RV fm w X μ (p.getD j .undef) (p'.getD j Go.undef))→
        (∀j,RV fm w X μ (q.getD j .undef) (q'.getD j Go.undef))→∀j,RV fm w X μ ((p ++q).getD j .undef) ((p' ++q').getD j Go.undef):=by
       intro p p' q q' hl h1 h2 j
       simp only [List.getD_eq_getElem?_getD,Array.getD_eq_getD_getElem?,List.getElem?_append,Array.getElem?_append]
       by_cases hj:j < p.length
       ·rw [if_pos hj,if_pos (by omega)]; simpa using h1 j
       ·rw [if_neg hj,if_neg (by omega),hl]; simpa using h2 (j - p'.size)
      exact key _ _ _ _ (by simp [l1,l2]) (key _ _ _ _ l1 r1 r2) r3 t
     ·have:(first ++args ++caps).getD t .undef= .undef:=by rw [List.getD_eq_getElem?_getD,List.getElem?_eq_none (by omega)]; rfl
      rw [this]; exact .undef _
    intro b k cs
    obtain ⟨e,a',w',μ',he,harr,ho⟩:=run_sound hGc hdc m (fun k hk=>ih k (by omega)) [.code F.body] _ fr1 σ σ1 hr w μ
     { tmps:=(first' ++args' ++caps') ++Array.replicate (fn.ntmps - (first' ++args' ++caps').size) Go.undef,defers:= [] } [.code c] (.code hcode .nil) ⟨hgl,hS,hX,hinit⟩ b k cs
    obtain ⟨cv,hcv,hrv2⟩:=resAll_rv (P:=P) ho.rs ho.rf hres hrv
    refine ⟨e,a',w',?_,harr⟩
    have hfin:a'.defers= []∧∃v,(results fn a'.tmps).run P w'= .ok v w'∧∃cv μ',Ending.returned v= .returned cv∧RV fm w' X μ' rv cv∧RS (fm:=fm) σ1 w' X μ'∧Ext w μ w' μ':=
     ⟨ho.defers,cv,hcv,cv,μ',rfl,hrv2,ho.rs,ho.ext⟩
    rcases he with rfl | rfl
    ·exact hfin
    ·exact hfin
def acall (ip:Nat→Option IFunc) (G:Nat→List AV) (n:Nat) (id:Nat) (args:List AV):Option (AV×Store):=scall ip (run ip G n) (.fn id [] []) args .empty
theorem acall_sound (hGc: ∀g,closedL (G g)=true) {dc:List IOper→Array Oper→Bool} (hdc:DrawnOk P fm gm G ip dc) (hP:ProgOk P fm gm ip dc)
  {n id:Nat} {args:List AV} {r:AV} {σ1:Store} (h:acall ip G n id args=some (r,σ1)) {f':FuncId} (hf:fm id=some f') {w:World} (hgl:GlobOK fm gm G w (fun _=>False) Mu.none)
  {args':Array Value} (hl:args.length=args'.size) (hr: ∀j,RV fm w (fun _=>False) Mu.none (args.getD j .undef) (args'.getD j Go.undef)) :
  Calls P f' args' w fun e w'=>∃cv μ',e= .returned cv∧RV fm w' (fun _=>False) μ' r cv∧Below w.heap.size w w':=by
 have:=(scalls_ok hGc hdc hP (n+1) n (by omega) (fun _=>False) Mu.none w .empty σ1 id [] args [] r h hgl empty_rs (fun _ hh=>hh.elim) f' #[] args' #[] hf rfl hl rfl
  (fun j=>by simpa using RV.undef _) hr (fun j=>by simpa using RV.undef _)).2
 have e:(#[] ++args' ++ #[] :Array Value)=args':=by simp
 rw [e] at this
 exact Calls.mono this (by rintro e w' ⟨cv,μ',rfl,h2,h3,h4⟩; exact ⟨cv,μ',rfl,h2,below_of_ext h4⟩)
end
end Go.Ab
