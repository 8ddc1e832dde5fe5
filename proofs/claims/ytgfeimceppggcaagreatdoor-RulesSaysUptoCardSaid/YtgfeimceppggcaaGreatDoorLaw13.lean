/- What functions of the program, and of the library, answer. Conditions: none. -/
import Derived.Test.YtgfeimceppggcaaGreatDoorLaw12
import Derived.Test.YtgfeimceppggcaaGreatDoorLaw11
import Derived.Test.YtgfeimceppggcaaGreatDoorLaw9
import Derived.Test.YtgfeimceppggcaaGreatDoorLaw10
set_option linter.unusedVariables false
set_option linter.unusedSimpArgs false
set_option linter.defProp false
set_option linter.unnecessarySimpa false
namespace Go.Ab
set_option maxRecDepth 100000
set_option maxHeartbeats 1000000
def vG:=J @CX.eq_1 (J @CW.eq_1 (J @xe.eq_1 (@Y7.eq_1)))
def Q14Fb:=J @CX.eq_1 (J @CW.eq_1 (@Y7.eq_1))
def mZ (acc:List Bs) (x:V):List Bs:=if (iE x kG).2=true/\acc.length < 4 then acc ++ [(iE x kG).1] else acc
def qK (c:V):List Bs:=if (bu (said c) kG).2=true then [(bu (said c) kG).1] else []
def oN (c:V):List Bs:=(if (cm c eN).1.kind=4/\c.good=true then (cm c eN).1.l else []).foldl mZ (qK c)
theorem R9 {σ:ag} {v:AV} {acc m:List Bs} {p:Nat} (hp:p < σ.next): ∀len sz c,(AV.sl σ.next 0 (acc ++m).length 1 none)≠ .sl p 0 len sz c:=fun len sz c e=>by cases e; omega
theorem xO {c g:V} (hb:c.sz < lim) (hg:g.sz < lim) {p:Nat} {v0:AV} {acc0:List Bs} {K:List Item} {Q:Fr->ag->Prop} {σ:ag}
  (h1:Gr jR σ v0 acc0) (h2:look σ.m p=some (.own [.int .i64 g.kind, .int .i64 g.n, .str g.s, .vsl (g.l.map V.enc) none, .vsl (g.m.map bx) none])) (h3:p < σ.next) (h4: ∀len sz c,v0≠ .sl p 0 len sz c) (h5:acc0.length<=4)
  (hk: ∀σ' v l,Gr jR σ' v ((if g.kind=4/\c.good=true then g.l else []).foldl mZ acc0)->Ex cF gU K ((1, .vptr [.int .i64 c.kind, .int .i64 c.n, .str c.s, .vsl (c.l.map V.enc) none, .vsl (c.m.map bx) none] 0) ::(3,v) ::l) σ' Q) :
  Ex cF gU (.code xe :: .inLoop [1,3,6,8] xe :: .inBlock 0 ::K) [(1, .vptr [.int .i64 c.kind, .int .i64 c.n, .str c.s, .vsl (c.l.map V.enc) none, .vsl (c.m.map bx) none] 0),(3,v0),(6, .ptr p 0),(8, .int .i64 0)] σ Q:=by
 have vm:=m6 c (by unfold lim cJ at*; omega)
 generalize hW:(if g.kind=4/\c.good=true then g.l else [])=W at hk
 refine aL (S:=Nat×List Bs×AV) (fun q=> [(1, .vptr [.int .i64 c.kind, .int .i64 c.n, .str c.s, .vsl (c.l.map V.enc) none, .vsl (c.m.map bx) none] 0),(3,q.2.2),(6, .ptr p 0),(8, .int .i64 (q.1:Int))]) (fun q=>g.l.length - q.1)
  (fun q σ=>Gr jR σ q.2.2 q.2.1/\look σ.m p=some (.own [.int .i64 g.kind, .int .i64 g.n, .str g.s, .vsl (g.l.map V.enc) none, .vsl (g.m.map bx) none])/\p < σ.next/\(∀len sz c,q.2.2≠ .sl p 0 len sz c)/\q.2.1.length<=4/\(W.drop q.1).foldl mZ q.2.1=W.foldl mZ acc0) ?_ (0,acc0,v0) σ ⟨h1,h2,h3,h4,h5,rfl⟩
 rintro B ⟨j,acc,v⟩ σ ⟨g1,g2,g3,g4,g5,g6⟩ ih
 simp only at g1 g2 g3 g4 g5 g6 ih
 have zo:=ph g
 have hgz:=g.sz_eq
 unfold lim at hb hg
 by_cases aN:j < g.l.length
 ·have d1:=lS aN
  by_cases h4k:g.kind=4
  ·have q4:(g.kind == 4)=true:=by simp [h4k]
   by_cases hgo:c.good=true
   ·rw [hgo] at vm
    rw [if_pos ⟨h4k,hgo⟩] at hW
    subst hW
    obtain ⟨x,hx⟩:=bM aN
    have bQ:=bV (f:=V.enc) (sz:=5) (c:=none) hx (by simp [V.enc_cells])
    have hxz:=gL (bH hx)
    have ht:=iY x kG (by unfold cJ; omega)
    rw [drop_cons hx,List.foldl_cons] at g6
    have hw:=cd aN aa
    have ui:=g1.lenL
    have tr:mZ acc x=if (iE x kG).2=true/\acc.length < 4 then acc ++ [(iE x kG).1] else acc:=rfl
    generalize iE x kG=tx at*
    obtain ⟨tt,tb⟩:=tx
    simp only at ht tr
    cases tb with
    | false=>
     rw [tr,if_neg (fun h=>by cases h.1)] at g6
     simp only [vG,ax,seval,VX,ae,g2,d1,q4,vm,bQ,ht,hw]
     exact ih (j+1,acc,v) _ _ (by simp; omega) ⟨g1,g2,g3,g4,g5,g6⟩ rfl
    | true=>
     by_cases hl4:acc.length < 4
     ·have q5:decide ((acc.length:Int) < 4)=true:=by simp; omega
      have dI:=g1.push (a:=tt) (bytes:=16) aa (by unfold bg; omega)
      have jc:lenOf (.vsl [.str tt] (some 1))=some 1:=rfl
      have nN: ∀σ',rowOf σ' 1 (.vsl [.str tt] (some 1))=some [.str tt]:=fun _=>rfl
      have E7:aJ σ 1 16 v [.str tt] 1=some (.sl σ.next 0 (acc ++ [tt]).length 1 none,di jR σ v acc [tt]):=dI
      rw [tr,if_pos ⟨rfl,hl4⟩] at g6
      simp only [vG,ax,seval,VX,ae,g2,d1,q4,vm,bQ,ht,ui,q5,E7,jc,nN,hw]
      refine ih (j+1,acc ++ [tt],_) _ _ (by simp; omega) ⟨Gr.own (g1.next (by simp)),?_,by rw [fY]; omega,R9 (v:=v) g3,by simp; omega,g6⟩ rfl
      have:=gY (m:= [tt]) g1 g3 g4
      unfold ag.get at this; rw [this]; exact g2
     ·have q5:decide ((acc.length:Int) < 4)=false:=by simp; omega
      rw [tr,if_neg (fun h=>hl4 h.2)] at g6
      simp only [vG,ax,seval,VX,ae,g2,d1,q4,vm,bQ,ht,ui,q5,hw]
      exact ih (j+1,acc,v) _ _ (by simp; omega) ⟨g1,g2,g3,g4,g5,g6⟩ rfl
   ·have hgo':c.good=false:=by simpa using hgo
    rw [hgo'] at vm
    rw [if_neg (fun h=>hgo h.2)] at hW
    subst hW
    rw [List.drop_nil,List.foldl_nil,List.foldl_nil] at g6
    subst g6
    simp only [vG,ax,seval,VX,ae,g2,d1,q4,vm]
    exact hk _ _ _ g1
  ·have q4:(g.kind == 4)=false:=by simp [h4k]
   rw [if_neg (fun h=>h4k h.1)] at hW
   subst hW
   rw [List.drop_nil,List.foldl_nil,List.foldl_nil] at g6
   subst g6
   simp only [vG,ax,seval,VX,ae,g2,d1,q4]
   exact hk _ _ _ g1
 ·have d1:=lT (Nat.not_lt.1 aN)
  have hwl:W.drop j= []:=by
   apply bn
   subst hW
   split
   ·omega
   ·exact Nat.zero_le _
  rw [hwl,List.foldl_nil] at g6
  simp only [vG,ax,seval,VX,ae,g2,d1]
  rw [g6] at g1
  exact hk _ _ _ g1
theorem Gy {c:V} (hb:c.sz < lim):cR 196 [c.enc]=some (.vsl ((oN c).map .str) none):=by
 have ht:=pT c kG (by unfold lim cJ at*; omega)
 have hg:=m7 c eN (by unfold lim cJ at*; omega)
 have hgz:=kM c eN
 have hp0:qK c=if (bu (said c) kG).2=true then [(bu (said c) kG).1] else []:=rfl
 unfold oN
 generalize bu (said c) kG=tx at*
 generalize cm c eN=gx' at*
 obtain ⟨tt,tb⟩:=tx
 obtain ⟨g,gb⟩:=gx'
 simp only at ht hg hgz hp0 ⊢
 refine aC (F:=Y7) rfl ?_
 cases tb with
 | false=>
  rw [if_neg (by decide)] at hp0
  rw [hp0]
  simp only [Q14Fb,ax,seval,VX,ae,ay,ht,hg]
  refine xO (c:=c) (g:=g) (p:=0) hb aa (Gr.nil jR _) (by simp [look]) (aR _) (by intro _ _ _ e; cases e) (by simp) (fun σ' v l h=> ?_)
  have W3:=h.rbE
  simp only [vG,ax,seval,VX,ae,W3]
  rfl
 | true=>
  rw [if_pos rfl] at hp0
  rw [hp0]
  have jc:lenOf (.vsl [.str tt] (some 1))=some 1:=rfl
  have nN: ∀σ',rowOf σ' 1 (.vsl [.str tt] (some 1))=some [.str tt]:=fun _=>rfl
  have E7:aJ ⟨0, []⟩ 1 16 .nils [.str tt] 1=some (.sl 0 0 1 1 none,⟨1, [(0, .own [.str tt])]⟩):=rfl
  simp only [Q14Fb,ax,seval,VX,ae,ay,ht,hg,jc,nN,E7]
  refine xO (c:=c) (g:=g) (p:=1) hb aa (acc0:= [tt]) (v0:= .sl 0 0 1 1 none) ?_ (by simp [look]) (aR _) (by intro _ _ _ e; cases e) (by simp) (fun σ' v l h=> ?_)
  ·exact Gr.own (L:=jR) (l:= [tt]) (b:=0) ⟨rfl,rfl,by show 0 < 2; decide,by simp⟩
  ·have W3:=h.rbE
   simp only [vG,ax,seval,VX,ae,W3]
   rfl
def FL:=J @qy.eq_1 (J @qx.eq_1 (J @qw.eq_1 (J @tl.eq_1 (J @qv.eq_1 (J @oK.eq_1 (J @qu.eq_1 (J @qt.eq_1 (J @qq.eq_1 (J @tj.eq_1 (J @qp.eq_1 (J @tf.eq_1 (@FU.eq_1))))))))))))
def ld (T:V):List Bs:=T.m.foldl (fun acc y=>y.2.m.foldl stepT acc) []
def Dt (msg:Bs) (sigs:List Bs) (p:Bs):Bool:=match iN p with
 | some k=>sigs.any fun g=>match iN g with
  | some s=>qA cO k msg s
  | none=>false
 | none=>false
def vK (X:V):Bs:=if (mi X [dm] false).good=true then (mi X [dm] false).wr else []
def sf (c t:V):Bool:=(iz c).2.2 && (oN t).any (Dt (vK (bW c).1) (ld (cm (bW c).1 dm).1))
abbrev frT (t:V):AV:= .vptr [.int .i64 t.kind, .int .i64 t.n, .str t.s, .vsl (t.l.map V.enc) none, .vsl (t.m.map bx) none] 0
theorem Dv {T t:V} {msg:Bs} (hT:T.sz < lim) {K:List Item} {Q:Fr->ag->Prop} {σ:ag}
  (h2:look σ.m 1=some (.own [.int .i64 T.kind, .int .i64 T.n, .str T.s, .vsl (T.l.map V.enc) none, .vsl (T.m.map bx) none])) (h3:1 < σ.next)
  (hk: ∀σ' v l,Gr jR σ' v (ld T)->Ex cF gU K ((3,frT t) ::(10, .str msg) ::(12, .ptr 1 0) ::(14,v) ::l) σ' Q) :
  Ex cF gU (.code oK :: .inLoop [3,10,12,14,15] oK :: .inBlock 0 ::K) [(3,frT t),(10, .str msg),(12, .ptr 1 0),(14, .nils),(15, .int .i64 0)] σ Q:=by
 have uo:=gW T
 have hTz:=T.sz_eq
 unfold lim at hT
 refine aL (S:=Nat×List Bs×AV) (fun q=> [(3,frT t),(10, .str msg),(12, .ptr 1 0),(14,q.2.2),(15, .int .i64 (q.1:Int))]) (fun q=>T.m.length - q.1)
  (fun q σ=>Gr jR σ q.2.2 q.2.1/\look σ.m 1=some (.own [.int .i64 T.kind, .int .i64 T.n, .str T.s, .vsl (T.l.map V.enc) none, .vsl (T.m.map bx) none])/\1 < σ.next/\(∀len sz c,q.2.2≠ .sl 1 0 len sz c)/\q.2.1.length<=4/\(T.m.drop q.1).foldl (fun acc y=>y.2.m.foldl stepT acc) q.2.1=ld T) ?_ (0, [], .nils) σ ⟨Gr.nil jR _,h2,h3,(by intro _ _ _ e; cases e),by simp,rfl⟩
 rintro B ⟨j,acc,v⟩ σ ⟨g1,g2,g3,g4,g5,g6⟩ ih
 simp only at g1 g2 g3 g4 g5 g6 ih
 by_cases aN:j < T.m.length
 ·have d1:=lS aN
  obtain ⟨y,hy⟩:=bM aN
  have bQ:=bV (f:=bx) (sz:=6) (c:=none) hy (by simp [bJ])
  have hyz:=eT (bH hy)
  have hyl:=gW y.2
  have hyz2:=y.2.sz_eq
  have hw:=cd aN aa
  rw [drop_cons hy,List.foldl_cons] at g6
  simp only [qy,qx,qw,qv,oK,qu,qt,qq,tj,qp,tf,FU,ax,seval,VX,ae,ay,g2,d1]
  refine aL (S:=Nat×List Bs×AV) (fun q=> [(3,frT t),(10, .str msg),(12, .ptr 1 0),(14,q.2.2),(15, .int .i64 (j:Int)),(16, .int .i64 (q.1:Int))]) (fun q=>y.2.m.length - q.1)
   (fun q σ=>Gr jR σ q.2.2 q.2.1/\look σ.m 1=some (.own [.int .i64 T.kind, .int .i64 T.n, .str T.s, .vsl (T.l.map V.enc) none, .vsl (T.m.map bx) none])/\1 < σ.next/\(∀len sz c,q.2.2≠ .sl 1 0 len sz c)/\q.2.1.length<=4/\(y.2.m.drop q.1).foldl stepT q.2.1=y.2.m.foldl stepT acc) ?_ (0,acc,v) _ ⟨g1,g2,g3,g4,g5,rfl⟩
  rintro B2 ⟨k,ju,v2⟩ σ2 ⟨l1,l2,l3,l4,l5,l6⟩ ir
  simp only at l1 l2 l3 l4 l5 l6 ir
  by_cases qc:k < y.2.m.length
  ·have d2:=lS qc
   obtain ⟨z,hz⟩:=bM qc
   have lB:=bV (f:=bx) (sz:=6) (c:=none) hz (by simp [bJ])
   have vM:=cd qc aa
   have ui:=l1.lenL
   have sJ: ¬σ2.next=1:=by omega
   have M7:=l1.newset [.int .i64 z.2.kind, .int .i64 z.2.n, .str z.2.s, .vsl (z.2.l.map V.enc) none, .vsl (z.2.m.map bx) none] [.int .i64 0, .int .i64 0, .str [], .nils, .nils]
   rw [drop_cons hz,List.foldl_cons] at l6
   by_cases h3k:z.2.kind=3
   ·have q3:(z.2.kind == 3)=true:=by simp [h3k]
    by_cases h4:ju.length < 4
    ·have q4:decide ((ju.length:Int) < 4)=true:=by simp; omega
     have jc:lenOf (.vsl [.str z.2.s] (some 1))=some 1:=rfl
     have nN: ∀σ',rowOf σ' 1 (.vsl [.str z.2.s] (some 1))=some [.str z.2.s]:=fun _=>rfl
     have dI:=M7.push (a:=z.2.s) (bytes:=16) aa (by unfold bg; omega)
     have E7:aJ { next:=σ2.next+1,m:=(σ2.next, .own [.int .i64 z.2.kind, .int .i64 z.2.n, .str z.2.s, .vsl (z.2.l.map V.enc) none, .vsl (z.2.m.map bx) none]) ::(σ2.next, .own [.int .i64 0, .int .i64 0, .str [], .nils, .nils]) ::σ2.m } 1 16 v2 [.str z.2.s] 1=some (_,_):=dI
     rw [show stepT ju z=ju ++ [z.2.s] from by rw [stepT,if_pos ⟨h3k,h4⟩]] at l6
     simp only [FL,ax,seval,VX,ae,l2,sJ,bQ,d2,lB,q3,ui,q4,jc,nN,E7,vM]
     refine ir (k+1,ju ++ [z.2.s],_) _ _ (by simp; omega) ⟨Gr.own (M7.next (by simp)),?_,by rw [fY]; show 1 < σ2.next+1+1; omega,?_,by simp; omega,l6⟩ rfl
     ·have:=gY (m:= [z.2.s]) M7 (b:=1) (by show 1 < σ2.next+1; omega) l4
      unfold ag.get at this; rw [this]; simp [look,sJ,l2]
     ·intro len sz c e
      injection e with e1
      have e2:σ2.next+1=1:=e1
      omega
    ·have q4:decide ((ju.length:Int) < 4)=false:=by simp; omega
     rw [show stepT ju z=ju from by rw [stepT,if_neg (fun c=>h4 c.2)]] at l6
     simp only [FL,ax,seval,VX,ae,l2,sJ,bQ,d2,lB,q3,ui,q4,vM]
     exact ir (k+1,ju,v2) _ _ (by simp; omega) ⟨M7,by simp [look,sJ,l2],by show 1 < σ2.next+1; omega,l4,l5,l6⟩ rfl
   ·have q3:(z.2.kind == 3)=false:=by simp [h3k]
    rw [show stepT ju z=ju from by rw [stepT,if_neg (fun c=>h3k c.1)]] at l6
    simp only [FL,ax,seval,VX,ae,l2,sJ,bQ,d2,lB,q3,vM]
    exact ir (k+1,ju,v2) _ _ (by simp; omega) ⟨M7,by simp [look,sJ,l2],by show 1 < σ2.next+1; omega,l4,l5,l6⟩ rfl
  ·have d2:=lT (Nat.not_lt.1 qc)
   rw [bn aa,List.foldl_nil] at l6
   simp only [FL,ax,seval,VX,ae,l2,bQ,d2,hw]
   exact ih (j+1,ju,v2) _ _ (by simp; omega) ⟨l1,l2,l3,l4,l5,by rw [l6]; exact g6⟩ rfl
 ·have d1:=lT (Nat.not_lt.1 aN)
  rw [bn aa,List.foldl_nil] at g6
  simp only [FL,ax,seval,VX,ae,g2,d1]
  rw [g6] at g1
  exact hk _ _ _ g1
def vF:=J @qy.eq_1 (J @qx.eq_1 (J @qw.eq_1 (J @tl.eq_1 (J @qv.eq_1 (J @oK.eq_1 (J @qu.eq_1 (J @qt.eq_1 (J @qq.eq_1 (J @tj.eq_1 (J @qp.eq_1 (J @tf.eq_1 (@FU.eq_1))))))))))))
def Q16Fb:=J @qy.eq_1 (J @qx.eq_1 (J @qw.eq_1 (J @tl.eq_1 (J @qv.eq_1 (J @qu.eq_1 (J @qt.eq_1 (J @qq.eq_1 (J @tj.eq_1 (J @qp.eq_1 (@FU.eq_1))))))))))
theorem ye (X:V) (keys:List Bs) (b:Bool):(mi X keys b).sz<=X.sz:=by
 unfold mi
 split
 ·have h1: ∀m:List Mem,vU (m.filter fun x=>lD keys x.1 == b)<=vU m:=fun m=>by
   induction m with
   | nil=>simp
   | cons x m ih=>
    obtain ⟨k,v⟩:=x
    rw [List.filter_cons]
    split
    ·simp only [vU]; omega
    ·simp only [vU]; omega
  have h2:=h1 X.m
  have h3:=X.sz_eq
  rw [V.sz]
  simp only [Di,List.length_nil]
  omega
 ·exact aE _
theorem zK {msg:Bs} {sigs:List Bs} {p:Bs} (h:iN p=none):Dt msg sigs p=false:=by unfold Dt; rw [h]
def Bm (msg:Bs) (k:aG) (g:Bs):Bool:=match iN g with
 | some s=>qA cO k msg s
 | none=>false
theorem tG {msg:Bs} {sigs:List Bs} {p:Bs} {k:aG} (h:iN p=some k):Dt msg sigs p=sigs.any (Bm msg k):=by unfold Dt; rw [h]; rfl
theorem LJ {acc:List Bs} (x:V) (h:acc.length<=4):(mZ acc x).length<=4:=by
 unfold mZ; split
 ·rename_i h1; rw [az]; have:=h1.2; simp only [List.length_cons,List.length_nil]; omega
 ·exact h
theorem At: ∀(l:List V) {acc:List Bs},acc.length<=4->(l.foldl mZ acc).length<=4
 | [],_,h=>h
 | y ::l,acc,h=>At l (LJ y h)
theorem Mm (t:V):(oN t).length<=4:=At _ (by unfold qK; split <;> simp)
theorem Gb (T:V):(ld T).length<=4:=by
 unfold ld
 have: ∀(m:List Mem) (acc:List Bs),acc.length<=4->(m.foldl (fun acc y=>y.2.m.foldl stepT acc) acc).length<=4:=fun m=>by
  induction m with
  | nil=>exact fun _ h=>h
  | cons y m ih=>exact fun acc h=>ih _ (uu _ h)
 exact this _ _ (by simp)
theorem L9 {c t:V} (hb:c.sz < lim) (E2:t.sz < lim) (Hl: ∀p∈oN t,p.length < lim) (hss: ∀g∈ld (cm (bW c).1 dm).1,g.length < lim):cR 173 [c.enc,t.enc]=some (.bool (sf c t)):=by
 have Nf:c.sz < cJ:=by unfold lim cJ at*; omega
 have hth:=xM c Nf
 have Ub:=uZ c Nf
 have hsgz:=qX c
 have hpub:=Gy E2
 unfold sf
 generalize iz c=th at*
 obtain ⟨th1,th2,th3⟩:=th
 simp only at hth ⊢
 cases th3 with
 | false=>
  refine aC (F:=FU) rfl ?_
  simp only [vF,ax,seval,VX,ae,hth]
  rfl
 | true=>
  generalize bW c=sx at*
  obtain ⟨X,sb⟩:=sx
  simp only at Ub hsgz hss ⊢
  have hXl:=gW X
  have hkz:=ye X [dm] false
  have QO:=r_Keep X [dm] false (by unfold cJ; decide) (by unfold lim at*; omega)
  have hwr:=Pk (v:=mi X [dm] false) (by unfold lim at*; omega)
  have Hq:(vK X).length < 1099511000000:=by
   unfold vK
   split
   ·rename_i vm
    have hf:(mi X [dm] false).fine=true:=by unfold V.good at vm; rw [ak] at vm; exact vm.1
    have:=V.wr_len _ hf
    unfold lim at*; omega
   ·decide
  have hwr': ∃e:Int,cR 195 [(mi X [dm] false).enc]=some (.tup [.str (vK X), .int .i64 e]):=by
   rw [hwr]; unfold vK
   split
   ·exact ⟨0,rfl⟩
   ·exact ⟨1,rfl⟩
  obtain ⟨e0,hwr'⟩:=hwr'
  clear hwr
  have dy:=m7 X dm (by unfold lim cJ at*; omega)
  have hgz:=kM X dm
  generalize vK X=msg at*
  generalize mi X [dm] false=KX at*
  generalize cm X dm=tg at*
  obtain ⟨T,tb⟩:=tg
  simp only at dy hgz hss ⊢
  rw [Bool.true_and]
  refine aC (F:=FU) rfl ?_
  simp only [List.map_cons,List.map_nil] at QO
  simp only [Q16Fb,ax,seval,VX,ae,ay,hth,Ub,QO,hwr',dy]
  refine Dv (T:=T) (t:=t) (msg:=msg) aa (by simp [look]) (by show 1 < 2; decide) (fun σ v l hv=> ?_)
  simp only [Q16Fb,ax,seval,VX,ae,ay,hpub]
  have wk:=Gb T
  have Oe:=Mm t
  generalize ld T=sigs at*
  generalize oN t=gN at*
  refine aL (S:=Nat) (fun j=> [(10, .str msg),(14,v),(18, .vsl (gN.map .str) none),(19, .int .i64 (j:Int))]) (fun j=>gN.length - j)
   (fun j σ=>Gr jR σ v sigs/\j<=gN.length/\(gN.drop j).any (Dt msg sigs)=gN.any (Dt msg sigs)) ?_ 0 σ ⟨hv,Nat.zero_le _,rfl⟩
  rintro B j σ1 ⟨g1,g2,g3⟩ ih
  by_cases aN:j < gN.length
  ·have d1:=lS aN
   obtain ⟨p,hp⟩:=bM aN
   have bQ:=bV (f:=AV.str) (sz:=1) (c:=none) hp rfl
   have hw:=cd aN aa
   have hpm:=Hl p (bH hp)
   have hpg:=Ee (s:=p) (by unfold lim at hpm; omega)
   rw [drop_cons hp,List.any_cons] at g3
   cases hgp:iN p with
   | none=>
    rw [hgp] at hpg
    rw [zK hgp,Bool.false_or] at g3
    simp only [pA] at hpg
    by_cases hs0:0 < sigs.length
    ·have d2:decide ((0:Int) < (sigs.length:Int))=true:=decide_eq_true aa
     simp only [vF,ax,seval,VX,ae,AV.cells,ay,d1,bQ,hpg,g1.lenL,d2,hw]
     exact ih (j+1) _ _ aa ⟨g1,aN,g3⟩ rfl
    ·have d2:decide ((0:Int) < (sigs.length:Int))=false:=decide_eq_false aa
     simp only [vF,ax,seval,VX,ae,AV.cells,ay,d1,bQ,hpg,g1.lenL,d2,hw]
     exact ih (j+1) _ _ aa ⟨g1,aN,g3⟩ rfl
   | some k=>
    rw [hgp] at hpg
    rw [tG hgp] at g3
    simp only [pA] at hpg
    simp only [qy,qx,qw,tl,qv,oK,qu,qt,qq,qp,tf,FU,ax,seval,VX,ae,AV.cells,ay,d1,bQ,hpg]
    refine aL (S:=Nat) (fun i=> [(10, .str msg),(14,v),(18, .vsl (gN.map .str) none),(19, .int .i64 (j:Int)),(20,cx k),(21, .int .i64 0),(22, .int .i64 (i:Int))]) (fun i=>sigs.length - i)
     (fun i σ=>Gr jR σ v sigs/\i<=sigs.length/\(sigs.drop i).any (Bm msg k)=sigs.any (Bm msg k)) ?_ 0 σ1 ⟨g1,Nat.zero_le _,rfl⟩
    rintro B2 i σ2 ⟨l1,l2,l3⟩ ir
    by_cases qc:i < sigs.length
    ·have d2:=lS qc
     obtain ⟨g,hg⟩:=bM qc
     obtain ⟨q,Ud,W5⟩:=l1.idxS hg
     have vM:=cd qc aa
     have hgm:=hss g (bH hg)
     have Oh:=Ee (s:=g) (by unfold lim at hgm; omega)
     rw [drop_cons hg,List.any_cons] at l3
     cases hgs:iN g with
     | none=>
      rw [hgs] at Oh
      have h0:Bm msg k g=false:=by unfold Bm; rw [hgs]
      rw [h0,Bool.false_or] at l3
      simp only [pA] at Oh
      simp only [vF,ax,seval,VX,ae,l1.lenL,d2,Ud,W5,Oh,vM]
      exact ir (i+1) _ _ aa ⟨l1,qc,l3⟩ rfl
     | some s=>
      rw [hgs] at Oh
      have h0:Bm msg k g=qA cO k msg s:=by unfold Bm; rw [hgs]
      have hV:=L7 (pub:=k) (msg:=msg) (sig:=s) Hq
      rw [h0] at l3
      simp only [pA] at Oh
      simp only [cx] at Oh hV
      cases rm:qA cO k msg s with
      | false=>
       rw [rm] at hV
       rw [rm,Bool.false_or] at l3
       simp only [vF,ax,seval,VX,ae,cx,aK,bS,l1.lenL,d2,Ud,W5,Oh,hV,vM]
       exact ir (i+1) _ _ aa ⟨l1,qc,l3⟩ rfl
      | true=>
       rw [rm] at hV
       rw [rm,Bool.true_or] at l3
       rw [←l3,Bool.true_or] at g3
       rw [←g3]
       simp only [vF,ax,seval,VX,ae,cx,aK,bS,l1.lenL,d2,Ud,W5,Oh,hV]
    ·have d2:=lT (Nat.not_lt.1 qc)
     rw [bn aa,List.any_nil] at l3
     rw [←l3,Bool.false_or] at g3
     simp only [vF,ax,seval,VX,ae,l1.lenL,d2,hw]
     exact ih (j+1) _ _ aa ⟨l1,aN,g3⟩ rfl
  ·have d1:=lT (Nat.not_lt.1 aN)
   rw [bn aa,List.any_nil] at g3
   rw [←g3]
   simp only [vF,ax,seval,VX,ae,aH,d1]
theorem l8 (k:Bs):bu V.zero k=([],false):=by unfold bu; rw [gD]; rfl
theorem o8 (k:Bs):cH V.zero k=(V.zero,false):=by unfold cH; rw [gD]; rfl
theorem HA {v:V} (h5:v.kind=5) (h:v.fine=true):v.n=0/\v.s= []/\v.l= []:=by
 rw [V.fine_eq,h5] at h
 simp only [Int.reduceEq,if_false,if_true,ak] at h
 obtain ⟨hb,_⟩:=h
 simp only [V.bare,ak,beq_iff_eq,V.n_mk,V.s_mk,V.l_mk,List.isEmpty_iff] at hb
 exact ⟨hb.1,hb.2.1,hb.2.2.1⟩
theorem BL {v:V} (h5:v.kind≠5) (h:v.fine=true):v.m= []:=by
 rw [V.fine_eq] at h
 repeat' split at h
 all_goals first
  | (simp only [V.bare,ak,V.m_mk,List.isEmpty_iff] at h; simp_all; done)
  | (rename_i e; exact absurd e h5)
  | cases h
theorem Nx {X:V} (h5:X.kind=5) (hf:X.fine=true):nB X [dm]=mi X [dm] false:=by
 obtain ⟨h1,h2,h3⟩:=HA h5 hf
 unfold nB mV mi
 rw [if_pos h5,if_pos h5,h1,h2,h3,h5]
 congr 1
 apply List.filter_congr
 intro x _
 cases lD [dm] x.1 <;> rfl
theorem Fe: ∀(l:List Mem) (acc:List Bs),(∀y∈l,y.2.fine=true)->l.foldl kI acc=l.foldl (fun acc y=>y.2.m.foldl stepT acc) acc
 | [],_,_=>rfl
 | y ::l,acc,h=>by
  rw [List.foldl_cons,List.foldl_cons]
  have e:kI acc y=y.2.m.foldl stepT acc:=by
   unfold kI
   split
   ·rfl
   ·rename_i h5; rw [BL h5 (h y (by simp))]; rfl
  rw [e]
  exact Fe l _ (fun z hz=>h z (by simp [hz]))
theorem uq {v:V} {k:Bs} (h: ¬v.kind=5):cm v k=(V.zero,false):=if_neg h
theorem Fa {v:V} {k:Bs} (h:(cm v k).2=false):(cm v k).1=V.zero:=by
 unfold cm at h ⊢
 split
 ·rename_i h5
  rw [if_pos h5] at h
  cases hl:gX v.m k with
  | none=>rfl
  | some x=>rw [hl] at h; cases h
 ·rfl
theorem rU {v:V} (k:Bs) (hf:v.fine=true):cH v k=if (cm v k).1.kind=5 then ((cm v k).1,true) else (V.zero,false):=by
 unfold cH
 rw [←kV k hf]
 cases hb:(cm v k).2 with
 | false=>rw [Fa hb]; rfl
 | true=>
  by_cases h5:(cm v k).1.kind=5
  ·rw [if_pos (by simp [h5]),if_pos h5]
  ·rw [if_neg (by simp [h5]),if_neg h5]
theorem OM {X:V} (hf:X.fine=true):o7 X=ld (cm X dm).1:=by
 have hgf:=gZ dm hf
 unfold o7 ld
 rw [rU dm hf]
 by_cases h5:(cm X dm).1.kind=5
 ·rw [if_pos h5]
  exact Fe _ _ (fun y hy=>(jL (Hz h5 hgf) hy).2)
 ·rw [if_neg h5,BL h5 hgf]; rfl
theorem uX (c:V):(bT c).2=(iz c).2.2/\((bT c).2=true->(bT c).1=(bW c).1/\(bT c).1.fine=true/\(bT c).1.kind=5/\c.good=true):=by
 have hz:said c=V.zero->(bT c).2=false:=fun h=>by unfold bT; rw [h,o8,o8]; rfl
 by_cases hg:c.good=true
 ·have hf:c.fine=true:=by unfold V.good at hg; rw [ak] at hg; exact hg.1
  by_cases h5:c.kind=5
  ·have hs:said c=c:=by unfold said; rw [hg,h5]; rfl
   have hR:bW c=((cm (cm c cA).1 bX).1,(cm (cm c cA).1 bX).2 && (cm (cm c cA).1 bX).1.kind == 5):=by unfold bW; rw [if_pos hg]
   have hV:bT c=((cH (cH c cA).1 bX).1,(cH (cH c cA).1 bX).2 && ((bu (cH (cH c cA).1 bX).1 jH).2 && (bu (cH (cH c cA).1 bX).1 nq).2)):=by unfold bT; rw [hs]
   have hf1:=gZ cA hf
   rw [rU cA hf] at hV
   by_cases k1:(cm c cA).1.kind=5
   ·rw [if_pos k1] at hV
    simp only at hV
    generalize (cm c cA).1=g at*
    have Na:=gZ bX hf1
    rw [rU bX hf1] at hV
    by_cases k2:(cm g bX).1.kind=5
    ·have hb:(cm g bX).2=true:=by
      cases hb:(cm g bX).2 with
      | true=>rfl
      | false=>rw [Fa hb] at k2; cases k2
     rw [if_pos k2] at hV
     simp only [Bool.true_and] at hV
     generalize cm g bX=X at*
     obtain ⟨X,xb⟩:=X
     simp only at hV hR Na k2 hb
     rw [hb] at hR
     have hR2:bW c=(X,true):=by rw [hR]; simp [k2]
     unfold iz
     rw [hV,hR2]
     simp only
     rw [lf jH Na,lf nq Na]
     refine ⟨?_,fun _=>⟨trivial,Na,k2,hg⟩⟩
     cases (bu X jH).2 <;> cases (bu X nq).2 <;> simp
    ·rw [if_neg k2] at hV
     have hv:(bT c).2=false:=by rw [hV]; rfl
     have hr:(bW c).2=false:=by rw [hR]; simp [k2]
     refine ⟨?_,fun h=>by rw [hv] at h; cases h⟩
     rw [hv]; unfold iz; rw [if_neg (fun h=>by rw [hr] at h; cases h.1)]
   ·rw [if_neg k1] at hV
    rw [show (V.zero,false).1=V.zero from rfl,o8] at hV
    have hv:(bT c).2=false:=by rw [hV]; rfl
    have hr:(bW c).2=false:=by
     rw [hR]
     have:cm (cm c cA).1 bX=(V.zero,false):=uq k1
     rw [this]; rfl
    refine ⟨?_,fun h=>by rw [hv] at h; cases h⟩
    rw [hv]; unfold iz; rw [if_neg (fun h=>by rw [hr] at h; cases h.1)]
  ·have hv:=hz (by unfold said; simp [h5])
   have hr:(bW c).2=false:=by
    have e1:cm c cA=(V.zero,false):=uq h5
    unfold bW; rw [if_pos hg,e1]; rfl
   refine ⟨?_,fun h=>by rw [hv] at h; cases h⟩
   rw [hv]; unfold iz; rw [if_neg (fun h=>by rw [hr] at h; cases h.1)]
 ·have hv:=hz (by unfold said; simp [hg])
  have hr:(bW c).2=false:=by unfold bW; rw [if_neg hg]
  refine ⟨?_,fun h=>by rw [hv] at h; cases h⟩
  rw [hv]; unfold iz; rw [if_neg (fun h=>by rw [hr] at h; cases h.1)]
def Bx (p:Bs):aG:=(iN p).getD []
theorem Dx: ∀(l:List V) (acc:List Bs),(∀x∈l,x.fine=true)->l.foldl ma (acc.map Bx)=(l.foldl mZ acc).map Bx
 | [],_,_=>rfl
 | x ::l,acc,h=>by
  have hx:=h x (by simp)
  rw [List.foldl_cons,List.foldl_cons]
  have e:ma (acc.map Bx) x=(mZ acc x).map Bx:=by
   unfold ma mZ
   rw [lf kG hx,aH]
   split
   ·rw [List.map_append]; rfl
   ·rfl
  rw [e]
  exact Dx l _ (fun y hy=>h y (by simp [hy]))
theorem VN (t:V):se t=(oN t).map Bx:=by
 by_cases hg:t.good=true
 ·have hf:t.fine=true:=by unfold V.good at hg; rw [ak] at hg; exact hg.1
  have hgf:=gZ eN hf
  by_cases h5:t.kind=5
  ·have hs:said t=t:=by unfold said; rw [hg,h5]; rfl
   have hi:ed t eN=if (cm t eN).1.kind=4/\t.good=true then (cm t eN).1.l else []:=by
    unfold ed; rw [←kV eN hf]
    by_cases h4:(cm t eN).1.kind=4
    ·rw [if_pos h4,if_pos ⟨h4,hg⟩]
    ·rw [if_neg h4,if_neg (fun h=>h4 h.1)]
   have h0:ma [] t=(qK t).map Bx:=by
    unfold ma qK
    rw [hs]
    by_cases hk:(bu t kG).2=true
    ·rw [if_pos ⟨hk,by decide⟩,if_pos hk]; rfl
    ·rw [if_neg (fun h=>hk h.1),if_neg hk]; rfl
   unfold se oN
   rw [hs,List.foldl_cons,h0,hi]
   apply Dx
   intro x hx
   split at hx
   ·rename_i h4
    have hl:kg (cm t eN).1.l=true:=by
     rw [V.fine_eq,h4.1] at hgf
     simp only [Int.reduceEq,if_false,if_true,ak] at hgf
     exact hgf.2
    exact iP hl hx
   ·cases hx
  ·have hs:said t=V.zero:=by unfold said; simp [h5]
   have e1:cm t eN=(V.zero,false):=uq h5
   have hi:ed V.zero eN= []:=by unfold ed; rw [gD]; rfl
   have hL:(if (cm t eN).1.kind=4/\t.good=true then (cm t eN).1.l else [])= []:=by rw [e1]; exact if_neg (fun h=>absurd h.1 (by decide))
   have h0:qK t= []:=by unfold qK; rw [hs,l8]; rfl
   unfold se oN
   rw [hs,hi,hL,h0,List.foldl_cons,List.foldl_nil,List.foldl_nil]
   unfold ma
   rw [l8]; rfl
 ·have hs:said t=V.zero:=by unfold said; simp [hg]
  have hi:ed V.zero eN= []:=by unfold ed; rw [gD]; rfl
  have hL:(if (cm t eN).1.kind=4/\t.good=true then (cm t eN).1.l else [])= []:=if_neg (fun h=>hg h.2)
  have h0:qK t= []:=by unfold qK; rw [hs,l8]; rfl
  unfold se oN
  rw [hs,hi,hL,h0,List.foldl_cons,List.foldl_nil,List.foldl_nil]
  unfold ma
  rw [l8]; rfl
theorem Te (P S:List Bs) (msg:Bs):S.any (n6 (P.map Bx) msg)=P.any (Dt msg S):=by
 have hn: ∀sig,qA cO [] msg sig=false:=fun sig=>pS (fun c=>by simp at c)
 rw [Bool.eq_iff_iff,iU,iU]
 constructor
 ·rintro ⟨g,hg,h⟩
  unfold n6 at h
  cases hb:iN g with
  | none=>rw [hb] at h; cases h
  | some sig=>
   rw [hb] at h
   simp only [List.any_map,iU,Function.comp] at h
   obtain ⟨p,hp,hv⟩:=h
   refine ⟨p,hp,?_⟩
   unfold Bx at hv
   cases hk:iN p with
   | none=>rw [hk] at hv; rw [show (none:Option (aG)).getD []= [] from rfl,hn] at hv; cases hv
   | some k=>
    rw [hk] at hv
    rw [tG hk,iU]
    exact ⟨g,hg,by unfold Bm; rw [hb]; exact hv⟩
 ·rintro ⟨p,hp,h⟩
  cases hk:iN p with
  | none=>rw [zK hk] at h; cases h
  | some k=>
   rw [tG hk,iU] at h
   obtain ⟨g,hg,hv⟩:=h
   refine ⟨g,hg,?_⟩
   unfold Bm at hv
   unfold n6
   cases hb:iN g with
   | none=>rw [hb] at hv; cases hv
   | some sig=>
    rw [hb] at hv
    simp only [List.any_map,iU,Function.comp]
    exact ⟨p,hp,by unfold Bx; rw [hk]; exact hv⟩
theorem Eg (m t:V):nZ m t (vK (bW m).1)=sf m t:=by
 obtain ⟨h1,h2⟩:=uX m
 unfold nZ sf
 rw [h1]
 cases hb:(iz m).2.2 with
 | false=>rw [Bool.false_and,Bool.false_and]
 | true=>
  rw [hb] at h1
  obtain ⟨e1,e2,_,_⟩:=h2 h1
  rw [Bool.true_and,Bool.true_and,VN,Te,OM e2,e1]
theorem LF (T:V): ∀s∈ld T,s.length<=T.sz:=by
 unfold ld
 have key: ∀(l:List Mem) (acc:List Bs),(∀s∈acc,s.length<=T.sz)->(∀y∈l,y.2.sz<=T.sz)->∀s∈l.foldl (fun acc y=>y.2.m.foldl stepT acc) acc,s.length<=T.sz:=fun l=>by
  induction l with
  | nil=>exact fun _ h _=>h
  | cons y l ih=>exact fun acc h hl=>ih _ (yB _ h (fun z hz=>by have:=eT hz; have:=y.2.sz_eq; have:=hl y (by simp); omega)) (fun z hz=>hl z (by simp [hz]))
 exact key _ _ (by simp) (fun y hy=>by have:=eT hy; have:=T.sz_eq; omega)
theorem LH (v:V) (k:Bs):(iE v k).1.length<=v.sz:=by
 unfold iE
 have h:=kM v k
 have h2:=(cm v k).1.sz_eq
 split <;> simp only [List.length_nil] <;> omega
theorem PJ (t:V): ∀s∈oN t,s.length<=t.sz:=by
 unfold oN
 have key: ∀(l:List V) (acc:List Bs),(∀s∈acc,s.length<=t.sz)->(∀y∈l,y.sz<=t.sz)->∀s∈l.foldl mZ acc,s.length<=t.sz:=fun l=>by
  induction l with
  | nil=>exact fun _ h _=>h
  | cons y l ih=>
   refine fun acc h hl=>ih _ ?_ (fun z hz=>hl z (by simp [hz]))
   intro s hs
   unfold mZ at hs
   split at hs
   ·rcases List.mem_append.1 hs with k | k
    ·exact h s k
    ·simp only [List.mem_singleton] at k
     subst k
     exact Nat.le_trans (LH y kG) (hl y (by simp))
   ·exact h s hs
 refine key _ _ ?_ ?_
 ·intro s hs
  unfold qK at hs
  split at hs
  ·simp only [List.mem_singleton] at hs
   subst hs
   exact Nat.le_trans (jB _ _) (jU t)
  ·cases hs
 ·intro y hy
  have h:=kM t eN
  have h2:=(cm t eN).1.sz_eq
  split at hy
  ·have:=gL hy; omega
  ·cases hy
theorem r_both {m t:V} (hb:m.sz < lim) (E2:t.sz < lim) (hn:(nB (bT m).1 [dm]).nums F0) :
  ∃b,cR 172 [m.enc,t.enc]=some (.bool b)/\cR 173 [m.enc,t.enc]=some (.bool b):=by
 refine ⟨sf m t,?_,?_⟩
 ·rw [←Eg]
  have eA:=qW m
  obtain ⟨h1,h2⟩:=uX m
  by_cases hs:(bT m).2=true
  ·obtain ⟨e1,e2,e3,e4⟩:=h2 hs
   have hD:=Nx e3 e2
   have hw:=VG (v:=nB (bT m).1 [dm]) (by rw [hD]; have:=ye (bT m).1 [dm] false; unfold lim at*; omega) hn
   have Hq:(vK (bW m).1).length < 1099511000000:=by
    unfold vK
    split
    ·rename_i vm
     have hf:(mi (bW m).1 [dm] false).fine=true:=by unfold V.good at vm; rw [ak] at vm; exact vm.1
     have h3:=V.wr_len _ hf
     have h4:=ye (bW m).1 [dm] false
     rw [←e1] at h3 h4 ⊢
     unfold lim at*; omega
    ·decide
   have hw': ∃e:Int,cR 190 [(nB (bT m).1 [dm]).enc]=some (.tup [.str (vK (bW m).1), .int .i64 e]):=by
    rw [hw,hD,e1]; unfold vK
    split
    ·exact ⟨0,rfl⟩
    ·exact ⟨1,rfl⟩
   obtain ⟨e,hw'⟩:=hw'
   exact Ed hb E2 Hq (fun _=>hw')
  ·have hp:nZ m t (vK (bW m).1)=nZ m t []:=by
    unfold nZ
    cases hc:(bT m).2 with
    | true=>exact absurd hc hs
    | false=>rw [Bool.false_and,Bool.false_and]
   rw [hp]
   exact Ed (msg:= []) (e:=0) hb E2 (by simp) (fun h=>absurd h hs)
 ·refine L9 hb E2 (fun p hp=> ?_) (fun g hg=> ?_)
  ·have:=PJ t p hp; omega
  ·have h1:=LF _ g hg
   have h2:=kM (bW m).1 dm
   have h3:=qX m
   omega
structure Ids (G:ai) (σ:ag) (v:AV) (acc:List Bs):Prop where
 gr:Gr jR σ v acc
 zero:look σ.m 0=some (.own G)
 pos:0 < σ.next
 far: ∀o len sz c,v≠ .sl 0 o len sz c
theorem Ids.newset {G:ai} {σ:ag} {v:AV} {acc:List Bs} (h:Ids G σ v acc) (cs cs':ai):Ids G { next:=σ.next+1,m:=(σ.next, .own cs) ::(σ.next, .own cs') ::σ.m } v acc where
 gr:=h.gr.newset cs cs'
 zero:=by
  rw [←h.zero]
  have:=h.pos
  simp only [look]; rw [if_neg aa,if_neg aa]
 pos:=by simp
 far:=h.far
theorem Ids.app {G:ai} {σ:ag} {v:AV} {acc:List Bs} (h:Ids G σ v acc) (x:Bs):Ids G (di jR σ v acc [x]) (.sl σ.next 0 (acc ++ [x]).length jR.sz none) (acc ++ [x]) where
 gr:=Gr.own (h.gr.next (by simp))
 zero:=(gY h.gr h.pos (fun len sz c=>h.far _ len sz c)).trans h.zero
 pos:=by rw [fY]; omega
 far:=fun o len sz c he=>by simp only [AV.sl.injEq] at he; have:=h.pos; omega
def FK:=J @C3.eq_1 (J @C2.eq_1 (J @Lm.eq_1 (@Za.eq_1)))
def KP:=J @C3.eq_1 (J @C2.eq_1 (@Za.eq_1))
theorem LY (c:V) (hb:c.sz < cJ):cR 170 [c.enc]=some (.str (DG c)):=by
 have h:=pT c ug hb
 refine aC (F:=F170) rfl ?_
 simp only [F170,ax,seval,VX,ae,h,DG]
theorem LZ (s:Bs) (hb:s.length < cJ):cR 217 [.str s]=some (.tup [.str (cg s 33).1, .str (cg s 33).2.1, .bool (cg s 33).2.2]):=by
 have h:cR 81 [.str s, .int .u8 33]=_:=u6 s 33 hb
 refine aC (F:=F217) rfl ?_
 simp only [F217,ax,seval,h]
theorem DU (s:Bs) (hb:s.length < cJ):cR 189 [.str s]=some (.bool (cg s 33).2.2):=by
 have h:=LZ s hb
 refine aC (F:=F189) rfl ?_
 simp only [F189,ax,seval,h]
theorem Ff {v:V} (h4:v.kind=4) (h:v.fine=true):kg v.l=true:=by
 rw [V.fine_eq,h4] at h
 simp only [Int.reduceEq,if_false,if_true] at h
 simp only [ak] at h
 exact h.2
theorem Hg (c:V):ed (said c) eI=if c.good=true/\(cm c eI).2=true/\(cm c eI).1.kind=4 then (cm c eI).1.l else []:=by
 have hz:said c=V.zero->ed (said c) eI= []:=fun h=>by rw [h]; unfold ed; rw [gD]; rfl
 by_cases hg:c.good=true
 ·have hf:c.fine=true:=by unfold V.good at hg; simp at hg; exact hg.1
  by_cases h5:c.kind=5
  ·have hs:said c=c:=by unfold said; simp [hg,h5]
   have h2:(gO c eI).1.kind=4->(gO c eI).2=true:=by
    rw [rq eI h5 (rz h5 hf)]
    cases gX c.m eI with
    | some x=>exact fun _=>rfl
    | none=>exact fun h=>absurd h (by decide)
   rw [hs,kV eI hf]
   unfold ed
   by_cases h4:(gO c eI).1.kind=4
   ·rw [if_pos h4,if_pos ⟨hg,h2 h4,h4⟩]
   ·rw [if_neg h4,if_neg (fun k=>h4 k.2.2)]
  ·rw [hz (by unfold said; simp [h5]),if_neg]
   unfold cm
   rw [if_neg h5]
   exact fun k=>absurd k.2.1 (by decide)
 ·rw [hz (by unfold said; simp [hg]),if_neg (fun k=>hg k.1)]
theorem Vc {σ:ag} {v:AV} {l:List Bs} (h:Gr jR σ v l):rbE σ v=some (.vsl (l.map .str) none):=h.rbE
theorem DV (c:V) (hb:c.sz < lim):cR 171 [c.enc]=some (.vsl ((kQ c).map .str) none):=by
 unfold lim at hb
 have nu:c.sz < cJ:=by unfold cJ; omega
 have h1:=m7 c eI nu
 have h2:=m6 c nu
 have z1:=kM c eI
 unfold kQ
 rw [Hg]
 have zf:c.good=true->(cm c eI).1.fine=true:=fun h=>gZ eI (by unfold V.good at h; simp at h; exact h.1)
 generalize cm c eI=g at h1 z1 zf ⊢
 obtain ⟨g,b⟩:=g
 simp only at h1 z1 zf ⊢
 have zl:=ph g
 have zm: ∀x∈g.l,x.sz<=g.sz:=fun x hx=>by have:=gL hx; have:=g.sz_eq; omega
 obtain ⟨r,hr⟩ : ∃r:List Bs,r=eL [] (if c.good=true/\b=true/\g.kind=4 then g.l else []):=⟨_,rfl⟩
 rw [←hr]
 refine aC (F:=Za) rfl ?_
 have hb4:(g.kind != 4)= !(g.kind == 4):=rfl
 cases vm:c.good with
 | false=>
  rw [vm] at h2
  rw [if_neg (by simp [vm]),eL] at hr
  simp only [KP,ay,ax,seval,VX,ae,h1,h2,hr]
 | true=>
 rw [vm] at h2
 have Kn:=zf vm
 cases b with
 | false=>
  rw [if_neg (by simp),eL] at hr
  simp only [KP,ay,ax,seval,VX,ae,h1,h2,hr]
 | true=>
  cases h4:g.kind == 4 with
  | false=>
   rw [h4] at hb4
   have h4':g.kind≠4:=by simpa using h4
   rw [if_neg (by simp [h4']),eL] at hr
   simp only [KP,ay,ax,seval,VX,ae,h1,h2,hb4,hr]
  | true=>
   rw [h4] at hb4
   have h4':g.kind=4:=by simpa using h4
   rw [if_pos ⟨vm,rfl,h4'⟩] at hr
   have hfl:=Ff h4' Kn
   simp only [KP,ay,ax,seval,VX,ae,h1,h2,hb4]
   refine aL (S:=Nat×List Bs×AV) (fun p=> [(3, .ptr 0 0),(5,p.2.2),(6, .int .i64 (p.1:Int))]) (fun p=>g.l.length - p.1)
    (fun p σ=>Ids [.int .i64 g.kind, .int .i64 g.n, .str g.s, .vsl (g.l.map V.enc) none, .vsl (g.m.map bx) none] σ p.2.2 p.2.1/\p.2.1.length<=p.1/\eL p.2.1 (g.l.drop p.1)=eL [] g.l) ?_ (0, [], .nils) _ ⟨⟨Gr.nil jR _,rfl,Nat.one_pos,by intro _ _ _ _ h; cases h⟩,by simp,rfl⟩
   rintro c ⟨j,acc,u⟩ σ ⟨hg,hlen,hj⟩ ih
   simp only at hg hlen hj ih ⊢
   have hz:=hg.zero
   by_cases aN:j < g.l.length
   ·obtain ⟨x,hx⟩:=bM aN
    have hxm:=bH hx
    have zx:=zm x hxm
    have bQ:=bV (f:=V.enc) (sz:=5) (c:=none) hx (by simp [V.enc_cells])
    have aA:=lS aN
    have hw:=cd aN aa
    have hxf:=iP hfl hxm
    have ht:=iY x EJ (by unfold cJ; omega)
    have nN:=iY x jW (by unfold cJ; omega)
    rw [lf _ hxf] at ht nN
    have po:=DU (bu x jW).1 (by have:=jB x jW; unfold cJ; omega)
    rw [drop_cons hx,eL] at hj
    unfold jw at hj
    generalize bu x EJ=a at ht hj
    generalize bu x jW=b at nN po hj
    have bD:fZ cF gU false (.fn 147 [] []) [u, .str b.1] σ=some (.bool (lD acc b.1),σ):=hg.gr.call1 rfl (by simp only [dT,AV.er]; exact ZK acc _ (by unfold cJ; omega)) rfl
    cases ha:a.1 == EK with
    | false=>
     have ha': ¬a.1=EK:=by simpa using ha
     simp only [ha',false_and,if_false,aX] at hj
     simp only [FK,ax,seval,VX,ae,aA,hz,bQ,ht,nN,ha,hw]
     exact ih (j+1,acc,u) _ _ (by simp; omega) ⟨hg,by simp; omega,hj⟩ (by simp only [ax,seval])
    | true=>
     have ha':a.1=EK:=by simpa using ha
     cases hp:(cg b.1 33).2.2 with
     | false=>
      rw [hp] at po
      simp only [hp,and_false,false_and,if_false,aX] at hj
      simp only [FK,ax,seval,VX,ae,aA,hz,bQ,ht,nN,ha,po,hw]
      exact ih (j+1,acc,u) _ _ (by simp; omega) ⟨hg,by simp; omega,hj⟩ (by simp only [ax,seval])
     | true=>
      rw [hp] at po
      simp only [ha',hp,and_self,if_true,true_and] at hj
      cases hh:lD acc b.1 with
      | true=>
       rw [hh] at bD
       simp only [hh,Bool.true_eq_false,if_false] at hj
       simp only [FK,ax,seval,VX,ae,aA,hz,bQ,ht,nN,ha,po,bD,hw]
       exact ih (j+1,acc,u) _ _ (by simp; omega) ⟨hg,by simp; omega,hj⟩ (by simp only [ax,seval])
      | false=>
       rw [hh] at bD
       simp only [hh,if_true] at hj
       have dI:aJ σ 1 16 u [.str b.1] 1=some _:=hg.gr.push (a:=b.1) (bytes:=16) aa (by unfold bg; omega)
       have jc:lenOf (.vsl [.str b.1] (some 1))=some 1:=rfl
       have Oc: ∀σ',rowOf σ' 1 (.vsl [.str b.1] (some 1))=some [.str b.1]:=fun _=>rfl
       simp only [FK,ax,seval,VX,ae,aA,hz,bQ,ht,nN,ha,po,bD,dI,jc,Oc,hw]
       exact ih (j+1,acc ++ [b.1],_) _ _ (by simp; omega) ⟨hg.app b.1,by simp; omega,hj⟩ (by simp only [ax,seval])
   ·have aA:=lT (Nat.not_lt.1 aN)
    rw [bn aa,eL] at hj
    rw [←hj] at hr
    have ht:=Vc hg.gr
    simp only [FK,ax,seval,VX,ae,aA,hz,ht,hr]
theorem xU {P:Int->Prop}: ∀ {l:List Mem},(∀x∈l,x.2.nums P)->z8 P l
 | [],_=>trivial
 | (k,v) ::r,h=>⟨h (k,v) (by simp),xU (fun x hx=>h x (by simp [hx]))⟩
theorem ub (P:Int->Prop):V.zero.nums P:=by rw [V.zero,V.nums]; exact ⟨fun h=>(by cases h),trivial,trivial⟩
theorem ME {P:Int->Prop} {v:V} (k:Bs) (h:v.nums P):(cm v k).1.nums P:=by
 unfold cm
 split
 ·cases hl:gX v.m k with
  | none=>exact ub P
  | some x=>
   obtain ⟨e,he,hx⟩:=p9 hl
   rw [V.nums_eq] at h
   rw [←hx]
   exact pZ h.2.2 he
 ·exact ub P
theorem vb {P:Int->Prop} {v:V} (k:Bs) (hf:v.fine=true) (h:v.nums P):(cH v k).1.nums P/\(cH v k).1.fine=true:=by
 rw [rU k hf]
 split
 ·exact ⟨ME k h,gZ k hf⟩
 ·exact ⟨ub P,V.zero_fine⟩
theorem MF {P:Int->Prop} {v:V} (keys:List Bs) (h:v.nums P):(nB v keys).nums P:=by
 unfold nB mV
 split
 ·rename_i h5
  rw [V.nums_eq] at h
  rw [V.nums]
  exact ⟨fun k=>(by rw [h5] at k; cases k),h.2.1,xU (fun x hx=>pZ h.2.2 (List.mem_filter.1 hx).1)⟩
 ·exact h
def Tr:= @F169.eq_1
theorem Xz {v:V} (h4:v.kind≠4) (h:v.fine=true):v.l= []:=by
 rw [V.fine_eq] at h
 repeat' split at h
 all_goals first
  | (simp only [V.bare,ak,V.l_mk,List.isEmpty_iff] at h; simp_all; done)
  | (rename_i e; exact absurd e h4)
  | cases h
theorem Xy {v:V} (h2:v.kind=2) (h:v.fine=true):ly v.n=true:=by
 rw [V.fine_eq,h2] at h
 simp only [Int.reduceEq,if_false,if_true,ak] at h
 exact h.2
theorem Eo {P:Int->Prop}: ∀ {l:List V},(∀x∈l,x.nums P)->Ac P l
 | [],_=>trivial
 | v ::r,h=>⟨h v (by simp),Eo (fun x hx=>h x (by simp [hx]))⟩
theorem Nn {P:Int->Prop} (hP: ∀n,ly n=true->P n): ∀(N:Nat) (v:V),v.sz < N->v.fine=true->v.nums P:=by
 intro N
 induction N with
 | zero=>intro v h; omega
 | succ N ih=>
  intro v h hf
  have eA:=v.sz_eq
  rw [V.nums_eq]
  refine ⟨fun h2=>hP _ (Xy h2 hf),?_,?_⟩
  ·by_cases h4:v.kind=4
   ·exact Eo fun x hx=>ih x (by have:=gL hx; omega) (iP (Ff h4 hf) hx)
   ·rw [Xz h4 hf]; trivial
  ·by_cases h5:v.kind=5
   ·exact xU fun x hx=>ih x.2 (by have:=eT hx; omega) (jL (Hz h5 hf) hx).2
   ·rw [BL h5 hf]; trivial
theorem zS (v:V):(said v).fine=true:=by
 unfold said
 split
 ·rename_i hg
  simp only [V.good,ak] at hg
  exact hg.1.1
 ·exact V.zero_fine
theorem MG {n:Int} (h:ly n=true):F0 n:=by
 unfold ly at h
 simp only [ak,cD] at h
 exact Td aa aa
theorem Qd (v:V) (keys:List Bs):(nB (bT v).1 keys).nums F0:=by
 have hs:=Nn (P:=F0) (fun _=>MG) ((said v).sz+1) (said v) (aR _) (zS v)
 obtain ⟨a1,a2⟩:=vb cA (zS v) hs
 exact MF keys (vb bX a2 a1).1
theorem pN: ∀(l:List V) (acc:List Bs),(eL acc l).length<=acc.length+l.length
 | [],acc=>by rw [eL]; simp
 | x ::r,acc=>by
  rw [eL]
  split
  ·have:=pN r (acc ++ [(jw x).1]); simp at this ⊢; omega
  ·have:=pN r acc; simp; omega
theorem Ec (c d:V) (hc:c.sz < lim) (hd:d.sz < lim):cR 169 [c.enc,d.enc]=some (.bool true):=by
 have bc:c.sz < cJ:=by unfold lim at hc; unfold cJ; omega
 have bd:d.sz < cJ:=by unfold lim at hd; unfold cJ; omega
 have haw:=Mh
 have l1:=D5 c 800 bc
 have l2:=D5 d 800 bd
 have a1:=r_auth c bc
 have a2:=L6 c bc
 have t1:=Vg c bc
 have t2:=xM c bc
 rw [LC] at t2
 have m1:=Bc c bc
 have m2:=vJ c bc
 have u1:=r_rule c bc
 have u2:=LY c bc
 have w1:=PD c hc
 have w2:=DV c hc
 have hlen:(kQ c).length < cJ:=by
  have k1:=pN (ed (said c) eI) []
  have k2:=yf (said c) eI
  have k3:=jU c
  unfold kQ
  simp at k1
  omega
 have x1:=VH (kQ c) (kQ c) hlen
 rw [beq_self_eq_true] at x1
 obtain ⟨q,p1,p2⟩:=r_both hc hd (Qd c [dm])
 generalize kQ c=al at*
 generalize sZ c=au at*
 generalize jA c=th at*
 generalize jb c=me at*
 generalize DG c=ru at*
 refine aC (F:=F169) rfl ?_
 cases k1:Bv c 800 with
 | false=>
  rw [k1] at l1
  simp only [Tr,ax,seval,VX,ae,haw,l1]
 | true=>
  rw [k1] at l1
  cases k2:Bv d 800 with
  | false=>
   rw [k2] at l2
   simp only [Tr,ax,seval,VX,ae,haw,l1,l2]
  | true=>
   rw [k2] at l2
   simp only [Tr,ax,seval,VX,ae,haw,l1,l2,a1,a2,t1,t2,m1,m2,u1,u2,w1,w2,x1,p1,p2,beq_self_eq_true,bne_self_eq_false]
end Go.Ab
