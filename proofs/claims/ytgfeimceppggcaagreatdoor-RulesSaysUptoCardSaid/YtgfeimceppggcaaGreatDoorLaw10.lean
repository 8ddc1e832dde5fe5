/- What functions of the program, and of the library, answer. Conditions: none. -/
import Derived.Test.YtgfeimceppggcaaGreatDoorEx
import Derived.Test.YtgfeimceppggcaaGreatDoorDraw
import Derived.Test.YtgfeimceppggcaaGreatDoorLaw9
import Derived.Test.YtgfeimceppggcaaGreatDoorLaw4
set_option linter.unusedVariables false
set_option linter.unusedSimpArgs false
set_option linter.defProp false
set_option linter.unnecessarySimpa false
namespace Go.Ab
section
variable {ip:Nat->Option aq} {G:Nat->ai} {fr fr':Fr} {σ:ag} {Q:Fr->ag->Prop} {k:List Item}
end
end Go.Ab
namespace Go.Ab
set_option maxHeartbeats 1000000
set_option maxRecDepth 100000
section
variable {l:List Ev} {e:Ev} {j:Nat} {c:an} {k:List Item} {σ:ag} {Q:Fr->ag->Prop}
end
end Go.Ab
namespace Go.Ab
set_option maxHeartbeats 1000000
set_option maxRecDepth 100000
section
variable {α:Type} (L:fW α)
theorem fW.cells_append (l m:List α):L.cells (l ++m)=L.cells l ++L.cells m:=by simp [fW.cells]
theorem fW.cells_cons (a:α) (l:List α):L.cells (a ::l)=(L.f a).cells ++L.cells l:=by simp [fW.cells]
theorem fW.take {l:List α} {j:Nat} (h:j<=l.length):(L.cells l).take (j*L.sz)=L.cells (l.take j):=by
 have e:L.cells l=L.cells (l.take j) ++L.cells (l.drop j):=by rw [←L.cells_append,ep]
 have hl:(L.cells (l.take j)).length=j*L.sz:=by rw [L.cells_len,bE,Nat.min_eq_left h]
 rw [e,←hl,List.take_left]
theorem fW.drop {l:List α} {j:Nat} (h:j<=l.length):(L.cells l).drop (j*L.sz)=L.cells (l.drop j):=by
 have e:L.cells l=L.cells (l.take j) ++L.cells (l.drop j):=by rw [←L.cells_append,ep]
 have hl:(L.cells (l.take j)).length=j*L.sz:=by rw [L.cells_len,bE,Nat.min_eq_left h]
 rw [e,←hl,List.drop_left]
theorem fW.splice {l:List α} {j:Nat} (a:α) (h:j < l.length):(L.cells l).take (j*L.sz) ++(L.f a).cells ++(L.cells l).drop (j*L.sz+L.sz)=L.cells (l.set j a):=by
 have e:j*L.sz+L.sz=(j+1)*L.sz:=by rw [Nat.add_mul]; simp
 rw [e,L.take (Nat.le_of_lt h),L.drop h,List.set_eq_take_append_cons_drop,if_pos h,L.cells_append,L.cells_cons,bf]
end
theorem oW.blk {α:Type} {L:fW α} {σ:ag} {b:Nat} {l:List α} (h:oW L σ (some b) l):look σ.m b=some (.own (L.cells l)):=h.1
end Go.Ab
namespace Go.Ab
set_option maxRecDepth 100000
structure Acc {α:Type} (L:fW α) (σ0 σ:ag) (v:AV) (l:List α):Prop where
 gr:Gr L σ v l
 far: ∀b o len sz c,v= .sl b o len sz c->σ0.next<=b
 grown:Grown σ0 σ
theorem Acc.newset {α:Type} {L:fW α} {σ0 σ:ag} {v:AV} {l:List α} (h:Acc L σ0 σ v l) (cs cs':ai):Acc L σ0 { next:=σ.next+1,m:=(σ.next, .own cs) ::(σ.next, .own cs') ::σ.m } v l where
 gr:=h.gr.newset cs cs'
 far:=h.far
 grown:=⟨by have:=h.grown.1; simp; omega,fun b hb=>by
  rw [←h.grown.2 b hb]
  have:=h.grown.1
  show look ((σ.next,jS.own cs) ::(σ.next, .own cs') ::σ.m) b=look σ.m b
  simp only [look]; rw [if_neg aa,if_neg aa]⟩
theorem Acc.app {α:Type} {L:fW α} {σ0 σ:ag} {v:AV} {l m:List α} (h:Acc L σ0 σ v l) (hm:0 < m.length):Acc L σ0 (di L σ v l m) (.sl σ.next 0 (l ++m).length L.sz none) (l ++m) where
 gr:=Gr.own (h.gr.next hm)
 far:=fun b o len sz c he=>by simp only [AV.sl.injEq] at he; have:=h.grown.1; omega
 grown:=⟨by rw [fY]; have:=h.grown.1; omega,fun b hb=>by
  have h1:=h.grown.1
  rw [gY h.gr aa (fun len sz c he=>by have:=h.far _ _ _ _ _ he; omega)]
  exact h.grown.2 b hb⟩
def gX:List Mem->Bs->Option V
 | [],_=>none
 | x ::r,k=>if x.1=k then some x.2 else gX r k
def FJ (m:List Mem):Prop:=m.Pairwise fun x y=>bytesLess x.1 y.1=true
theorem np {m:List Mem} {i:Nat} {x:Mem} (h:m[i]? =some x):iG m i=x.1:=by simp [iG,h]
theorem tQ {m:List Mem} (h:FJ m) {i j:Nat} (hij:i < j) (hj:j < m.length):bytesLess (iG m i) (iG m j)=true:=by
 have hi:i < m.length:=by omega
 rw [np (bo hi),np (bo hj)]
 exact List.pairwise_iff_getElem.1 h i j hi hj hij
theorem SY {m:List Mem} {k:Bs} (h:FJ m): ∀(n i j:Nat),j - i<=n->i<=j->j<=m.length->(∀t,t < i->bytesLess (iG m t) k=true)->(∀t,j<=t->t < m.length->bytesLess (iG m t) k=false)->
  i<=tC m k i j/\tC m k i j<=j/\(∀t,t < tC m k i j->bytesLess (iG m t) k=true)/\(∀t,tC m k i j<=t->t < m.length->bytesLess (iG m t) k=false):=by
 intro n
 induction n with
 | zero=>
  intro i j h1 h2 h3 h4 h5
  have:i=j:=by omega
  subst this
  have e:tC m k i i=i:=by rw [tC,if_neg (Nat.lt_irrefl _)]
  rw [e]; exact ⟨aE _,aE _,h4,h5⟩
 | succ n ih=>
  intro i j h1 h2 h3 h4 h5
  by_cases hij:i < j
  ·obtain ⟨c,hc⟩ : ∃c,c=(i+j) / 2:=⟨_,rfl⟩
   have pn:tC m k i j=if bytesLess (iG m c) k=true then tC m k (c+1) j else tC m k i c:=by rw [tC,if_pos hij,←hc]
   rw [pn]
   by_cases hb:bytesLess (iG m c) k=true
   ·rw [if_pos hb]
    obtain ⟨g1,g2,g3,g4⟩:=ih (c+1) j aa aa h3 (fun t ht=>by
     by_cases htc:t=c
     ·rw [htc]; exact hb
     ·exact sW (tQ h (show t < c by omega) aa) hb) h5
    exact ⟨by omega,g2,g3,g4⟩
   ·rw [if_neg hb]
    have nu:bytesLess (iG m c) k=false:=by simpa using hb
    obtain ⟨g1,g2,g3,g4⟩:=ih i c aa aa aa h4 (fun t ht htl=>by
     by_cases htc:t=c
     ·rw [htc]; exact nu
     ·cases hh:bytesLess (iG m t) k
      ·rfl
      ·rw [sW (tQ h (show c < t by omega) htl) hh] at nu; simp at nu)
    exact ⟨g1,by omega,g3,g4⟩
  ·have:i=j:=by omega
   subst this
   have e:tC m k i i=i:=by rw [tC,if_neg (Nat.lt_irrefl _)]
   rw [e]; exact ⟨aE _,aE _,h4,h5⟩
theorem xY {k:Bs} {v:V}: ∀ {m:List Mem},gX m k=some v->∃i:Nat,m[i]? =some (k,v)
 | x ::r,h=>by
  simp only [gX] at h
  split at h
  ·rename_i hk
   obtain ⟨a,b⟩:=x
   simp only [ah] at h hk
   exact ⟨0,by simp [h,hk]⟩
  ·obtain ⟨i,hi⟩:=xY h
   exact ⟨i+1,by simpa using hi⟩
theorem xZ {k:Bs}: ∀ {m:List Mem},gX m k=none->∀(i:Nat) (x:Mem),m[i]? =some x->x.1≠k
 | [],_,i,x,h=>by simp at h
 | y ::r,h,i,x,hx=>by
  simp only [gX] at h
  split at h
  ·simp at h
  ·rename_i hk
   cases i with
   | zero=>simp at hx; rw [←hx]; exact hk
   | succ i=>exact xZ h i x (by simpa using hx)
theorem rq {v:V} (k:Bs) (h5:v.kind=5) (hr:FJ v.m):gO v k=match gX v.m k with | some x=>(x,true) | none=>(V.zero,false):=by
 obtain ⟨g1,g2,g3,g4⟩:=SY (k:=k) hr v.m.length 0 v.m.length aa aa (aE _) (fun t ht=>by omega) (fun t h1 h2=>by omega)
 unfold gO lr
 rw [if_pos h5]
 simp only
 generalize tC v.m k 0 v.m.length=i at g1 g2 g3 g4
 cases hl:gX v.m k with
 | some x=>
  obtain ⟨j,hj⟩:=xY hl
  have lj:=ud hj
  have Hr:j=i:=by
   rcases Nat.lt_trichotomy j i with h1 | h1 | h1
   ·have:=g3 j h1
    rw [np hj,nE] at this; simp at this
   ·exact h1
   ·have h2:=tQ hr h1 lj
    rw [np hj] at h2
    have h3:=g4 i (aE _) aa
    rw [h2] at h3; simp at h3
  subst Hr
  have hk:iG v.m j=k:=np hj
  simp only [lj,decide_true,Bool.true_and,hk,beq_self_eq_true,hj]
 | none=>
  by_cases hi:i < v.m.length
  ·obtain ⟨x,hx⟩:=bM hi
   have fX:(iG v.m i == k)=false:=by
    rw [cc,np hx]; exact xZ hl i x hx
   simp only [fX,aW]
  ·simp only [hi,decide_false,Bool.false_and]
theorem jJ {v:V} (k:Bs) (h5:v.kind≠5):gO v k=(V.zero,false):=by
 unfold gO lr
 rw [if_neg h5]
theorem vq: ∀(m:List Mem) (p:Option Bs),jx p m=true->FJ m/\∀q,p=some q->∀x∈m,bytesLess q x.1=true
 | [],p,_=>⟨List.Pairwise.nil,fun q _ x hx=>by simp at hx⟩
 | (k,v) ::r,p,h=>by
  rw [jM] at h
  simp only [ak] at h
  obtain ⟨h1,h2,h3,h4⟩:=h
  obtain ⟨i1,i2⟩:=vq r (some k) h4
  refine ⟨List.Pairwise.cons (fun x hx=>i2 k rfl x hx) i1,fun q hq x hx=> ?_⟩
  subst hq
  rcases List.mem_cons.1 hx with rfl | hx
  ·exact h2
  ·exact sW h2 (i2 k rfl x hx)
theorem rz {v:V} (h5:v.kind=5) (h:v.fine=true):FJ v.m:=by
 rw [V.fine_eq,h5] at h
 simp at h
 exact (vq v.m none h.2).1
theorem Ay: ∀ {m:List Mem} {p:Option Bs},jx p m=true->∀x∈m,x.2.fine=true/\vu x.1=true
 | (k,v) ::r,p,h,x,hx=>by
  rw [jM] at h
  simp only [ak] at h
  obtain ⟨h1,h2,h3,h4⟩:=h
  rcases List.mem_cons.1 hx with rfl | hx
  ·exact ⟨h3,h1⟩
  ·exact Ay h4 x hx
def Tl:=J @I1.eq_1 (J @I0.eq_1 (J @T0.eq_1 (@F10.eq_1)))
def T16Fb:=J @I1.eq_1 (J @I0.eq_1 (@F10.eq_1))
theorem Bz {l:List Bs} {j:Nat} {s:Bs} {c:aD} (h:l[j]? =some s):idxOf 1 none (.vsl (l.map AV.str) c) (.int .i64 (j:Int))=some (.vptr [.str s] 0):=bV (f:=AV.str) h rfl
theorem ZT {a b:Nat}:((a:Int) != (b:Int))= !(decide (a=b)):=by
 by_cases h:a=b
 ·simp [h]
 ·have:(a:Int)≠(b:Int):=by omega
  simp [h,this]
theorem VH (l m:List Bs) (hb:l.length < cJ):cR 10 [.vsl (l.map .str) none, .vsl (m.map .str) none]=some (.bool (l == m)):=by
 unfold cJ at hb
 refine aC (F:=F10) rfl ?_
 by_cases hl:l.length=m.length
 ·have hd:(!decide (l.length=m.length))=false:=by simp [hl]
  simp only [T16Fb,ay,ax,seval,VX,ZT,hd]
  refine dC (S:=Nat) (fun j=> [(0, .vsl (l.map .str) none),(1, .vsl (m.map .str) none),(5, .int .i64 (j:Int))]) (fun _=> .empty) (fun j=>l.length - j) (fun j=>(l.drop j == m.drop j)=(l == m)) ?_ 0 rfl
  intro b j hj ih
  by_cases aN:j < l.length
  ·obtain ⟨x,hx⟩:=bM aN
   obtain ⟨y,hy⟩:=bM (l:=m) (j:=j) aa
   have i1:=Bz (c:=none) hx
   have i2:=Bz (c:=none) hy
   have aA:=lS aN
   rw [drop_cons hx,drop_cons hy] at hj
   by_cases hxy:x=y
   ·subst hxy
    have hxx:(!(x == x))=false:=by simp
    simp only [Tl,ax,seval,VX,aA,i1,i2,hxx]
    refine ih (j+1) _ _ aa ?_ ?_ rfl
    ·rw [←hj]; simp
    ·rw [cd aN aa]; simp only [ax,seval]
   ·have hxx:(!(x == y))=true:=by simp [hxy]
    have hb:(l == m)=false:=by rw [←hj]; simp [hxy]
    simp only [Tl,ax,seval,VX,aA,i1,i2,hxx,hb]
  ·have aA:=lT (Nat.not_lt.1 aN)
   have hb:(l == m)=true:=by
    rw [←hj,bn aa,bn aa]; rfl
   simp only [Tl,ax,seval,VX,aA,hb]
 ·have hd:(!decide (l.length=m.length))=true:=by simp [hl]
  have hb:(l == m)=false:=by
   rw [cc]; rintro rfl; exact hl rfl
  simp only [T16Fb,ax,seval,VX,ZT,hd,hb]
theorem Mh:cR 17 []=some (.bool true):=cQ 5000 (by kernel_rfl)
def YK:=J @TF.eq_1 (J @Iu.eq_1 (J @TH.eq_1 (J @It.eq_1 (J @Is.eq_1 (J @TG.eq_1 (@F79.eq_1))))))
def S3Fb:=J @TF.eq_1 (J @Iu.eq_1 (J @It.eq_1 (J @Is.eq_1 (@F79.eq_1))))
theorem L0: ∀(n:Nat) (v:V),v.sz < n->v.sz < cJ->cR 79 [v.enc]=some (.int .i64 (v.dep:Nat)):=by
 intro n
 induction n with
 | zero=>intro v h; omega
 | succ n ih=>
  intro v h hb
  have eA:=v.sz_eq
  have hl:=l9 v.l
  have hm:=nS v.m
  have Xn:=wD v.l
  have hdm:=wB v.m
  unfold cJ at hb
  have WT: ∀x∈v.l,cR 79 [x.enc]=some (.int .i64 (x.dep:Nat)):=fun x hx=>by
   have:=gL hx
   exact ih x aa (by unfold cJ; omega)
  have T9: ∀x∈v.m,cR 79 [x.2.enc]=some (.int .i64 (x.2.dep:Nat)):=fun x hx=>by
   have:=eT hx
   exact ih x.2 aa (by unfold cJ; omega)
  refine aC (F:=F79) rfl ?_
  rw [V.dep_eq]
  by_cases h4:v.kind=4
  ·have q4:(v.kind == 4)=true:=by simp [h4]
   simp only [S3Fb,ay,ax,seval,VX,ae,q4,h4]
   refine aL (S:=Nat×Nat) (fun p=> [(1, .vptr [.int .i64 4, .int .i64 v.n, .str v.s, .vsl (v.l.map V.enc) none, .vsl (v.m.map bx) none] 0),(3, .int .i64 (p.2:Int)),(4, .int .i64 (p.1:Int))]) (fun p=>v.l.length - p.1) (fun p _=>max p.2 (qD (v.l.drop p.1))=qD v.l) ?_ (0,0) _ (by simp)
   rintro b ⟨j,a⟩ σ hj ir
   simp only at hj ir ⊢
   by_cases aN:j < v.l.length
   ·obtain ⟨x,hx⟩:=bM aN
    have bQ:=bV (f:=V.enc) (sz:=5) (c:=none) hx (by simp [V.enc_cells])
    have aA:=lS aN
    have bD:=WT x (bH hx)
    rw [drop_cons hx,qD] at hj
    simp only [YK,ax,seval,VX,ae,aA,bQ,bD,Br]
    exact ir (j+1,max a x.dep) _ _ (by simp; omega) (by simp only; omega) (by rw [cd aN aa]; simp only [ax,seval])
   ·have aA:=lT (Nat.not_lt.1 aN)
    rw [bn aa,qD] at hj
    have hw:=cd (j:=a) (n:=Di v.l+1) aa aa
    simp only [YK,ax,seval,VX,aA,hw]
    rw [show a=qD v.l by omega]
  ·have q4:(v.kind == 4)=false:=by simp [h4]
   by_cases h5:v.kind=5
   ·have q5:(v.kind == 5)=true:=by simp [h5]
    simp only [S3Fb,ay,ax,seval,VX,ae,q4,q5,h4,h5]
    refine aL (S:=Nat×Nat) (fun p=> [(1, .vptr [.int .i64 5, .int .i64 v.n, .str v.s, .vsl (v.l.map V.enc) none, .vsl (v.m.map bx) none] 0),(3, .int .i64 (p.2:Int)),(5, .int .i64 (p.1:Int))]) (fun p=>v.m.length - p.1) (fun p _=>max p.2 (pI (v.m.drop p.1))=pI v.m) ?_ (0,0) _ (by simp)
    rintro b ⟨j,a⟩ σ hj ir
    simp only at hj ir ⊢
    by_cases aN:j < v.m.length
    ·obtain ⟨x,hx⟩:=bM aN
     have bQ:=bV (f:=bx) (sz:=6) (c:=none) hx (by simp [bJ])
     have aA:=lS aN
     have bD:=T9 x (bH hx)
     rw [drop_cons hx,AG] at hj
     simp only [YK,ax,seval,VX,ae,aA,bQ,bD,Br]
     exact ir (j+1,max a x.2.dep) _ _ (by simp; omega) (by simp only; omega) (by rw [cd aN aa]; simp only [ax,seval])
    ·have aA:=lT (Nat.not_lt.1 aN)
     rw [bn aa,pI] at hj
     have hw:=cd (j:=a) (n:=vU v.m+1) aa aa
     simp only [YK,ax,seval,VX,aA,hw]
     rw [show a=pI v.m by omega]
   ·have q5:(v.kind == 5)=false:=by simp [h5]
    simp only [S3Fb,ax,Nat.reduceEqDiff,reduceIte,reduceCtorEq,Nat.reduceAdd,Nat.reduceLeDiff,Nat.reduceSub,Nat.reduceMul,Int.reduceEq,Int.reduceBEq,Int.reduceBNe,Int.reduceLT,Int.reduceLE,Nat.reduceLT,VX,ae,q4,q5,h4,h5]
    rfl
theorem Pj (v:V) (hb:v.sz < cJ):cR 79 [v.enc]=some (.int .i64 (v.dep:Nat)):=L0 (v.sz+1) v (aR _) hb
def YJ:=J @uQ.eq_1 (J @uP.eq_1 (J @uO.eq_1 (J @uN.eq_1 (@NZ.eq_1))))
theorem gf {α:Type} (l:List α):((l.length:Int) == 0)=l.isEmpty:=by
 cases l <;> simp; omega
theorem qn {k a:Int} (h:k≠a):(k == a)=false:=by simp [h]
theorem i00:((0:Int) == 0)=true:=rfl
theorem may0 (v:V) (h:v.kind=0):cR 80 [v.enc]=some (.bool v.fine):=by
 obtain ⟨r,hr⟩ : ∃r,r=AV.bool v.fine:=⟨_,rfl⟩
 rw [←hr]
 rw [V.fine_eq] at hr
 have qe:(([] :Bs) == [])=true:=rfl
 simp only [h,if_true,if_false,V.bare,V.n_mk,V.s_mk,V.l_mk,V.m_mk,i00,qe,Bool.true_and,ly] at hr
 refine aC (F:=NZ) rfl ?_
 have q0:((0:Int) == 0)=true:=rfl
 simp only [YJ,ax,seval,VX,ae,h,q0,gf,aH]
 cases h1:v.n == 0 with
 | false=>
  simp only [h1,aV,Bool.true_and,Bool.false_and,aW,Bool.and_true,Bool.or_self,Bool.true_or,Bool.or_true,Bool.or_false,Bool.false_or] at hr
  simp only [ax,seval,VX,ae,gf,h1,hr,aH]
 | true=>
 cases h2:v.s == [] with
 | false=>
  simp only [h1,h2,aV,Bool.true_and,Bool.false_and,aW,Bool.and_true,Bool.or_self,Bool.true_or,Bool.or_true,Bool.or_false,Bool.false_or] at hr
  simp only [ax,seval,VX,ae,gf,h1,h2,hr,aH]
 | true=>
 cases h3:v.l.isEmpty with
 | false=>
  simp only [h1,h2,h3,aV,Bool.true_and,Bool.false_and,aW,Bool.and_true,Bool.or_self,Bool.true_or,Bool.or_true,Bool.or_false,Bool.false_or] at hr
  simp only [ax,seval,VX,ae,gf,h1,h2,h3,hr,aH]
 | true=>
 cases h4:v.m.isEmpty with
 | false=>
  simp only [h1,h2,h3,h4,aV,Bool.true_and,Bool.false_and,aW,Bool.and_true,Bool.or_self,Bool.true_or,Bool.or_true,Bool.or_false,Bool.false_or] at hr
  simp only [ax,seval,VX,ae,gf,h1,h2,h3,h4,hr,aH]
 | true=>
 simp only [h1,h2,h3,h4,aV,Bool.true_and,Bool.false_and,aW,Bool.and_true,Bool.or_self,Bool.true_or,Bool.or_true,Bool.or_false,Bool.false_or] at hr
 simp only [ax,seval,VX,ae,gf,h1,h2,h3,h4,hr,aH]
theorem may1 (v:V) (h:v.kind=1):cR 80 [v.enc]=some (.bool v.fine):=by
 obtain ⟨r,hr⟩ : ∃r,r=AV.bool v.fine:=⟨_,rfl⟩
 rw [←hr]
 rw [V.fine_eq] at hr
 have qe:(([] :Bs) == [])=true:=rfl
 simp only [h,show ((1:Int)=0)=False by simp,if_true,if_false,V.bare,V.n_mk,V.s_mk,V.l_mk,V.m_mk,i00,qe,Bool.true_and,ly] at hr
 refine aC (F:=NZ) rfl ?_
 have q0:((1:Int) == 0)=false:=rfl
 have q1:((1:Int) == 1)=true:=rfl
 simp only [YJ,ax,seval,VX,ae,h,q0,q1,gf,aH]
 cases h0:v.n == 0 with
 | false=>
  cases h1:v.n == 1 with
  | false=>
   simp only [h0,h1,aV,Bool.true_and,Bool.false_and,aW,Bool.and_true,Bool.or_self,Bool.true_or,Bool.or_true,Bool.or_false,Bool.false_or] at hr
   simp only [ax,seval,VX,ae,gf,h0,h1,hr,aH]
  | true=>
   cases h2:v.s == [] with
   | false=>
    simp only [h0,h1,h2,aV,Bool.true_and,Bool.false_and,aW,Bool.and_true,Bool.or_self,Bool.true_or,Bool.or_true,Bool.or_false,Bool.false_or] at hr
    simp only [ax,seval,VX,ae,gf,h0,h1,h2,hr,aH]
   | true=>
    cases h3:v.l.isEmpty with
    | false=>
     simp only [h0,h1,h2,h3,aV,Bool.true_and,Bool.false_and,aW,Bool.and_true,Bool.or_self,Bool.true_or,Bool.or_true,Bool.or_false,Bool.false_or] at hr
     simp only [ax,seval,VX,ae,gf,h0,h1,h2,h3,hr,aH]
    | true=>
     cases h4:v.m.isEmpty with
     | false=>
      simp only [h0,h1,h2,h3,h4,aV,Bool.true_and,Bool.false_and,aW,Bool.and_true,Bool.or_self,Bool.true_or,Bool.or_true,Bool.or_false,Bool.false_or] at hr
      simp only [ax,seval,VX,ae,gf,h0,h1,h2,h3,h4,hr,aH]
     | true=>
      simp only [h0,h1,h2,h3,h4,aV,Bool.true_and,Bool.false_and,aW,Bool.and_true,Bool.or_self,Bool.true_or,Bool.or_true,Bool.or_false,Bool.false_or] at hr
      simp only [ax,seval,VX,ae,gf,h0,h1,h2,h3,h4,hr,aH]
 | true=>
  cases h2:v.s == [] with
  | false=>
   simp only [h0,h2,aV,Bool.true_and,Bool.false_and,aW,Bool.and_true,Bool.or_self,Bool.true_or,Bool.or_true,Bool.or_false,Bool.false_or] at hr
   simp only [ax,seval,VX,ae,gf,h0,h2,hr,aH]
  | true=>
   cases h3:v.l.isEmpty with
   | false=>
    simp only [h0,h2,h3,aV,Bool.true_and,Bool.false_and,aW,Bool.and_true,Bool.or_self,Bool.true_or,Bool.or_true,Bool.or_false,Bool.false_or] at hr
    simp only [ax,seval,VX,ae,gf,h0,h2,h3,hr,aH]
   | true=>
    cases h4:v.m.isEmpty with
    | false=>
     simp only [h0,h2,h3,h4,aV,Bool.true_and,Bool.false_and,aW,Bool.and_true,Bool.or_self,Bool.true_or,Bool.or_true,Bool.or_false,Bool.false_or] at hr
     simp only [ax,seval,VX,ae,gf,h0,h2,h3,h4,hr,aH]
    | true=>
     simp only [h0,h2,h3,h4,aV,Bool.true_and,Bool.false_and,aW,Bool.and_true,Bool.or_self,Bool.true_or,Bool.or_true,Bool.or_false,Bool.false_or] at hr
     simp only [ax,seval,VX,ae,gf,h0,h2,h3,h4,hr,aH]
theorem may2 (v:V) (h:v.kind=2):cR 80 [v.enc]=some (.bool v.fine):=by
 obtain ⟨r,hr⟩ : ∃r,r=AV.bool v.fine:=⟨_,rfl⟩
 rw [←hr]
 rw [V.fine_eq] at hr
 have qe:(([] :Bs) == [])=true:=rfl
 simp only [h,show ((2:Int)=0)=False by simp,show ((2:Int)=1)=False by simp,if_true,if_false,V.bare,V.n_mk,V.s_mk,V.l_mk,V.m_mk,i00,qe,Bool.true_and,ly] at hr
 refine aC (F:=NZ) rfl ?_
 have q0:((2:Int) == 0)=false:=rfl
 have q1:((2:Int) == 1)=false:=rfl
 have q2:((2:Int) == 2)=true:=rfl
 simp only [YJ,ax,seval,VX,ae,h,q0,q1,q2,gf,aH]
 have kc:decide (v.n≥ -9007199254740991)=decide (-9007199254740991<=v.n):=rfl
 cases h0:decide (-9007199254740991<=v.n) with
 | false=>
  simp only [h0,aV,Bool.true_and,Bool.false_and,aW,Bool.and_true,Bool.or_self,Bool.true_or,Bool.or_true,Bool.or_false,Bool.false_or] at hr
  simp only [ax,seval,VX,ae,gf,h0,kc,hr,aH]
 | true=>
  cases h1:decide (v.n<=9007199254740991) with
  | false=>
   simp only [h0,h1,aV,Bool.true_and,Bool.false_and,aW,Bool.and_true,Bool.or_self,Bool.true_or,Bool.or_true,Bool.or_false,Bool.false_or] at hr
   simp only [ax,seval,VX,ae,gf,h0,h1,kc,hr,aH]
  | true=>
   cases h2:v.s == [] with
   | false=>
    simp only [h0,h1,h2,aV,Bool.true_and,Bool.false_and,aW,Bool.and_true,Bool.or_self,Bool.true_or,Bool.or_true,Bool.or_false,Bool.false_or] at hr
    simp only [ax,seval,VX,ae,gf,h0,h1,h2,kc,hr,aH]
   | true=>
    cases h3:v.l.isEmpty with
    | false=>
     simp only [h0,h1,h2,h3,aV,Bool.true_and,Bool.false_and,aW,Bool.and_true,Bool.or_self,Bool.true_or,Bool.or_true,Bool.or_false,Bool.false_or] at hr
     simp only [ax,seval,VX,ae,gf,h0,h1,h2,h3,kc,hr,aH]
    | true=>
     cases h4:v.m.isEmpty with
     | false=>
      simp only [h0,h1,h2,h3,h4,aV,Bool.true_and,Bool.false_and,aW,Bool.and_true,Bool.or_self,Bool.true_or,Bool.or_true,Bool.or_false,Bool.false_or] at hr
      simp only [ax,seval,VX,ae,gf,h0,h1,h2,h3,h4,kc,hr,aH]
     | true=>
      simp only [h0,h1,h2,h3,h4,aV,Bool.true_and,Bool.false_and,aW,Bool.and_true,Bool.or_self,Bool.true_or,Bool.or_true,Bool.or_false,Bool.false_or] at hr
      simp only [ax,seval,VX,ae,gf,h0,h1,h2,h3,h4,kc,hr,aH]
theorem may3 (v:V) (h:v.kind=3) (hb:v.s.length < cJ):cR 80 [v.enc]=some (.bool v.fine):=by
 obtain ⟨r,hr⟩ : ∃r,r=AV.bool v.fine:=⟨_,rfl⟩
 rw [←hr]
 rw [V.fine_eq] at hr
 have qe:(([] :Bs) == [])=true:=rfl
 simp only [h,show ((3:Int)=0)=False by simp,show ((3:Int)=1)=False by simp,show ((3:Int)=2)=False by simp,if_true,if_false,V.bare,V.n_mk,V.s_mk,V.l_mk,V.m_mk,i00,qe,Bool.true_and,ly] at hr
 refine aC (F:=NZ) rfl ?_
 have q0:((3:Int) == 0)=false:=rfl
 have q1:((3:Int) == 1)=false:=rfl
 have q2:((3:Int) == 2)=false:=rfl
 have q3:((3:Int) == 3)=true:=rfl
 simp only [YJ,ax,seval,VX,ae,h,q0,q1,q2,q3,gf,aH]
 have g:=Bf v.s hb
 cases h0:v.n == 0 with
 | false=>
  simp only [h0,aV,Bool.true_and,Bool.false_and,aW,Bool.and_true,Bool.or_self,Bool.true_or,Bool.or_true,Bool.or_false,Bool.false_or] at hr
  simp only [ax,seval,VX,ae,gf,h0,hr,aH]
 | true=>
  cases h1:vu v.s with
  | false=>
   rw [h1] at g
   simp only [h0,h1,aV,Bool.true_and,Bool.false_and,aW,Bool.and_true,Bool.or_self,Bool.true_or,Bool.or_true,Bool.or_false,Bool.false_or] at hr
   simp only [ax,seval,VX,ae,gf,h0,h1,g,hr,aH]
  | true=>
   rw [h1] at g
   cases h3:v.l.isEmpty with
   | false=>
    simp only [h0,h1,h3,aV,Bool.true_and,Bool.false_and,aW,Bool.and_true,Bool.or_self,Bool.true_or,Bool.or_true,Bool.or_false,Bool.false_or] at hr
    simp only [ax,seval,VX,ae,gf,h0,h1,h3,g,hr,aH]
   | true=>
    cases h4:v.m.isEmpty with
    | false=>
     simp only [h0,h1,h3,h4,aV,Bool.true_and,Bool.false_and,aW,Bool.and_true,Bool.or_self,Bool.true_or,Bool.or_true,Bool.or_false,Bool.false_or] at hr
     simp only [ax,seval,VX,ae,gf,h0,h1,h3,h4,g,hr,aH]
    | true=>
     simp only [h0,h1,h3,h4,aV,Bool.true_and,Bool.false_and,aW,Bool.and_true,Bool.or_self,Bool.true_or,Bool.or_true,Bool.or_false,Bool.false_or] at hr
     simp only [ax,seval,VX,ae,gf,h0,h1,h3,h4,g,hr,aH]
def S5Fa:=J @uQ.eq_1 (J @uP.eq_1 (J @Ir.eq_1 (J @uO.eq_1 (J @uN.eq_1 (J @Iq.eq_1 (@NZ.eq_1))))))
def S5Fb:=J @uQ.eq_1 (J @uP.eq_1 (J @uO.eq_1 (J @uN.eq_1 (@NZ.eq_1))))
theorem may4 (v:V) (h:v.kind=4) (hb:v.sz < cJ) (ih: ∀x∈v.l,cR 80 [x.enc]=some (.bool x.fine)):cR 80 [v.enc]=some (.bool v.fine):=by
 obtain ⟨r,hr⟩ : ∃r,r=AV.bool v.fine:=⟨_,rfl⟩
 rw [←hr]
 rw [V.fine_eq] at hr
 have hlz:=ph v
 unfold cJ at hb
 have qe:(([] :List V)).isEmpty=true:=rfl
 simp only [h,show ((4:Int)=0)=False by simp,show ((4:Int)=1)=False by simp,show ((4:Int)=2)=False by simp,show ((4:Int)=3)=False by simp,if_true,if_false,V.bare,V.n_mk,V.s_mk,V.l_mk,V.m_mk,qe,Bool.true_and] at hr
 have q0:((4:Int) == 0)=false:=rfl
 have q1:((4:Int) == 1)=false:=rfl
 have q2:((4:Int) == 2)=false:=rfl
 have q3:((4:Int) == 3)=false:=rfl
 have q4:((4:Int) == 4)=true:=rfl
 refine aC (F:=NZ) rfl ?_
 simp only [S5Fb,ay,ax,seval,VX,ae,h,q0,q1,q2,q3,q4]
 refine dC (S:=Nat) (fun j=> [(1, .vptr [.int .i64 4, .int .i64 v.n, .str v.s, .vsl (v.l.map V.enc) none, .vsl (v.m.map bx) none] 0),(3, .int .i64 (j:Int))]) (fun _=> .empty) (fun j=>v.l.length - j) (fun j=>kg (v.l.drop j)=kg v.l) ?_ 0 rfl
 intro b j hj ir
 by_cases aN:j < v.l.length
 ·obtain ⟨x,hx⟩:=bM aN
  have bQ:=bV (f:=V.enc) (sz:=5) (c:=none) hx (by simp [V.enc_cells])
  have aA:=lS aN
  have hw:=cd aN aa
  have bD:=ih x (bH hx)
  rw [drop_cons hx,kg] at hj
  cases hf:x.fine with
  | false=>
   rw [hf] at bD
   rw [hf,Bool.false_and] at hj
   rw [←hj,aW] at hr
   simp only [S5Fa,ax,seval,VX,ae,aA,bQ,bD,hr]
  | true=>
   rw [hf] at bD
   rw [hf,Bool.true_and] at hj
   simp only [S5Fa,ax,seval,VX,ae,aA,bQ,bD,hw]
   exact ir (j+1) _ _ aa hj rfl rfl
 ·have aA:=lT (Nat.not_lt.1 aN)
  rw [bn aa,kg] at hj
  rw [←hj,Bool.and_true] at hr
  simp only [S5Fa,ax,seval,VX,ae,aA,gf,aH]
  cases h1:v.n == 0 with
  | false=>
   simp only [h1,aV,Bool.true_and,Bool.false_and,aW,Bool.and_true,Bool.or_self,Bool.true_or,Bool.or_true,Bool.or_false,Bool.false_or] at hr
   simp only [ax,seval,VX,ae,gf,h1,hr,aH]
  | true=>
   cases h2:v.s == [] with
   | false=>
    simp only [h1,h2,aV,Bool.true_and,Bool.false_and,aW,Bool.and_true,Bool.or_self,Bool.true_or,Bool.or_true,Bool.or_false,Bool.false_or] at hr
    simp only [ax,seval,VX,ae,gf,h1,h2,hr,aH]
   | true=>
    cases h4:v.m.isEmpty with
    | false=>
     simp only [h1,h2,h4,aV,Bool.true_and,Bool.false_and,aW,Bool.and_true,Bool.or_self,Bool.true_or,Bool.or_true,Bool.or_false,Bool.false_or] at hr
     simp only [ax,seval,VX,ae,gf,h1,h2,h4,hr,aH]
    | true=>
     simp only [h1,h2,h4,aV,Bool.true_and,Bool.false_and,aW,Bool.and_true,Bool.or_self,Bool.true_or,Bool.or_true,Bool.or_false,Bool.false_or] at hr
     simp only [ax,seval,VX,ae,gf,h1,h2,h4,hr,aH]
theorem mayNo (v:V) (h0:v.kind≠0) (h1:v.kind≠1) (h2:v.kind≠2) (h3:v.kind≠3) (h4:v.kind≠4) (h5:v.kind≠5):cR 80 [v.enc]=some (.bool v.fine):=by
 have hf:v.fine=false:=by
  rw [V.fine_eq,if_neg h0,if_neg h1,if_neg h2,if_neg h3,if_neg h4,if_neg h5]
 refine aC (F:=NZ) rfl ?_
 simp only [S5Fb,ax,seval,VX,ae,qn h0,qn h1,qn h2,qn h3,qn h4,qn h5,hf]
def Ia:=J @uQ.eq_1 (J @uP.eq_1 (J @Ir.eq_1 (J @uO.eq_1 (J @uN.eq_1 (J @Iq.eq_1 (@NZ.eq_1))))))
theorem WJ (a b:Bs):(bytesLess a b || a == b)= !(bytesLess b a):=by
 cases h:bytesLess b a with
 | true=>
  have h1:=FB h
  have h2:(a == b)=false:=by
   rw [cc]; rintro rfl; rw [nE] at h; cases h
  rw [h1,h2]; rfl
 | false=>
  cases h1:bytesLess a b with
  | true=>rfl
  | false=>have:=yV h1 h; subst this; simp
theorem may5 (v:V) (h:v.kind=5) (hb:v.sz < cJ) (ih: ∀x∈v.m,cR 80 [x.2.enc]=some (.bool x.2.fine)):cR 80 [v.enc]=some (.bool v.fine):=by
 obtain ⟨r,hr⟩ : ∃r,r=AV.bool v.fine:=⟨_,rfl⟩
 rw [←hr]
 rw [V.fine_eq] at hr
 have hmz:=gW v
 have eA:=v.sz_eq
 unfold cJ at hb
 have qe:(([] :List Mem)).isEmpty=true:=rfl
 simp only [h,show ((5:Int)=0)=False by simp,show ((5:Int)=1)=False by simp,show ((5:Int)=2)=False by simp,show ((5:Int)=3)=False by simp,show ((5:Int)=4)=False by simp,if_true,if_false,V.bare,V.n_mk,V.s_mk,V.l_mk,V.m_mk,qe,Bool.and_true] at hr
 have q0:((5:Int) == 0)=false:=rfl
 have q1:((5:Int) == 1)=false:=rfl
 have q2:((5:Int) == 2)=false:=rfl
 have q3:((5:Int) == 3)=false:=rfl
 have q4:((5:Int) == 4)=false:=rfl
 have q5:((5:Int) == 5)=true:=rfl
 refine aC (F:=NZ) rfl ?_
 simp only [uQ,uP,uO,uN,NZ,ay,ax,seval,VX,ae,h,q0,q1,q2,q3,q4,q5]
 refine dC (S:=Nat) (fun j=> [(1, .vptr [.int .i64 5, .int .i64 v.n, .str v.s, .vsl (v.l.map V.enc) none, .vsl (v.m.map bx) none] 0),(4, .int .i64 (j:Int))]) (fun _=> .empty) (fun j=>v.m.length - j) (fun j=>jx (qL v.m j) (v.m.drop j)=jx none v.m) ?_ 0 rfl
 intro b j hj ir
 by_cases aN:j < v.m.length
 ·obtain ⟨⟨key,x⟩,hx⟩:=bM aN
  have bQ:=bV (f:=bx) (sz:=6) (c:=none) hx (by simp [bJ])
  have aA:=lS aN
  have hw:=cd aN aa
  have bD:=ih _ (bH hx)
  have hmem:=eT (bH hx)
  simp only at bD hmem
  have hg:=Bf key aa
  rw [drop_cons hx,jM] at hj
  cases g1:vu key with
  | false=>
   rw [g1] at hg
   rw [g1,Bool.false_and] at hj
   rw [←hj,aW] at hr
   simp only [Ia,ax,seval,VX,ae,aA,bQ,hg,hr]
  | true=>
  rw [g1] at hg
  rw [g1,Bool.true_and] at hj
  by_cases h0:j=0
  ·subst h0
   have d0:decide (((0:Nat):Int) > 0)=false:=rfl
   have hp:okP (qL v.m 0) key=true:=rfl
   rw [hp,Bool.true_and] at hj
   cases hf:x.fine with
   | false=>
    rw [hf] at bD
    rw [hf,Bool.false_and] at hj
    rw [←hj,aW] at hr
    simp only [Ia,ax,Nat.reduceEqDiff,reduceIte,reduceCtorEq,Nat.reduceAdd,Nat.reduceLeDiff,Nat.reduceSub,Nat.reduceMul,Int.reduceEq,Int.reduceBEq,Int.reduceBNe,Int.reduceLT,Int.reduceLE,Nat.reduceLT,VX,ae,aA,bQ,hg,d0,bD,hr]
   | true=>
    rw [hf] at bD
    rw [hf,Bool.true_and] at hj
    simp only [Ia,ax,Nat.reduceEqDiff,reduceIte,reduceCtorEq,Nat.reduceAdd,Nat.reduceLeDiff,Nat.reduceSub,Nat.reduceMul,Int.reduceEq,Int.reduceBEq,Int.reduceBNe,Int.reduceLT,Int.reduceLE,Nat.reduceLT,VX,ae,aA,bQ,hg,d0,bD,hw]
    exact ir 1 _ _ aa (by rw [ra hx]; exact hj) rfl rfl
  ·obtain ⟨⟨pk,px⟩,Ue⟩:=bM (l:=v.m) (j:=j - 1) aa
   have lB:=bV (f:=bx) (sz:=6) (c:=none) Ue (by simp [bJ])
   have d0:decide ((j:Int) > 0)=true:=by simp; omega
   have hwp:=Zl (j:=j) aa aa
   have hp:okP (qL v.m j) key=bytesLess pk key:=by simp [qL,h0,Ue,okP]
   rw [hp] at hj
   have hle:(bytesLess key pk || key == pk)= !(bytesLess pk key):=WJ key pk
   cases hl:bytesLess pk key with
   | false=>
    rw [hl,Bool.false_and] at hj
    rw [←hj,aW] at hr
    simp only [Ia,ax,seval,VX,ae,aA,bQ,hg,d0,hwp,lB,hle,hl,Bool.not_false,hr]
   | true=>
   rw [hl,Bool.true_and] at hj
   cases hf:x.fine with
   | false=>
    rw [hf] at bD
    rw [hf,Bool.false_and] at hj
    rw [←hj,aW] at hr
    simp only [Ia,ax,seval,VX,ae,aA,bQ,hg,d0,hwp,lB,hle,hl,Bool.not_true,bD,hr]
   | true=>
    rw [hf] at bD
    rw [hf,Bool.true_and] at hj
    simp only [Ia,ax,seval,VX,ae,aA,bQ,hg,d0,hwp,lB,hle,hl,Bool.not_true,bD,hw]
    exact ir (j+1) _ _ aa (by rw [ra hx]; exact hj) rfl rfl
 ·have aA:=lT (Nat.not_lt.1 aN)
  rw [bn aa,jx] at hj
  rw [←hj,Bool.and_true] at hr
  simp only [Ia,ax,seval,VX,ae,aA,gf,aH]
  cases h1:v.n == 0 with
  | false=>
   simp only [h1,aV,Bool.true_and,Bool.false_and,aW,Bool.and_true,Bool.or_self,Bool.true_or,Bool.or_true,Bool.or_false,Bool.false_or] at hr
   simp only [ax,seval,VX,ae,gf,h1,hr,aH]
  | true=>
   cases h2:v.s == [] with
   | false=>
    simp only [h1,h2,aV,Bool.true_and,Bool.false_and,aW,Bool.and_true,Bool.or_self,Bool.true_or,Bool.or_true,Bool.or_false,Bool.false_or] at hr
    simp only [ax,seval,VX,ae,gf,h1,h2,hr,aH]
   | true=>
    cases h3:v.l.isEmpty with
    | false=>
     simp only [h1,h2,h3,aV,Bool.true_and,Bool.false_and,aW,Bool.and_true,Bool.or_self,Bool.true_or,Bool.or_true,Bool.or_false,Bool.false_or] at hr
     simp only [ax,seval,VX,ae,gf,h1,h2,h3,hr,aH]
    | true=>
     simp only [h1,h2,h3,aV,Bool.true_and,Bool.false_and,aW,Bool.and_true,Bool.or_self,Bool.true_or,Bool.or_true,Bool.or_false,Bool.false_or] at hr
     simp only [ax,seval,VX,ae,gf,h1,h2,h3,hr,aH]
end Go.Ab
namespace Go.Ab
set_option maxHeartbeats 1000000
set_option maxRecDepth 100000
section
variable {e:Ev} {k:List Item} {σ:ag} {Q:Fr->ag->Prop}
end
end Go.Ab
namespace Go.Ab
set_option maxRecDepth 100000
theorem r_mayN: ∀(n:Nat) (v:V),v.sz < n->v.sz < cJ->cR 80 [v.enc]=some (.bool v.fine):=by
 intro n
 induction n with
 | zero=>intro v h; omega
 | succ n ih=>
  intro v h hb
  have eA:=v.sz_eq
  have WT: ∀x∈v.l,cR 80 [x.enc]=some (.bool x.fine):=fun x hx=>by
   have:=gL hx
   exact ih x aa aa
  have T9: ∀x∈v.m,cR 80 [x.2.enc]=some (.bool x.2.fine):=fun x hx=>by
   have:=eT hx
   exact ih x.2 aa aa
  by_cases h0:v.kind=0
  ·exact may0 v h0
  by_cases h1:v.kind=1
  ·exact may1 v h1
  by_cases h2:v.kind=2
  ·exact may2 v h2
  by_cases h3:v.kind=3
  ·exact may3 v h3 aa
  by_cases h4:v.kind=4
  ·exact may4 v h4 hb WT
  by_cases h5:v.kind=5
  ·exact may5 v h5 hb T9
  exact mayNo v h0 h1 h2 h3 h4 h5
theorem r_may (v:V) (hb:v.sz < cJ):cR 80 [v.enc]=some (.bool v.fine):=r_mayN (v.sz+1) v (aR _) hb
theorem m6 (v:V) (hb:v.sz < cJ):cR 69 [v.enc]=some (.bool v.good):=by
 have h1:=Pj v hb
 have h2:=r_may v hb
 have hd:decide ((v.dep:Int)<=50)=decide (v.dep<=50):=by
  rw [decide_eq_decide]; omega
 refine aC (F:=F69) rfl ?_
 unfold V.good
 cases hq:decide (v.dep<=50) <;> rw [hq] at hd <;> simp only [F69,ax,seval,VX,ae,h1,h2,hd,Bool.and_true,aW]
def Q5Fa:= @F195.eq_1
theorem tW (s:Bs):(dw s).length<=6*s.length+2:=by
 have:=BO s
 simp only [dw,List.length_cons,az,List.length_nil]; omega
mutual
theorem V.wr_len: ∀v:V,v.fine=true->v.wr.length+4<=32*v.sz
 | .mk k n s l m,h=>by
  have hq:=tW s
  rw [V.fine] at h
  rw [V.wr,V.sz]
  by_cases h0:k=0
  ·rw [if_pos h0]; simp only [List.length_cons,List.length_nil]; omega
  rw [if_neg h0] at h ⊢
  by_cases h1:k=1
  ·rw [if_pos h1]; split <;> simp only [List.length_cons,List.length_nil] <;> omega
  rw [if_neg h1] at h ⊢
  by_cases h2:k=2
  ·rw [if_pos h2,ak] at h
   have:=Fq h.2
   rw [if_pos h2]; omega
  rw [if_neg h2] at h ⊢
  by_cases h3:k=3
  ·rw [if_pos h3]; omega
  rw [if_neg h3] at h ⊢
  by_cases h4:k=4
  ·rw [if_pos h4,ak] at h
   have:=Jb l h.2
   rw [if_pos h4]; simp only [List.length_cons,az,List.length_nil,List.length_tail]; omega
  rw [if_neg h4] at h ⊢
  by_cases h5:k=5
  ·rw [if_pos h5,ak] at h
   have:=I9 m none h.2
   simp only [List.length_cons,az,List.length_nil,List.length_tail]; omega
  ·rw [if_neg h5] at h; cases h
theorem Jb: ∀l:List V,kg l=true->(uV l).length<=32*Di l
 | [],_=>by simp [uV]
 | v ::r,h=>by
  simp only [kg,ak] at h
  have h1:=V.wr_len v h.1
  have h2:=Jb r h.2
  simp only [uV,Di,List.length_cons,az]; omega
theorem I9: ∀(l:List (Bs×V)) (p:Option Bs),jx p l=true->(uU l).length<=32*vU l
 | [],_,_=>by simp [uU]
 | (k,v) ::r,p,h=>by
  rw [jM] at h
  simp only [ak] at h
  have h1:=V.wr_len v h.2.2.1
  have h2:=I9 r (some k) h.2.2.2
  have hq:=tW k
  simp only [uU,vU,List.length_cons,az]; omega
end
theorem Pk {v:V} (hb:v.sz < 4294967296):cR 195 [v.enc]=some (.tup (if v.good=true then [.str v.wr, .int .i64 0] else [.str [], .int .i64 1])):=by
 have hg:=m6 v (by unfold cJ; omega)
 refine aC (F:=F195) rfl ?_
 cases hv:v.good
 ·rw [hv] at hg
  simp only [Q5Fa,ax,seval,VX,ae,hg,hv,aX,if_false]
 ·rw [hv] at hg
  have hf:v.fine=true:=by unfold V.good at hv; rw [ak] at hv; exact hv.1
  have hl:=V.wr_len v hf
  obtain ⟨y,σ',c1,c2⟩:=c_rPut (v.sz+1) v (aR _) hf aa ⟨0, []⟩ .nils [] (.inl ⟨rfl,rfl⟩) (by simp only [List.length_nil]; omega)
  have hs:gu (rowOf σ' 1 y)=some (.str v.wr):=by
   rw [List.nil_append] at c2
   rcases c2 with ⟨e,rfl⟩ | ⟨b,rfl,h1,h2,h3⟩
   ·rw [e]; rfl
   ·rw [vV (v:=v.wr) (by unfold zt; rw [h1]) h3 rfl]; simp only [gu,lJ,Option.map_some]
  simp only [Q5Fa,ax,seval,VX,ae,hg,hv,if_true,c1,hs]
abbrev tyB:Nat:=246
abbrev tyU:Nat:=5
def lg (b:UInt8):UInt8:=if b=34 then 34 else if b=92 then 92 else if b=8 then 98 else if b=9 then 116 else if b=10 then 110 else if b=12 then 102 else if b=13 then 114 else 0
theorem Nt (b:UInt8):(lg b≠0/\fT b= [92,lg b])∨(lg b=0/\b < 32/\fT b= [92,117,48,48,qC (b >>> 4),qC (b &&& 15)])∨(lg b=0/\¬b < 32/\fT b= [b]):=by
 unfold lg fT
 by_cases h1:b=34
 ·left; simp [h1]
 by_cases h2:b=92
 ·left; simp [h2]
 by_cases h3:b=8
 ·left; simp [h3]
 by_cases h4:b=9
 ·left; simp [h4]
 by_cases h5:b=10
 ·left; simp [h5]
 by_cases h6:b=12
 ·left; simp [h6]
 by_cases h7:b=13
 ·left; simp [h7]
 right
 by_cases h8:b < 32
 ·left; simp [h1,h2,h3,h4,h5,h6,h7,h8]
 ·right; simp only [h1,h2,h3,h4,h5,h6,h7,h8,if_false]; exact ⟨trivial,not_false,trivial⟩
theorem Vm (b:UInt8):cR 388 [.int .u8 (b.toNat:Int)]=some (.int .u8 ((lg b).toNat:Int)):=by
 have k (b:UInt8):(match (dj cF (run cF gU 400) (.fn 388 [] []) [.int .u8 (b.toNat:Int)] .empty).bind (fun x=>rbE x.2 x.1) with | some (.int .u8 n)=>n == ((lg b).toNat:Int) | _=>false)=true:=
  lL (p:=fun b=>(match (dj cF (run cF gU 400) (.fn 388 [] []) [.int .u8 (b.toNat:Int)] .empty).bind (fun x=>rbE x.2 x.1) with | some (.int .u8 n)=>n == ((lg b).toNat:Int) | _=>false)) (by kernel_rfl) b
 have h:=k b
 refine cQ 400 ?_
 split at h
 ·rename_i n e; rw [e,eq_of_beq h]
 ·cases h
def FM (σ:ag) (x:AV) (t:Bs):Prop:=(t= []/\x= .nils)∨∃c,x= .sl c 0 t.length 1 none/\look σ.m c=some (.own (af t))/\c < σ.next/\0 < t.length/\σ.tagged c tyU=true
def N7 (σ:ag) (b:Nat) (t:Bs):Prop:=∃a x,look σ.m b=some (.own [a,x])/\(a= .lit (.pointer none)∨a= .ptr b 0)/\σ.tagged b tyB=true/\b < σ.next/\FM σ x t/\∀c n,x= .sl c 0 n 1 none->c≠b
theorem mY {n:Nat} {m:List (Nat×jS)} {e:Nat×jS} {b k:Nat} (h:ag.tagged ⟨n,m⟩ b k=true) (n':Nat):ag.tagged ⟨n',e ::m⟩ b k=true:=by
 unfold ag.tagged at*
 simp only [List.any_cons,Bool.or_eq_true]; exact .inr h
theorem Ju {σ:ag} {b k b' k':Nat} (h:σ.tagged b k=true):(σ.addTag b' k').tagged b k=true:=by
 unfold ag.tagged ag.addTag at*
 simp only [List.any_append,Bool.or_eq_true]; exact .inl h
theorem A4 {σ:ag} {b k:Nat}:(σ.addTag b k).tagged b k=true:=by
 unfold ag.tagged ag.addTag
 simp [QB]
theorem sG {α:Type} {m:List (Nat×α)} {r:List (Nat×α)} {j:Nat} {x:α} (h:look m j=some x):look (m ++r) j=some x:=by
 induction m with
 | nil=>cases h
 | cons e m ih=>
  obtain ⟨i,y⟩:=e
  rw [List.cons_append,look]
  rw [look] at h
  split
  ·rename_i e; rw [if_pos e] at h; exact h
  ·rename_i e; rw [if_neg e] at h; exact ih h
theorem XX {σ:ag} {b:Nat} {a x:AV} {t:Bs} (hb:look σ.m b=some (.own [a,x])) (aN:b < σ.next) (ht:σ.tagged b tyB=true) (hx:FM σ x t) (hn: ∀c n,x= .sl c 0 n 1 none->c≠b) (u:Bs) (hu:0 < u.length) (hl:t.length+u.length < 1099511627776) :
  ∃y σ',jt σ tyU 1 1 x (af u) u.length=some (y,σ')/\look σ'.m b=some (.own [a,x])/\b < σ'.next/\σ'.tagged b tyB=true/\FM σ' y (t ++u)/\∀c n,y= .sl c 0 n 1 none->c≠b:=by
 rcases hx with ⟨rfl,rfl⟩ | ⟨c,rfl,h1,h2,h3,h4⟩
 ·have q:aJ σ 1 1 .nils (af u) u.length=some (.sl σ.next 0 u.length 1 none,σ.alloc (af u)):=by
   unfold aJ
   simp only [lenOf,Nat.zero_add]
   rw [if_pos ⟨by decide,by decide,by unfold bg; simp at hl; omega,by rw [aU]; omega,cI u⟩,if_neg aa]
  have fX: ¬σ.next=b:=by omega
  refine ⟨.sl σ.next 0 u.length 1 none,(σ.alloc (af u)).addTag σ.next tyU,?_,?_,?_,?_, .inr ⟨σ.next,rfl,?_,?_,hu,A4⟩,?_⟩
  ·unfold jt
   rw [if_neg aa]
   simp only [q,Option.map_some]
  ·exact sG (by simp [ag.alloc,look,fX,hb])
  ·simp only [ag.addTag,ag.alloc]; omega
  ·exact Ju (mY ht _)
  ·exact sG (by simp [ag.alloc,look])
  ·simp only [ag.addTag,ag.alloc]; omega
  ·intro c n e; cases e; exact fX
 ·obtain ⟨σ',q1,q2,q3,q4⟩:=gp (σ:=σ) (sz:=1) (bytes:=1) (n:=t.length) (k:=u.length) (ob:=some c) (cells:=af t) (new:=af u) ⟨h1,by rw [aU]; omega,h2,h3⟩ (by decide) (by decide) (by unfold bg; omega) (by rw [aU]; omega) (cI u) hu
  have q5:σ'=(σ.set c .dead).alloc (af t ++af u):=by
   have ho:σ.owned c=some (af t):=by unfold ag.owned ag.get; rw [h1]
   have:aJ σ 1 1 (.sl c 0 t.length 1 none) (af u) u.length=some (.sl σ.next 0 (t.length+u.length) 1 none,(σ.set c .dead).alloc (af t ++af u)):=by
    unfold aJ
    simp only [lenOf]
    rw [if_pos ⟨by decide,by decide,by unfold bg; omega,by rw [aU]; omega,cI u⟩]
    simp only [if_true,ho]
    rw [if_neg aa,if_pos (by rw [aU]; omega),List.drop_zero]
   rw [show iA 1 (some c) t.length= .sl c 0 t.length 1 none from rfl,this] at q1
   simp only [ah,aI] at q1
   exact q1.2.symm
  have hcb:c≠b:=hn c _ rfl
  have fX: ¬σ.next=b:=by omega
  refine ⟨.sl σ.next 0 (t.length+u.length) 1 none,σ'.addTag σ.next tyU,?_,?_,?_,?_, .inr ⟨σ.next,by rw [az],?_,?_,by rw [az]; omega,A4⟩,?_⟩
  ·unfold jt
   rw [if_neg aa]
   simp only [h4,if_true]
   rw [show aJ σ 1 1 (.sl c 0 t.length 1 none) (af u) u.length=some (.sl σ.next 0 (t.length+u.length) 1 none,σ') from q1,Option.map_some]
  ·refine sG ?_
   have:=q4 b aN (fun e=>hcb (br e))
   unfold ag.get at this; rw [this]; exact hb
  ·simp only [ag.addTag]; omega
  ·refine Ju ?_
   rw [q5]; exact mY (n:=σ.next) (mY (n:=σ.next) ht _) _
  ·refine sG ?_
   rw [kB]; exact q2.1
  ·simp only [ag.addTag]; omega
  ·intro c' n e; cases e; exact fX
theorem UR (σ:ag) (b:Nat) (a x:AV) (h:look σ.m b=some (.own [a,x])) (ht:σ.tagged b tyB=true):yO σ tyB 2 (.ptr b 0)=some (.ptr b 0,σ):=by
 have ho:σ.owned b=some [a,x]:=by unfold ag.owned ag.get; rw [h]
 simp [yO,ht,ho]
def Q7Fc:= @F371.eq_1
def Q7Fd:=J @IE.eq_1 (J @Cs.eq_1 (J @KW.eq_1 (@YQ.eq_1)))
def Q7Fg:= @YO.eq_1
def Bl1 (σ:ag) (b:Nat) (x:AV) (t:Bs):Prop:=look σ.m b=some (.own [.ptr b 0,x])/\σ.tagged b tyB=true/\b < σ.next/\FM σ x t/\∀c n,x= .sl c 0 n 1 none->c≠b
theorem Bl1.bld {σ:ag} {b:Nat} {x:AV} {t:Bs} (h:Bl1 σ b x t):N7 σ b t:=⟨_,x,h.1, .inr rfl,h.2.1,h.2.2.1,h.2.2.2.1,h.2.2.2.2⟩
theorem JW {σ:ag} {b:Nat} {x:AV} {t:Bs} {e:jS} (h:FM σ x t) (hn: ∀c n,x= .sl c 0 n 1 none->c≠b):FM { σ with m:=(b,e) ::σ.m } x t:=by
 rcases h with ⟨rfl,rfl⟩ | ⟨c,rfl,h1,h2,h3,h4⟩
 ·exact .inl ⟨rfl,rfl⟩
 ·have hc:=hn c _ rfl
  refine .inr ⟨c,rfl,?_,h2,h3,mY (n:=σ.next) h4 _⟩
  have: ¬b=c:=fun e=>hc e.symm
  simp [look,this,h1]
theorem Kz {σ:ag} {b:Nat} {t:Bs} (h:N7 σ b t): ∃σ' x,cf cF gU (.fn 387 [] []) [.ptr b 0] σ=some (.tup [],σ')/\Bl1 σ' b x t:=by
 obtain ⟨a,x,h1,ha,h2,h3,h4,h5⟩:=h
 have hc:(σ.cells b).isSome=true:=by unfold ag.cells ag.get; rw [h1]; rfl
 rcases ha with rfl | rfl
 ·have uj:=UR σ b _ x h1 h2
  refine ⟨{ σ with m:=(b, .own [.ptr b 0,x]) ::σ.m },x,?_,by simp [look],mY (n:=σ.next) h2 _,h3,JW h4 h5,h5⟩
  refine gy (F:=YO) rfl ?_
  have hsm:c9 .same [.ptr b 0]=some (.ptr b 0):=rfl
  simp only [Q7Fg,ax,seval,ae,cy,h1,uj,hsm]
 ·have heq:AE σ true (.ptr b 0) (.ptr b 0)=some (.bool false):=by simp [AE,hc]
  refine ⟨σ,x,?_,h1,h2,h3,h4,h5⟩
  refine gy (F:=YO) rfl ?_
  simp only [Q7Fg,ax,seval,ae,cy,h1,heq]
theorem FM.cells {σ:ag} {x:AV} {t:Bs} (h:FM σ x t):x.cells= [x]/\AV.one x=true:=by
 rcases h with ⟨_,rfl⟩ | ⟨c,rfl,_⟩ <;> exact ⟨rfl,rfl⟩
theorem KH {σ:ag} {b:Nat} {x:AV} {t:Bs} (h:Bl1 σ b x t) (u:Bs) (hu:0 < u.length) (hl:t.length+u.length < 1099511627776) :
  ∃y σ',jt σ tyU 1 1 x (af u) u.length=some (y,σ')/\look σ'.m b=some (.own [.ptr b 0,x])/\Bl1 { σ' with m:=(b, .own [.ptr b 0,y]) ::σ'.m } b y (t ++u):=by
 obtain ⟨y,σ',q1,q2,q3,q4,q5,q6⟩:=XX h.1 h.2.2.1 h.2.1 h.2.2.2.1 h.2.2.2.2 u hu hl
 exact ⟨y,σ',q1,q2,by simp [look],mY (n:=σ'.next) q4 _,q3,JW q5 q6,q6⟩
theorem oE {σ:ag} {b:Nat} {t:Bs} (h:N7 σ b t) (c:UInt8) (hl:t.length+1 < 1099511627776): ∃r σ',cf cF gU (.fn 370 [] []) [.ptr b 0, .int .u8 (c.toNat:Int)] σ=some (r,σ')/\N7 σ' b (t ++ [c]):=by
 obtain ⟨σ1,x,c1,c2⟩:=Kz h
 obtain ⟨y,σ2,e1,e2,e3⟩:=KH c2 [c] (by simp) (by simpa using hl)
 have hr {e:aD}:rowOf σ1 1 (.vsl [.int .u8 (c.toNat:Int)] e)=some [.int .u8 (c.toNat:Int)]:=rfl
 have e1':jt σ1 tyU 1 1 x [.int .u8 (c.toNat:Int)] 1=some (y,σ2):=e1
 have g1:=c2.1
 obtain ⟨yc,y1⟩:=e3.2.2.2.1.cells
 have hp:gG (.appT 5 1 1 false) σ1 [x, .vsl [.int .u8 (c.toNat:Int)] (some 1)]=some (y,σ2):=by
  simp [gG,lenOf,hr,isStr,e1']
 refine gk (F:=F370) rfl ?_
 simp only [F370,ax,seval,ae,cy,c1,g1,hp,e2,yc,y1]
 exact ⟨_,rfl,e3.bld⟩
theorem c_wStr {σ:ag} {b:Nat} {t:Bs} (h:N7 σ b t) (u:Bs) (hu:0 < u.length) (hl:t.length+u.length < 1099511627776): ∃r σ',cf cF gU (.fn 389 [] []) [.ptr b 0, .str u] σ=some (r,σ')/\N7 σ' b (t ++u):=by
 obtain ⟨σ1,x,c1,c2⟩:=Kz h
 obtain ⟨y,σ2,e1,e2,e3⟩:=KH c2 u hu hl
 have g1:=c2.1
 obtain ⟨yc,y1⟩:=e3.2.2.2.1.cells
 refine gk (F:=F389) rfl ?_
 simp only [F389,ax,seval,ae,cy,c1,g1,e1,e2,yc,y1]
 exact ⟨_,rfl,e3.bld⟩
theorem c_wPut {σ:ag} {b:Nat} {t:Bs} (h:N7 σ b t) (c:UInt8) (hl:t.length+6 < 1099511627776): ∃r σ',cf cF gU (.fn 371 [.ptr b 0] []) [.int .u8 (c.toNat:Int)] σ=some (r,σ')/\N7 σ' b (t ++fT c):=by
 have hs:=Vm c
 refine gk (F:=F371) rfl ?_
 rcases Nt c with ⟨h0,e⟩ | ⟨h0,h8,e⟩ | ⟨h0,h8,e⟩
 ·have fX:(((lg c).toNat:Int) != 0)=true:=by
   rw [bne_iff_ne]; intro k; exact h0 (UInt8.toNat.inj (by show (lg c).toNat=0; omega))
  obtain ⟨r1,σ1,a1,a2⟩:=oE h 92 aa
  obtain ⟨r2,σ2,b1,b2⟩:=oE a2 (lg c) (by rw [az]; simp only [List.length_cons,List.length_nil]; omega)
  rw [show (((92:UInt8).toNat:Nat):Int)=92 from rfl] at a1
  rw [e]
  simp only [Q7Fc,ax,seval,ae,cy,hs,fX,a1,b1]
  exact ⟨_,rfl,by simpa [bf] using b2⟩
 ·have fX:((((0:UInt8).toNat:Nat):Int) != 0)=false:=rfl
  rw [h0] at hs
  have aN:decide ((c.toNat:Int) < 32)=true:=decide_eq_true (by have:=UInt8.lt_iff_toNat_lt.1 h8; have:(32:UInt8).toNat=32:=rfl; omega)
  have uh:=QU c
  have nt:=QT c
  rw [show EX= [48,49,50,51,52,53,54,55,56,57,97,98,99,100,101,102] from rfl] at uh nt
  have od:aY .shr .u8 (c.toNat:Int) 4=some (.int .u8 ((c.toNat / 16:Nat):Int)):=U1 c.toNat 4 (by decide)
  have h15:=Tg c
  obtain ⟨r1,σ1,a1,a2⟩:=c_wStr h [92,117,48,48] (by decide) (by simp only [List.length_cons,List.length_nil]; omega)
  obtain ⟨r2,σ2,b1,b2⟩:=oE a2 (qC (c >>> 4)) (by rw [az]; simp only [List.length_cons,List.length_nil]; omega)
  obtain ⟨r3,σ3,d1,d2⟩:=oE b2 (qC (c &&& 15)) (by simp only [az,List.length_cons,List.length_nil]; omega)
  rw [e]
  simp only [Q7Fc,ax,seval,ae,cy,hs,fX,aN,a1,od,h15,uh,nt,b1,d1]
  exact ⟨_,rfl,by simpa [bf] using d2⟩
 ·have fX:((((0:UInt8).toNat:Nat):Int) != 0)=false:=rfl
  rw [h0] at hs
  have aN:decide ((c.toNat:Int) < 32)=false:=decide_eq_false (fun k=>h8 (UInt8.lt_iff_toNat_lt.2 (by have:(32:UInt8).toNat=32:=rfl; omega)))
  obtain ⟨r1,σ1,a1,a2⟩:=oE h c aa
  rw [e]
  simp only [Q7Fc,ax,seval,ae,cy,hs,fX,aN,a1]
  exact ⟨_,rfl,a2⟩
theorem XQ {σ:ag} {b:Nat} {t:Bs} (h:N7 σ b t) (s:Bs) (hl:t.length+6*s.length+6 < 1099511627776): ∃r σ',cf cF gU (.fn 372 [] []) [.str s, .fn 371 [.ptr b 0] []] σ=some (r,σ')/\N7 σ' b (t ++s.flatMap fT):=by
 refine gk (F:=YQ) rfl ?_
 simp only [IE,Cs,YQ,ax,seval,ae,ay]
 refine aL (S:=Nat) (fun j=> [(0, .str s),(1, .fn 371 [.ptr b 0] []),(6, .int .i64 s.length),(7, .int .i64 (j:Int))]) (fun j=>s.length - j)
  (fun j σ=>N7 σ b (t ++(s.take j).flatMap fT)/\j<=s.length) ?_ 0 _ ⟨by simpa using h,Nat.zero_le _⟩
 rintro B j σ1 ⟨g1,g2⟩ ih
 by_cases hj:j=s.length
 ·subst hj
  rw [List.take_length] at g1
  have d1:=lT (aE s.length)
  simp only [Q7Fd,ax,seval,ae,d1]
  exact ⟨_,rfl,g1⟩
 ·have aN:j < s.length:=by omega
  obtain ⟨c,hc⟩:=bM aN
  have d1:=lS aN
  have F4:cC (.str s) (.int .i64 (j:Int))=some (.int .u8 (c.toNat:Int)):=oH hc
  have hw:=cd aN aa
  have he:=Fj hc
  have hle:=BO (s.take j)
  rw [bE,Nat.min_eq_left g2] at hle
  obtain ⟨r1,σ2,a1,a2⟩:=c_wPut g1 c (by rw [az]; omega)
  simp only [Q7Fd,ax,seval,ae,d1,F4,a1,hw]
  exact ih (j+1) _ _ aa ⟨by rw [he,←bf]; exact a2,aN⟩ rfl
theorem NP {σ:ag} {b:Nat} {t:Bs} (h:N7 σ b t) (h0:0 < t.length) (hl:t.length < 1099511627776): ∃r σ',cf cF gU (.fn 373 [] []) [.ptr b 0] σ=some (r,σ')/\r= .str t:=by
 obtain ⟨a,x,h1,ha,h2,h3,h4,h5⟩:=h
 rcases h4 with ⟨rfl,rfl⟩ | ⟨c,rfl,k1,k2,k3,k4⟩
 ·simp at h0
 have ho:σ.owned c=some (af t):=by unfold ag.owned ag.get; rw [k1]
 have hb:bytesOf (af t)=some t:=lJ t
 have tq:(af t).take t.length=af t:=aQ (by rw [aU]; exact aE _)
 have hle:t.length<=(af t).length:=by rw [aU]; exact aE _
 have hu:qS σ tyU (.ptr c 0) (t.length:Int)=some (.str t,σ.set c .dead):=by
  simp only [qS,Int.toNat_natCast,Nat.zero_add,List.drop_zero]
  rw [if_pos ⟨k4,by omega,by omega⟩]
  simp only [ho,if_pos hle,tq,hb]
 have hs:rW (.sl c 0 t.length 1 none)=some (.ptr c 0):=by simp only [rW,if_pos h0]
 refine gk (F:=F373) rfl ?_
 simp only [F373,ax,seval,ae,cy,h1,hs,hu]
 exact ⟨_,rfl,rfl⟩
theorem Vv {s:Bs} (hv:vu s=true) (hn:s.length < 100000000000):cR 339 [.str s]=some (.tup [.str (dw s), .int .i64 0]):=by
 have hg:=Bg s
 rw [hv] at hg
 have b0:N7 ((ag.alloc ⟨0, []⟩ [.lit (.pointer none), .nils]).addTag 0 tyB) 0 []:=
  ⟨.lit (.pointer none), .nils,rfl, .inl rfl,A4,aR _, .inl ⟨rfl,rfl⟩,fun c n e=>by cases e⟩
 obtain ⟨r1,σ1,a1,a2⟩:=oE b0 34 (by decide)
 obtain ⟨r2,σ2,b1,b2⟩:=XQ a2 s (by simp only [az,List.length_cons,List.length_nil]; omega)
 have hle:=BO s
 obtain ⟨r3,σ3,d1,d2⟩:=oE b2 34 (by simp only [az,List.length_cons,List.length_nil]; omega)
 have hq: [] ++ [34] ++s.flatMap fT ++ [34]=dw s:=by simp [dw]
 rw [hq] at d2
 obtain ⟨r4,σ4,f1,rfl⟩:=NP d2 (by simp [dw]) (by have:=tW s; omega)
 rw [show (((34:UInt8).toNat:Nat):Int)=34 from rfl] at a1 d1
 simp only [ag.alloc,ag.addTag,List.cons_append,List.nil_append,Nat.zero_add] at a1
 refine aC (F:=F339) rfl ?_
 simp only [F339,ax,seval,ae,cy,hg,AV.known,ag.alloc,ag.addTag,a1,b1,d1,f1]
def Q8Fc:= @F368.eq_1
def Q8Fd:= @F369.eq_1
def mA (σ:ag) (x:AV) (y:AV) (σ':ag) (s:Bs):Prop:=iT σ' y s/\σ.next<=σ'.next/\(∀c n,y= .sl c 0 n 1 none->σ.next<=c)/\∀j,j < σ.next->(∀c n,x= .sl c 0 n 1 none->j≠c)->look σ'.m j=look σ.m j
theorem wrote {σ:ag} {x:AV} {s:Bs} (h:iT σ x s) (t:Bs) (ht:0 < t.length) (hl:s.length+t.length < 1099511627776) :
  ∃y σ',aJ σ 1 1 x (af t) t.length=some (y,σ')/\mA σ x y σ' (s ++t):=by
 obtain ⟨σ',q1,q2,q3,q4⟩:=Bl h t ht hl
 refine ⟨_,σ',q1,iT.of q2 (by rw [az]) (by rw [q3]; exact aR _) (by rw [az]; omega),by omega,?_,q4⟩
 intro c n e; cases e; exact aE _
theorem mA.trans {σ:ag} {x y:AV} {σ':ag} {s:Bs} (h:mA σ x y σ' s) {z:AV} {σ'':ag} {t:Bs} (g:mA σ' y z σ'' t):mA σ x z σ'' t:=by
 obtain ⟨h1,h2,h3,h4⟩:=h
 obtain ⟨g1,g2,g3,g4⟩:=g
 refine ⟨g1,by omega,fun c n e=>by have:=g3 c n e; omega,fun j hj hx=> ?_⟩
 rw [g4 j aa (fun c n e=>by have:=h3 c n e; omega),h4 j hj hx]
theorem NQ {σ:ag} {x:AV} {s:Bs} (h:iT σ x s) (b:Bool) (hl:s.length+5 < 1099511627776) :
  ∃y σ',cf cF gU (.fn 337 [] []) [x, .bool b] σ=some (y,σ')/\mA σ x y σ' (s ++if b=true then [116,114,117,101] else [102,97,108,115,101]):=by
 have key: ∃y σ',cf cF gU (.fn 368 [] []) [x, .bool b] σ=some (y,σ')/\mA σ x y σ' (s ++if b=true then [116,114,117,101] else [102,97,108,115,101]):=by
  refine gk (F:=F368) rfl ?_
  cases b
  ·obtain ⟨y,σ',p1,p2⟩:=wrote h [102,97,108,115,101] (by decide) hl
   have We:aJ σ 1 1 x (af [102,97,108,115,101]) 5=some (y,σ'):=p1
   simp only [Q8Fc,ax,seval,ae,We]
   exact ⟨_,rfl,p2⟩
  ·obtain ⟨y,σ',p1,p2⟩:=wrote h [116,114,117,101] (by decide) (by simp only [List.length_cons,List.length_nil]; omega)
   have We:aJ σ 1 1 x (af [116,114,117,101]) 4=some (y,σ'):=p1
   simp only [Q8Fc,ax,seval,ae,We]
   exact ⟨_,rfl,p2⟩
 obtain ⟨y,σ',k1,k2⟩:=key
 refine gk (F:=F337) rfl ?_
 simp only [F337,ax,seval,ae,k1]
 exact ⟨_,rfl,k2⟩
def F0 (n:Int):Prop:=∀(σ:ag) (x:AV) (s:Bs),iT σ x s->s.length+25 < 1099511627776->
 ∃y σ',cf cF gU (.fn 338 [] []) [x, .int .i64 n, .int .i64 10] σ=some (y,σ')/\mA σ x y σ' (s ++lH n)
def XK (n:Nat):Bs:=if n < 10 then [UInt8.ofNat (48+n)] else [UInt8.ofNat (48+n / 10),UInt8.ofNat (48+n % 10)]
theorem SA {n:Nat} (h:n < 100):dQ n=XK n:=by
 unfold XK
 split
 ·rename_i h1; exact mq h1
 ·rename_i h1; rw [qh aa,mq aa]; rfl
theorem Vj {n:Nat} (h:n < 100):cR 393 [.int .i64 (n:Int)]=some (.str (dQ n)):=by
 have k:((List.range 100).all fun n=>match (dj cF (run cF gU 100) (.fn 393 [] []) [.int .i64 (n:Int)] .empty).bind (fun x=>rbE x.2 x.1) with | some (.str s)=>s == XK n | _=>false)=true:=by kernel_rfl
 have g:=bj.1 k n (List.mem_range.2 h)
 refine cQ 100 ?_
 split at g
 ·rename_i s e; rw [e,eq_of_beq g,SA h]
 ·cases g
theorem HY {σ:ag} {x:AV} {s:Bs} (h:iT σ x s) {n:Nat} (hn:n < 100) (hl:s.length+24 < 1099511627776) :
  ∃y σ',cf cF gU (.fn 386 [] []) [x, .int .u64 (n:Int), .int .i64 10] σ=some (y,σ')/\mA σ x y σ' (s ++dQ n):=by
 have hs:=Vj hn
 have hle:(dQ n).length<=2:=kp 1 n aa
 have Ho:0 < (dQ n).length:=by rw [SA hn]; unfold XK; split <;> simp
 obtain ⟨y,σ',p1,p2⟩:=wrote h (dQ n) Ho aa
 have aN:decide ((n:Int) < 100)=true:=decide_eq_true aa
 have hw:IntKind.wrap .i64 (n:Int)=(n:Int):=aP aa aa
 refine gk (F:=TR) rfl ?_
 simp only [Cj,TR,ax,seval,ae,aN,hw,hs,p1]
 exact ⟨_,rfl,p2⟩
theorem Yx {n:Int} (h1: -9223372036854775808 < n) (h2:n < 9223372036854775808)
  (hU: ∀(σ:ag) (x:AV) (s:Bs),iT σ x s->s.length+24 < 1099511627776->∃y σ',cf cF gU (.fn 386 [] []) [x, .int .u64 (n.natAbs:Int), .int .i64 10] σ=some (y,σ')/\mA σ x y σ' (s ++dQ n.natAbs)) (σ:ag) (x:AV) (s:Bs)
  (h:iT σ x s) (hl:s.length+25 < 1099511627776): ∃y σ',cf cF gU (.fn 338 [] []) [x, .int .i64 n, .int .i64 10] σ=some (y,σ')/\mA σ x y σ' (s ++lH n):=by
 have hu:=Zn n aa h2
 have key: ∃y σ',cf cF gU (.fn 369 [] []) [x, .int .i64 n, .int .i64 10] σ=some (y,σ')/\mA σ x y σ' (s ++lH n):=by
  refine gk (F:=F369) rfl ?_
  by_cases oT:n < 0
  ·have d0:decide (n < 0)=true:=decide_eq_true oT
   rw [if_pos oT] at hu
   have hm:IntKind.wrap .u64 (0 - (18446744073709551616+n))=((n.natAbs:Nat):Int):=by
    simp only [IntKind.wrap,IntKind.bits,IntKind.signed,Bool.false_and,aX,if_false]
    show (0 - (18446744073709551616+n)) % 18446744073709551616=_
    omega
   have r45 {σ:ag} {c:aD}:rowOf σ 1 (.vsl [.int .u8 45] c)=some [.int .u8 45]:=rfl
   obtain ⟨y1,σ1,p1,p2⟩:=wrote h [45] (by decide) (by simp only [List.length_cons,List.length_nil]; omega)
   rw [show af [45]= [.int .u8 45] from rfl,show ([45] :Bs).length=1 from rfl] at p1
   obtain ⟨y2,σ2,e1,e2⟩:=hU σ1 y1 _ p2.1 (by simp only [az,List.length_cons,List.length_nil]; omega)
   have hd:lH n=45 ::dQ n.natAbs:=by unfold lH; rw [if_pos oT]
   simp only [Q8Fd,ax,seval,ae,hu,d0,hm,lenOf,r45,p1,e1]
   exact ⟨_,rfl,by rw [hd]; simpa [bf] using p2.trans e2⟩
  ·have d0:decide (n < 0)=false:=decide_eq_false oT
   rw [if_neg oT] at hu
   have hu':IntKind.wrap .u64 n=((n.natAbs:Nat):Int):=by rw [hu]; omega
   obtain ⟨y2,σ2,e1,e2⟩:=hU σ x _ h aa
   have hd:lH n=dQ n.natAbs:=by unfold lH; rw [if_neg oT]
   simp only [Q8Fd,ax,seval,ae,hu',d0,e1]
   exact ⟨_,rfl,by rw [hd]; exact e2⟩
 obtain ⟨y,σ',k1,k2⟩:=key
 refine gk (F:=F338) rfl ?_
 simp only [F338,ax,seval,ae,k1]
 exact ⟨_,rfl,k2⟩
theorem yM (n:Nat):0 < (dQ n).length:=by
 by_cases h:n < 10
 ·rw [mq h]; simp
 ·rw [qh aa]; simp
theorem BS: ∀k n:Nat,10 ^ k<=n->k+1<=(dQ n).length
 | 0,n,_=>yM n
 | k+1,n,h=>by
  have h1:10<=n:=by rw [Nat.pow_succ] at h; have:=Nat.pow_pos (n:=k) (show 0 < 10 by decide); omega
  have:=BS k (n / 10) (by rw [Nat.pow_succ] at h; omega)
  rw [qh h1,az]; simp only [List.length_cons,List.length_nil]; omega
theorem vw {k n:Nat} (h1:10 ^ k<=n) (h2:n < 10 ^ (k+1)):(dQ n).length=k+1:=by
 have:=BS k n h1
 have:=kp k n h2
 omega
def gn (x:Nat):Nat:=if x=0 then 0 else Nat.log2 x+1
theorem rE (x k:Nat) (h:2 ^ k<=x):gn x=gn (x / 2 ^ k)+k:=by
 unfold gn
 have hx:x≠0:=by have:=Nat.pow_pos (n:=k) (show 0 < 2 by decide); omega
 have hq:x / 2 ^ k≠0:=by
  have:=Nat.div_pos h (Nat.pow_pos (show 0 < 2 by decide)); omega
 rw [if_neg hx,if_neg hq]
 have h1:Nat.log2 (x / 2 ^ k)=Nat.log2 x - k:=by
  apply (Nat.log2_eq_iff hq).2
  have a1:=(Nat.log2_eq_iff hx).1 rfl
  have hk:k<=Nat.log2 x:=(Nat.le_log2 hx).2 h
  obtain ⟨m,hm⟩ : ∃m,Nat.log2 x=m+k:=⟨Nat.log2 x - k,by omega⟩
  rw [hm] at a1 ⊢
  rw [show m+k - k=m by omega]
  refine ⟨(Nat.le_div_iff_mul_le (Nat.pow_pos (show 0 < 2 by decide))).2 (by rw [←Nat.pow_add]; exact a1.1),Nat.div_lt_of_lt_mul (by rw [←Nat.pow_add,show k+(m+1)=m+k+1 by omega]; exact a1.2)⟩
 have hk:k<=Nat.log2 x:=(Nat.le_log2 hx).2 h
 omega
def vE:= @F399.eq_1
def WL:Bs:= [0,1,2,2,3,3,3,3,4,4,4,4,4,4,4,4,5,5,5,5,5,5,5,5,5,5,5,5,5,5,5,5,6,6,6,6,6,6,6,6,6,6,6,6,6,6,6,6,6,6,6,6,6,6,6,6,6,6,6,6,6,6,6,6,7,7,7,7,7,7,7,7,7,7,7,7,7,7,7,7,7,7,7,7,7,7,7,7,7,7,7,7,7,7,7,7,7,7,7,7,7,7,7,7,7,7,7,7,7,7,7,7,7,7,7,7,7,7,7,7,7,7,7,7,7,7,7,7,8,8,8,8,8,8,8,8,8,8,8,8,8,8,8,8,8,8,8,8,8,8,8,8,8,8,8,8,8,8,8,8,8,8,8,8,8,8,8,8,8,8,8,8,8,8,8,8,8,8,8,8,8,8,8,8,8,8,8,8,8,8,8,8,8,8,8,8,8,8,8,8,8,8,8,8,8,8,8,8,8,8,8,8,8,8,8,8,8,8,8,8,8,8,8,8,8,8,8,8,8,8,8,8,8,8,8,8,8,8,8,8,8,8,8,8,8,8,8,8,8,8,8,8,8,8,8,8]
theorem WK {n:Nat} (h:n < 256):WL[n]? =some (UInt8.ofNat (gn n)):=by
 have k:((List.range 256).all fun n=>WL[n]? == some (UInt8.ofNat (gn n)))=true:=by decide+kernel
 exact eq_of_beq (bj.1 k n (List.mem_range.2 h))
theorem SZ {n:Nat} (h:n < 256):gn n<=8:=by
 have k:((List.range 256).all fun n=>decide (gn n<=8))=true:=by decide+kernel
 exact of_decide_eq_true (bj.1 k n (List.mem_range.2 h))
theorem OY (n k:Nat) (hk:k < 64):aY .shr .u64 (n:Int) (k:Int)=some (.int .u64 ((n / 2 ^ k:Nat):Int)):=by
 unfold aY
 rw [if_neg aa]
 show some (AV.int .u64 ((n:Int).fdiv (2 ^ (min (k:Int).toNat (IntKind.bits .u64)))))=_
 have e:min (k:Int).toNat (IntKind.bits .u64)=k:=by
  show min k 64=k; omega
 rw [e,show ((2:Int) ^ k)=((2 ^ k:Nat):Int) by simp,Int.fdiv_eq_ediv_of_nonneg _ (Int.natCast_nonneg _),←Int.natCast_ediv]
theorem VJ {x:Nat} (hx:x < 18446744073709551616):cR 399 [.int .u64 (x:Int)]=some (.int .i64 (gn x:Nat)):=by
 have ZB (n:Nat):aY .shr .u64 (n:Int) 32=some (.int .u64 ((n / 4294967296:Nat):Int)):=OY n 32 (by decide)
 have ZC (n:Nat):aY .shr .u64 (n:Int) 16=some (.int .u64 ((n / 65536:Nat):Int)):=OY n 16 (by decide)
 have s8 (n:Nat):aY .shr .u64 (n:Int) 8=some (.int .u64 ((n / 256:Nat):Int)):=OY n 8 (by decide)
 have fin: ∀(y m:Nat),y < 256->m<=56->cC (.str WL) (.int .u8 (y:Int))=some (.int .u8 ((UInt8.ofNat (gn y)).toNat:Int))/\IntKind.wrap .u8 (y:Int)=(y:Int)/\IntKind.wrap .i64 ((UInt8.ofNat (gn y)).toNat:Int)=(gn y:Int)/\IntKind.wrap .i64 ((m:Int)+(gn y:Int))=((m+gn y:Nat):Int):=fun y m hy hm=>by
  have h8:=SZ hy
  have e:(UInt8.ofNat (gn y)).toNat=gn y:=by rw [dF,aO aa]
  refine ⟨oH (WK hy),by rw [kY]; omega,by rw [e]; exact aP aa aa,by rw [aP aa aa]; omega⟩
 refine aC (F:=F399) rfl ?_
 have e1 (h:4294967296<=x):gn x=32+gn (x / 4294967296):=by have:=rE x 32 h; rw [show (2:Nat) ^ 32=4294967296 from rfl] at this; omega
 have e2 (y:Nat) (h:65536<=y):gn y=16+gn (y / 65536):=by have:=rE y 16 h; rw [show (2:Nat) ^ 16=65536 from rfl] at this; omega
 have e3 (y:Nat) (h:256<=y):gn y=8+gn (y / 256):=by have:=rE y 8 h; rw [show (2:Nat) ^ 8=256 from rfl] at this; omega
 unfold WL at fin
 have w8:IntKind.wrap .i64 8=8:=rfl
 have Zu:IntKind.wrap .i64 16=16:=rfl
 have Zt:IntKind.wrap .i64 24=24:=rfl
 have Zs:IntKind.wrap .i64 40=40:=rfl
 have Zr:IntKind.wrap .i64 48=48:=rfl
 have Zq:IntKind.wrap .i64 56=56:=rfl
 by_cases c1:4294967296<=x
 ·have d1:decide ((x:Int)≥4294967296)=true:=decide_eq_true aa
  rw [e1 c1]
  generalize hy:x / 4294967296=y at*
  have hyb:y < 4294967296:=by omega
  by_cases c2:65536<=y
  ·have d2:decide ((y:Int)≥65536)=true:=decide_eq_true aa
   rw [e2 y c2]
   generalize hz:y / 65536=z at*
   by_cases c3:256<=z
   ·have d3:decide ((z:Int)≥256)=true:=decide_eq_true aa
    obtain ⟨f1,f2,f3,f4⟩:=fin (z / 256) 56 aa (by decide)
    rw [e3 z c3]
    rw [show ((56:Nat):Int)=56 from rfl] at f4
    simp only [vE,ax,seval,ae,w8,Zu,Zt,Zs,Zr,Zq,d1,d2,d3,ZB,ZC,s8,hy,hz,f1,f2,f3,f4]
    rw [show 32+(16+(8+gn (z / 256)))=56+gn (z / 256) by omega]
   ·have d3:decide ((z:Int)≥256)=false:=decide_eq_false aa
    obtain ⟨f1,f2,f3,f4⟩:=fin z 48 aa (by decide)
    rw [show ((48:Nat):Int)=48 from rfl] at f4
    simp only [vE,ax,seval,ae,w8,Zu,Zt,Zs,Zr,Zq,d1,d2,d3,ZB,ZC,s8,hy,hz,f1,f2,f3,f4]
    rw [show 32+(16+gn z)=48+gn z by omega]
  ·have d2:decide ((y:Int)≥65536)=false:=decide_eq_false aa
   by_cases c3:256<=y
   ·have d3:decide ((y:Int)≥256)=true:=decide_eq_true aa
    obtain ⟨f1,f2,f3,f4⟩:=fin (y / 256) 40 aa (by decide)
    rw [e3 y c3]
    rw [show ((40:Nat):Int)=40 from rfl] at f4
    simp only [vE,ax,seval,ae,w8,Zu,Zt,Zs,Zr,Zq,d1,d2,d3,ZB,ZC,s8,hy,f1,f2,f3,f4]
    rw [show 32+(8+gn (y / 256))=40+gn (y / 256) by omega]
   ·have d3:decide ((y:Int)≥256)=false:=decide_eq_false aa
    obtain ⟨f1,f2,f3,f4⟩:=fin y 32 aa (by decide)
    rw [show ((32:Nat):Int)=32 from rfl] at f4
    simp only [vE,ax,seval,ae,w8,Zu,Zt,Zs,Zr,Zq,d1,d2,d3,ZB,ZC,s8,hy,f1,f2,f3,f4]
 ·have d1:decide ((x:Int)≥4294967296)=false:=decide_eq_false aa
  by_cases c2:65536<=x
  ·have d2:decide ((x:Int)≥65536)=true:=decide_eq_true aa
   rw [e2 x c2]
   generalize hz:x / 65536=z at*
   by_cases c3:256<=z
   ·have d3:decide ((z:Int)≥256)=true:=decide_eq_true aa
    obtain ⟨f1,f2,f3,f4⟩:=fin (z / 256) 24 aa (by decide)
    rw [e3 z c3]
    rw [show ((24:Nat):Int)=24 from rfl] at f4
    simp only [vE,ax,seval,ae,w8,Zu,Zt,Zs,Zr,Zq,d1,d2,d3,ZB,ZC,s8,hz,f1,f2,f3,f4]
    rw [show 16+(8+gn (z / 256))=24+gn (z / 256) by omega]
   ·have d3:decide ((z:Int)≥256)=false:=decide_eq_false aa
    obtain ⟨f1,f2,f3,f4⟩:=fin z 16 aa (by decide)
    rw [show ((16:Nat):Int)=16 from rfl] at f4
    simp only [vE,ax,seval,ae,w8,Zu,Zt,Zs,Zr,Zq,d1,d2,d3,ZB,ZC,s8,hz,f1,f2,f3,f4]
  ·have d2:decide ((x:Int)≥65536)=false:=decide_eq_false aa
   by_cases c3:256<=x
   ·have d3:decide ((x:Int)≥256)=true:=decide_eq_true aa
    obtain ⟨f1,f2,f3,f4⟩:=fin (x / 256) 8 aa (by decide)
    rw [e3 x c3]
    rw [show ((8:Nat):Int)=8 from rfl] at f4
    simp only [vE,ax,seval,ae,w8,Zu,Zt,Zs,Zr,Zq,d1,d2,d3,ZB,ZC,s8,f1,f2,f3,f4]
   ·have d3:decide ((x:Int)≥256)=false:=decide_eq_false aa
    obtain ⟨f1,f2,f3,f4⟩:=fin x 0 aa (by decide)
    rw [show ((0:Nat):Int)=0 from rfl] at f4
    simp only [vE,ax,seval,ae,w8,Zu,Zt,Zs,Zr,Zq,d1,d2,d3,ZB,ZC,s8,f1,f2,f3,f4]
theorem Vx {L:Nat} (h:L<=64):cR 400 [.int .i64 (L:Int)]=some (.int .i64 ((L*78913 / 262144:Nat):Int)):=by
 have w1:IntKind.wrap .i64 ((L:Int)*78913)=((L*78913:Nat):Int):=by rw [aP aa aa]; omega
 have sh:aY .shr .i64 ((L*78913:Nat):Int) 18=some (.int .i64 ((L*78913 / 262144:Nat):Int)):=by
  generalize L*78913=n
  unfold aY
  rw [if_neg (by decide)]
  show some (AV.int .i64 ((n:Int).fdiv (2 ^ (min (18:Int).toNat (IntKind.bits .i64)))))=_
  have e:min (18:Int).toNat (IntKind.bits .i64)=18:=rfl
  rw [e,Int.fdiv_eq_ediv_of_nonneg _ (by decide)]; rfl
 refine aC (F:=F400) rfl ?_
 simp only [F400,ax,seval,ae,w1,sh]
theorem VB (b:Bool):cR 401 [.bool b]=some (.int .i64 (if b=true then 1 else 0)):=by
 refine aC (F:=F401) rfl ?_
 cases b <;> simp only [F401,ax,seval,ae] <;> rfl
theorem Ny {u:Nat} (h0:0 < u) (hu:u < 18446744073709551616) :
  gn u*78913 / 262144 < 20/\(dQ u).length=gn u*78913 / 262144+(if 10 ^ (gn u*78913 / 262144)<=u then 1 else 0):=by
 have hx:u≠0:=by omega
 have a1:=(Nat.log2_eq_iff hx).1 rfl
 have hb:gn u=Nat.log2 u+1:=by unfold gn; rw [if_neg hx]
 rw [hb]
 have hl:Nat.log2 u < 64:=(Nat.log2_lt hx).2 (by simpa using hu)
 generalize Nat.log2 u=L at*
 have k:((List.range 64).all fun L=>decide ((L+1)*78913 / 262144 < 20) && (decide (10 ^ ((L+1)*78913 / 262144 - 1)<=2 ^ L) && decide (2 ^ (L+1)<=10 ^ ((L+1)*78913 / 262144+1))))=true:=by decide+kernel
 have g:=bj.1 k L (List.mem_range.2 hl)
 simp only [ak,cD] at g
 obtain ⟨g1,g2,g3⟩:=g
 generalize (L+1)*78913 / 262144=t at*
 refine ⟨g1,?_⟩
 split
 ·rename_i h
  exact vw h aa
 ·rename_i h
  cases t with
  | zero=>exact absurd h0 (by simpa using h)
  | succ t=>
   rw [Nat.add_sub_cancel] at g2
   exact vw aa aa
def Gf:Bs:= [48,48,48,49,48,50,48,51,48,52,48,53,48,54,48,55,48,56,48,57,49,48,49,49,49,50,49,51,49,52,49,53,49,54,49,55,49,56,49,57,50,48,50,49,50,50,50,51,50,52,50,53,50,54,50,55,50,56,50,57,51,48,51,49,51,50,51,51,51,52,51,53,51,54,51,55,51,56,51,57,52,48,52,49,52,50,52,51,52,52,52,53,52,54,52,55,52,56,52,57,53,48,53,49,53,50,53,51,53,52,53,53,53,54,53,55,53,56,53,57,54,48,54,49,54,50,54,51,54,52,54,53,54,54,54,55,54,56,54,57,55,48,55,49,55,50,55,51,55,52,55,53,55,54,55,55,55,56,55,57,56,48,56,49,56,50,56,51,56,52,56,53,56,54,56,55,56,56,56,57,57,48,57,49,57,50,57,51,57,52,57,53,57,54,57,55,57,56,57,57]
theorem ZA {k:Nat} (h:k < 100):Gf[k*2]? =some (UInt8.ofNat (48+k / 10)):=by
 have e:((List.range 100).all fun k=>Gf[k*2]? == some (UInt8.ofNat (48+k / 10)))=true:=by decide+kernel
 exact eq_of_beq (bj.1 e k (List.mem_range.2 h))
theorem Zz {k:Nat} (h:k < 100):Gf[k*2+1]? =some (UInt8.ofNat (48+k % 10)):=by
 have e:((List.range 100).all fun k=>Gf[k*2+1]? == some (UInt8.ofNat (48+k % 10)))=true:=by decide+kernel
 exact eq_of_beq (bj.1 e k (List.mem_range.2 h))
def dg (n:Nat):UInt8:=UInt8.ofNat (48+n % 10)
theorem decP_8 {u:Nat} (h:10000000<=u) (t:Bs):iR u ++t=iR (u / 100000000) ++([dg (u / 10000000),dg (u / 1000000),dg (u / 100000),dg (u / 10000),dg (u / 1000),dg (u / 100),dg (u / 10),dg u] ++t):=by
 unfold dg
 rw [db (m:=u) aa,db (m:=u / 10) aa,db (m:=u / 10 / 10) aa,db (m:=u / 10 / 10 / 10) aa,db (m:=u / 10 / 10 / 10 / 10) aa,db (m:=u / 10 / 10 / 10 / 10 / 10) aa,db (m:=u / 10 / 10 / 10 / 10 / 10 / 10) aa,db (m:=u / 10 / 10 / 10 / 10 / 10 / 10 / 10) aa]
 simp only [cL,Nat.reduceMul,List.cons_append,List.nil_append]
theorem BT {u:Nat} (h:1000<=u) (t:Bs):iR u ++t=iR (u / 10000) ++([dg (u / 1000),dg (u / 100),dg (u / 10),dg u] ++t):=by
 unfold dg
 rw [db (m:=u) aa,db (m:=u / 10) aa,db (m:=u / 10 / 10) aa,db (m:=u / 10 / 10 / 10) aa]
 simp only [cL,Nat.reduceMul,List.cons_append,List.nil_append]
theorem BU {u:Nat} (h:10<=u) (t:Bs):iR u ++t=iR (u / 100) ++([dg (u / 10),dg u] ++t):=by
 unfold dg
 rw [db (m:=u) aa,db (m:=u / 10) aa]
 simp only [cL,Nat.reduceMul,List.cons_append,List.nil_append]
theorem BV {u:Nat} (h:0 < u) (h2:u < 10) (t:Bs):iR u ++t=dg u ::t:=by
 unfold dg
 rw [db h,show u / 10=0 by omega]; rfl
def Fits (i u:Nat):Prop:=(i=0/\u=0)∨(0 < i/\10 ^ (i - 1)<=u/\u < 10 ^ i)
theorem Xx {u:Nat} (h:0 < u):Fits (dQ u).length u:=by
 right
 have hp:=yM u
 refine ⟨hp,?_,?_⟩
 ·refine Nat.le_of_not_lt fun k=> ?_
  by_cases h1:(dQ u).length=1
  ·rw [h1] at k; omega
  ·have:=kp ((dQ u).length - 2) u (by rw [show (dQ u).length - 2+1=(dQ u).length - 1 by omega]; exact k)
   omega
 ·refine Nat.lt_of_not_le fun k=> ?_
  have:=BS _ u k
  omega
theorem Fits.div {i u k:Nat} (h:Fits i u) (hk:k<=i):Fits (i - k) (u / 10 ^ k):=by
 rcases h with ⟨rfl,rfl⟩ | ⟨h1,h2,h3⟩
 ·left; exact ⟨by omega,Nat.zero_div _⟩
 ·by_cases hi:k=i
  ·subst hi; left; exact ⟨Nat.sub_self _,Nat.div_eq_of_lt h3⟩
  ·right
   refine ⟨by omega,?_,?_⟩
   ·rw [Nat.le_div_iff_mul_le (Nat.pow_pos (by decide)),←Nat.pow_add,show i - k - 1+k=i - 1 by omega]; exact h2
   ·refine Nat.div_lt_of_lt_mul ?_
    rw [←Nat.pow_add,show k+(i - k)=i by omega]; exact h3
theorem Fits.ge {i u k:Nat} (h:Fits i u) (hk:k < i):10 ^ k<=u:=by
 rcases h with ⟨rfl,rfl⟩ | ⟨h1,h2,h3⟩
 ·omega
 ·exact Nat.le_trans (Nat.pow_le_pow_right (by decide) aa) h2
theorem u9 (P q:ai) (x:AV) {m k:Nat} (h:P.length=m):(P ++q).take (m+k) ++ [x] ++(P ++q).drop (m+k+1)=P ++(q.take k ++ [x] ++q.drop (k+1)):=by
 subst h
 rw [List.take_length_add_append,show P.length+k+1=P.length+(k+1) by omega,List.drop_length_add_append]; simp
theorem wrap_u32 {i:Int} (h0:0<=i) (h:i < 4294967296):IntKind.wrap .u32 i=i:=by
 simp only [IntKind.wrap,IntKind.bits,IntKind.signed,Bool.false_and,aX,if_false]
 show i % 4294967296=i
 omega
theorem XY {σ:ag} {b n m u:Nat} {c:aD} {P S:ai} {c0 c1 c2 c3 c4 c5 c6 c7:AV} (hn:n<=20) (hm:m+8<=n) (hP:P.length=m) (hu:u < 18446744073709551616)
  (h:look σ.m b=some (.own (P ++(c0 ::c1 ::c2 ::c3 ::c4 ::c5 ::c6 ::c7 ::S)))) {K:List Item} {Q:Fr->ag->Prop} {B:an}
  (hk: ∀fr' σ',keep [0,1,4] fr'= [(0, .sl b 0 n 1 c),(1, .int .u64 ((u / 100000000:Nat):Int)),(4, .int .i64 (m:Int))]->σ'.next=σ.next->(∀j,j≠b->look σ'.m j=look σ.m j)->
   look σ'.m b=some (.own (P ++(af [dg (u / 10000000),dg (u / 1000000),dg (u / 100000),dg (u / 10000),dg (u / 1000),dg (u / 100),dg (u / 10),dg u] ++S)))->Ex cF gU (.inLoop [0,1,4] B ::K) fr' σ' Q) :
  Ex cF gU (.code wJ :: .inLoop [0,1,4] B ::K) [(0, .sl b 0 n 1 c),(1, .int .u64 (u:Int)),(4, .int .i64 ((m+8:Nat):Int))] σ Q:=by
   have kc:decide (((m+8:Nat):Int)≥8)=true:=decide_eq_true aa
   have ix (j:Nat) (hj:j < n):idxOf 1 none (.sl b 0 n 1 c) (.int .i64 (j:Int))=some (.ptr b j):=by simp [idxOf,hj]
   have x1:IntKind.wrap .i64 (((m+8:Nat):Int) - 1)=((m+7:Nat):Int):=by rw [aP aa aa]; omega
   have i1:=ix (m+7) aa
   have x2:IntKind.wrap .i64 (((m+8:Nat):Int) - 2)=((m+6:Nat):Int):=by rw [aP aa aa]; omega
   have i2:=ix (m+6) aa
   have x3:IntKind.wrap .i64 (((m+8:Nat):Int) - 3)=((m+5:Nat):Int):=by rw [aP aa aa]; omega
   have i3:=ix (m+5) aa
   have x4:IntKind.wrap .i64 (((m+8:Nat):Int) - 4)=((m+4:Nat):Int):=by rw [aP aa aa]; omega
   have i4:=ix (m+4) aa
   have x5:IntKind.wrap .i64 (((m+8:Nat):Int) - 5)=((m+3:Nat):Int):=by rw [aP aa aa]; omega
   have i5:=ix (m+3) aa
   have x6:IntKind.wrap .i64 (((m+8:Nat):Int) - 6)=((m+2:Nat):Int):=by rw [aP aa aa]; omega
   have i6:=ix (m+2) aa
   have x7:IntKind.wrap .i64 (((m+8:Nat):Int) - 7)=((m+1:Nat):Int):=by rw [aP aa aa]; omega
   have i7:=ix (m+1) aa
   have x8:IntKind.wrap .i64 (((m+8:Nat):Int) - 8)=((m:Nat):Int):=by rw [aP aa aa]; omega
   have i8:=ix m aa
   have t1:Int.tmod (u:Int) 100000000=((u % 100000000:Nat):Int):=rfl
   have t2:Int.tdiv (u:Int) 100000000=((u / 100000000:Nat):Int):=rfl
   have t3:IntKind.wrap .u64 ((u % 100000000:Nat):Int)=((u % 100000000:Nat):Int):=iw aa aa
   have t4:IntKind.wrap .u64 ((u / 100000000:Nat):Int)=((u / 100000000:Nat):Int):=iw aa aa
   have t5:IntKind.wrap .u32 ((u % 100000000:Nat):Int)=((u % 100000000:Nat):Int):=wrap_u32 aa aa
   have d7:dg u=UInt8.ofNat (48+u % 100000000 % 10000 % 100 % 10):=by unfold dg; congr 1; omega
   have d6:dg (u / 10)=UInt8.ofNat (48+u % 100000000 % 10000 % 100 / 10):=by unfold dg; congr 1; omega
   have d5:dg (u / 100)=UInt8.ofNat (48+u % 100000000 % 10000 / 100 % 10):=by unfold dg; congr 1; omega
   have d4:dg (u / 1000)=UInt8.ofNat (48+u % 100000000 % 10000 / 100 / 10):=by unfold dg; congr 1; omega
   have d3:dg (u / 10000)=UInt8.ofNat (48+u % 100000000 / 10000 % 100 % 10):=by unfold dg; congr 1; omega
   have d2:dg (u / 100000)=UInt8.ofNat (48+u % 100000000 / 10000 % 100 / 10):=by unfold dg; congr 1; omega
   have d1:dg (u / 1000000)=UInt8.ofNat (48+u % 100000000 / 10000 / 100 % 10):=by unfold dg; congr 1; omega
   have d0:dg (u / 10000000)=UInt8.ofNat (48+u % 100000000 / 10000 / 100 / 10):=by unfold dg; congr 1; omega
   rw [d0,d1,d2,d3,d4,d5,d6,d7] at hk
   clear d0 d1 d2 d3 d4 d5 d6 d7
   have hr:u % 100000000 < 100000000:=bb _ (by decide)
   generalize u % 100000000=r at*
   have t6:Int.tmod (r:Int) 10000=((r % 10000:Nat):Int):=rfl
   have t7:Int.tdiv (r:Int) 10000=((r / 10000:Nat):Int):=rfl
   have t8:IntKind.wrap .u32 ((r % 10000:Nat):Int)=((r % 10000:Nat):Int):=wrap_u32 aa aa
   have t9:IntKind.wrap .u32 ((r / 10000:Nat):Int)=((r / 10000:Nat):Int):=wrap_u32 aa aa
   have jc:r % 10000 < 10000:=bb _ (by decide)
   have yq:r / 10000 < 10000:=by omega
   generalize r % 10000=lo at*
   generalize r / 10000=hi at*
   have two (z:Nat) (hz:z < 10000):Int.tmod (z:Int) 100=((z % 100:Nat):Int)/\Int.tdiv (z:Int) 100=((z / 100:Nat):Int)/\IntKind.wrap .u32 ((z % 100:Nat):Int)=((z % 100:Nat):Int)/\IntKind.wrap .u32 ((z / 100:Nat):Int)=((z / 100:Nat):Int):=
    ⟨rfl,rfl,wrap_u32 aa aa,wrap_u32 aa aa⟩
   obtain ⟨a1,a2,a3,a4⟩:=two lo jc
   obtain ⟨b1,b2,b3,b4⟩:=two hi yq
   have Dn (z:Nat) (hz:z < 100):IntKind.wrap .u32 ((z:Int)*2)=((z*2:Nat):Int)/\IntKind.wrap .u32 (((z*2:Nat):Int)+1)=((z*2+1:Nat):Int)/\
     cC (.str Gf) (.int .u32 ((z*2:Nat):Int))=some (.int .u8 ((UInt8.ofNat (48+z / 10)).toNat:Int))/\cC (.str Gf) (.int .u32 ((z*2+1:Nat):Int))=some (.int .u8 ((UInt8.ofNat (48+z % 10)).toNat:Int)):=
    ⟨by rw [wrap_u32 aa aa]; omega,by rw [wrap_u32 aa aa]; omega,oH (ZA hz),oH (Zz hz)⟩
   have e1:=Dn (lo % 100) (bb _ (by decide))
   have e2:=Dn (lo / 100) aa
   have e3:=Dn (hi % 100) (bb _ (by decide))
   have e4:=Dn (hi / 100) aa
   clear Dn two
   generalize lo % 100=z1 at*
   generalize lo / 100=z2 at*
   generalize hi % 100=z3 at*
   generalize hi / 100=z4 at*
   obtain ⟨f1,f2,f3,f4⟩:=e1
   obtain ⟨g1,g2,g3,g4⟩:=e2
   obtain ⟨k1,k2,k3,k4⟩:=e3
   obtain ⟨l1,l2,l3,l4⟩:=e4
   unfold Gf at f3 f4 g3 g4 k3 k4 l3 l4
   generalize UInt8.ofNat (48+z1 % 10)=v7 at*
   generalize UInt8.ofNat (48+z1 / 10)=v6 at*
   generalize UInt8.ofNat (48+z2 % 10)=v5 at*
   generalize UInt8.ofNat (48+z2 / 10)=v4 at*
   generalize UInt8.ofNat (48+z3 % 10)=v3 at*
   generalize UInt8.ofNat (48+z3 / 10)=v2 at*
   generalize UInt8.ofNat (48+z4 % 10)=v1 at*
   generalize UInt8.ofNat (48+z4 / 10)=v0 at*
   have p7:(P ++(c0 ::c1 ::c2 ::c3 ::c4 ::c5 ::c6 ::c7 ::S)).take (m+7) ++ [.int .u8 (v7.toNat:Int)] ++(P ++(c0 ::c1 ::c2 ::c3 ::c4 ::c5 ::c6 ::c7 ::S)).drop (m+8)=P ++(c0 ::c1 ::c2 ::c3 ::c4 ::c5 ::c6 ::(.int .u8 (v7.toNat:Int)) ::S):=u9 P _ _ (k:=7) hP
   have q7:(m+8<=(P ++(c0 ::c1 ::c2 ::c3 ::c4 ::c5 ::c6 ::c7 ::S)).length)=True:=by rw [eq_iff_iff,iff_true]; simp; omega
   have p6:(P ++(c0 ::c1 ::c2 ::c3 ::c4 ::c5 ::c6 ::(.int .u8 (v7.toNat:Int)) ::S)).take (m+6) ++ [.int .u8 (v6.toNat:Int)] ++(P ++(c0 ::c1 ::c2 ::c3 ::c4 ::c5 ::c6 ::(.int .u8 (v7.toNat:Int)) ::S)).drop (m+7)=P ++(c0 ::c1 ::c2 ::c3 ::c4 ::c5 ::(.int .u8 (v6.toNat:Int)) ::(.int .u8 (v7.toNat:Int)) ::S):=u9 P _ _ (k:=6) hP
   have q6:(m+7<=(P ++(c0 ::c1 ::c2 ::c3 ::c4 ::c5 ::c6 ::(.int .u8 (v7.toNat:Int)) ::S)).length)=True:=by rw [eq_iff_iff,iff_true]; simp; omega
   have p5:(P ++(c0 ::c1 ::c2 ::c3 ::c4 ::c5 ::(.int .u8 (v6.toNat:Int)) ::(.int .u8 (v7.toNat:Int)) ::S)).take (m+5) ++ [.int .u8 (v5.toNat:Int)] ++(P ++(c0 ::c1 ::c2 ::c3 ::c4 ::c5 ::(.int .u8 (v6.toNat:Int)) ::(.int .u8 (v7.toNat:Int)) ::S)).drop (m+6)=P ++(c0 ::c1 ::c2 ::c3 ::c4 ::(.int .u8 (v5.toNat:Int)) ::(.int .u8 (v6.toNat:Int)) ::(.int .u8 (v7.toNat:Int)) ::S):=u9 P _ _ (k:=5) hP
   have q5:(m+6<=(P ++(c0 ::c1 ::c2 ::c3 ::c4 ::c5 ::(.int .u8 (v6.toNat:Int)) ::(.int .u8 (v7.toNat:Int)) ::S)).length)=True:=by rw [eq_iff_iff,iff_true]; simp; omega
   have p4:(P ++(c0 ::c1 ::c2 ::c3 ::c4 ::(.int .u8 (v5.toNat:Int)) ::(.int .u8 (v6.toNat:Int)) ::(.int .u8 (v7.toNat:Int)) ::S)).take (m+4) ++ [.int .u8 (v4.toNat:Int)] ++(P ++(c0 ::c1 ::c2 ::c3 ::c4 ::(.int .u8 (v5.toNat:Int)) ::(.int .u8 (v6.toNat:Int)) ::(.int .u8 (v7.toNat:Int)) ::S)).drop (m+5)=P ++(c0 ::c1 ::c2 ::c3 ::(.int .u8 (v4.toNat:Int)) ::(.int .u8 (v5.toNat:Int)) ::(.int .u8 (v6.toNat:Int)) ::(.int .u8 (v7.toNat:Int)) ::S):=u9 P _ _ (k:=4) hP
   have q4:(m+5<=(P ++(c0 ::c1 ::c2 ::c3 ::c4 ::(.int .u8 (v5.toNat:Int)) ::(.int .u8 (v6.toNat:Int)) ::(.int .u8 (v7.toNat:Int)) ::S)).length)=True:=by rw [eq_iff_iff,iff_true]; simp; omega
   have p3:(P ++(c0 ::c1 ::c2 ::c3 ::(.int .u8 (v4.toNat:Int)) ::(.int .u8 (v5.toNat:Int)) ::(.int .u8 (v6.toNat:Int)) ::(.int .u8 (v7.toNat:Int)) ::S)).take (m+3) ++ [.int .u8 (v3.toNat:Int)] ++(P ++(c0 ::c1 ::c2 ::c3 ::(.int .u8 (v4.toNat:Int)) ::(.int .u8 (v5.toNat:Int)) ::(.int .u8 (v6.toNat:Int)) ::(.int .u8 (v7.toNat:Int)) ::S)).drop (m+4)=P ++(c0 ::c1 ::c2 ::(.int .u8 (v3.toNat:Int)) ::(.int .u8 (v4.toNat:Int)) ::(.int .u8 (v5.toNat:Int)) ::(.int .u8 (v6.toNat:Int)) ::(.int .u8 (v7.toNat:Int)) ::S):=u9 P _ _ (k:=3) hP
   have q3:(m+4<=(P ++(c0 ::c1 ::c2 ::c3 ::(.int .u8 (v4.toNat:Int)) ::(.int .u8 (v5.toNat:Int)) ::(.int .u8 (v6.toNat:Int)) ::(.int .u8 (v7.toNat:Int)) ::S)).length)=True:=by rw [eq_iff_iff,iff_true]; simp; omega
   have p2:(P ++(c0 ::c1 ::c2 ::(.int .u8 (v3.toNat:Int)) ::(.int .u8 (v4.toNat:Int)) ::(.int .u8 (v5.toNat:Int)) ::(.int .u8 (v6.toNat:Int)) ::(.int .u8 (v7.toNat:Int)) ::S)).take (m+2) ++ [.int .u8 (v2.toNat:Int)] ++(P ++(c0 ::c1 ::c2 ::(.int .u8 (v3.toNat:Int)) ::(.int .u8 (v4.toNat:Int)) ::(.int .u8 (v5.toNat:Int)) ::(.int .u8 (v6.toNat:Int)) ::(.int .u8 (v7.toNat:Int)) ::S)).drop (m+3)=P ++(c0 ::c1 ::(.int .u8 (v2.toNat:Int)) ::(.int .u8 (v3.toNat:Int)) ::(.int .u8 (v4.toNat:Int)) ::(.int .u8 (v5.toNat:Int)) ::(.int .u8 (v6.toNat:Int)) ::(.int .u8 (v7.toNat:Int)) ::S):=u9 P _ _ (k:=2) hP
   have q2:(m+3<=(P ++(c0 ::c1 ::c2 ::(.int .u8 (v3.toNat:Int)) ::(.int .u8 (v4.toNat:Int)) ::(.int .u8 (v5.toNat:Int)) ::(.int .u8 (v6.toNat:Int)) ::(.int .u8 (v7.toNat:Int)) ::S)).length)=True:=by rw [eq_iff_iff,iff_true]; simp; omega
   have p1:(P ++(c0 ::c1 ::(.int .u8 (v2.toNat:Int)) ::(.int .u8 (v3.toNat:Int)) ::(.int .u8 (v4.toNat:Int)) ::(.int .u8 (v5.toNat:Int)) ::(.int .u8 (v6.toNat:Int)) ::(.int .u8 (v7.toNat:Int)) ::S)).take (m+1) ++ [.int .u8 (v1.toNat:Int)] ++(P ++(c0 ::c1 ::(.int .u8 (v2.toNat:Int)) ::(.int .u8 (v3.toNat:Int)) ::(.int .u8 (v4.toNat:Int)) ::(.int .u8 (v5.toNat:Int)) ::(.int .u8 (v6.toNat:Int)) ::(.int .u8 (v7.toNat:Int)) ::S)).drop (m+2)=P ++(c0 ::(.int .u8 (v1.toNat:Int)) ::(.int .u8 (v2.toNat:Int)) ::(.int .u8 (v3.toNat:Int)) ::(.int .u8 (v4.toNat:Int)) ::(.int .u8 (v5.toNat:Int)) ::(.int .u8 (v6.toNat:Int)) ::(.int .u8 (v7.toNat:Int)) ::S):=u9 P _ _ (k:=1) hP
   have q1:(m+2<=(P ++(c0 ::c1 ::(.int .u8 (v2.toNat:Int)) ::(.int .u8 (v3.toNat:Int)) ::(.int .u8 (v4.toNat:Int)) ::(.int .u8 (v5.toNat:Int)) ::(.int .u8 (v6.toNat:Int)) ::(.int .u8 (v7.toNat:Int)) ::S)).length)=True:=by rw [eq_iff_iff,iff_true]; simp; omega
   have p0:(P ++(c0 ::(.int .u8 (v1.toNat:Int)) ::(.int .u8 (v2.toNat:Int)) ::(.int .u8 (v3.toNat:Int)) ::(.int .u8 (v4.toNat:Int)) ::(.int .u8 (v5.toNat:Int)) ::(.int .u8 (v6.toNat:Int)) ::(.int .u8 (v7.toNat:Int)) ::S)).take m ++ [.int .u8 (v0.toNat:Int)] ++(P ++(c0 ::(.int .u8 (v1.toNat:Int)) ::(.int .u8 (v2.toNat:Int)) ::(.int .u8 (v3.toNat:Int)) ::(.int .u8 (v4.toNat:Int)) ::(.int .u8 (v5.toNat:Int)) ::(.int .u8 (v6.toNat:Int)) ::(.int .u8 (v7.toNat:Int)) ::S)).drop (m+1)=P ++((.int .u8 (v0.toNat:Int)) ::(.int .u8 (v1.toNat:Int)) ::(.int .u8 (v2.toNat:Int)) ::(.int .u8 (v3.toNat:Int)) ::(.int .u8 (v4.toNat:Int)) ::(.int .u8 (v5.toNat:Int)) ::(.int .u8 (v6.toNat:Int)) ::(.int .u8 (v7.toNat:Int)) ::S):=u9 P _ _ (k:=0) hP
   have q0:(m+1<=(P ++(c0 ::(.int .u8 (v1.toNat:Int)) ::(.int .u8 (v2.toNat:Int)) ::(.int .u8 (v3.toNat:Int)) ::(.int .u8 (v4.toNat:Int)) ::(.int .u8 (v5.toNat:Int)) ::(.int .u8 (v6.toNat:Int)) ::(.int .u8 (v7.toNat:Int)) ::S)).length)=True:=by rw [eq_iff_iff,iff_true]; simp; omega
   simp only [Ci,wK,wJ,TQ,ax,seval,ae,kc,t1,t2,t3,t4,t5,t6,t7,t8,t9,a1,a2,a3,a4,b1,b2,b3,b4,f1,f2,f3,f4,g1,g2,g3,g4,k1,k2,k3,k4,l1,l2,l3,l4,x1,x2,x3,x4,x5,x6,x7,x8,i1,i2,i3,i4,i5,i6,i7,i8,h,p0,p1,p2,p3,p4,p5,p6,p7,q0,q1,q2,q3,q4,q5,q6,q7]
   refine hk _ _ rfl rfl (fun j hj=> ?_) ?_
   ·have: ¬b=j:=fun e=>hj e.symm
    simp [look,this]
   ·simp [look,af]
end Go.Ab
