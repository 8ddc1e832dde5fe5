/- What functions of the program, and of the library, answer. Conditions: none. -/
import Derived.Test.YtgfeimceppggcaaGreatDoorLaw8
import Derived.Test.YtgfeimceppggcaaGreatDoorEx
set_option linter.unusedVariables false
set_option linter.unusedSimpArgs false
set_option linter.defProp false
set_option linter.unnecessarySimpa false
namespace Go.Ab
set_option maxRecDepth 100000
set_option maxHeartbeats 1000000
def Q4Fa:=J @xd.eq_1 (J @w9.eq_1 (J @w7.eq_1 (J @w6.eq_1 (J @Lf.eq_1 (@TU.eq_1)))))
def Ic:=J @xd.eq_1 (J @w9.eq_1 (J @w7.eq_1 (J @w6.eq_1 (@TU.eq_1))))
def Q4Fc:=J @xd.eq_1 (J @w9.eq_1 (J @Lg.eq_1 (J @w7.eq_1 (J @w6.eq_1 (@TU.eq_1)))))
theorem iP: ∀ {l:List V} {x:V},kg l=true->x∈l->x.fine=true
 | v ::r,x,h,hx=>by
  simp only [kg,ak] at h
  rcases List.mem_cons.1 hx with rfl | hx
  ·exact h.1
  ·exact iP h.2 hx
theorem jL: ∀ {l:List Mem} {p:Option Bs} {x:Mem},jx p l=true->x∈l->vu x.1=true/\x.2.fine=true
 | (k,v) ::r,p,x,h,hx=>by
  rw [jM] at h
  simp only [ak] at h
  rcases List.mem_cons.1 hx with rfl | hx
  ·exact ⟨h.1,h.2.2.1⟩
  ·exact jL h.2.2.2 hx
theorem Fq {n:Int} (h:ly n=true):0 < (lH n).length/\(lH n).length<=21:=by
 simp only [ly,ak,cD] at h
 have h1:=kp 19 n.natAbs aa
 have h2: ∀m,0 < (dQ m).length:=fun m=>by
  by_cases hm:m < 10
  ·rw [mq hm]; simp
  ·rw [qh aa]; simp
 unfold lH
 split
 ·simp only [List.length_cons]; omega
 ·exact ⟨h2 _,by omega⟩
theorem c_rPut: ∀(N:Nat) (v:V),v.sz < N->v.fine=true->v.sz < 100000000000->∀(σ:ag) (x:AV) (s:Bs),iT σ x s->s.length+v.wr.length < 1099511627776->
  ∃y σ',cf cF gU (.fn 232 [] []) [x,v.enc] σ=some (y,σ')/\iT σ' y (s ++v.wr):=by
 intro N
 induction N with
 | zero=>intro v h; omega
 | succ N ih=>
  intro v h hf hb σ x s hx hl
  have eA:=v.sz_eq
  have hll:=l9 v.l
  have Hq:=nS v.m
  have r44 {σ:ag} {c:aD}:rowOf σ 1 (.vsl [.int .u8 44] c)=some [.int .u8 44]:=rfl
  have r58 {σ:ag} {c:aD}:rowOf σ 1 (.vsl [.int .u8 58] c)=some [.int .u8 58]:=rfl
  have r91 {σ:ag} {c:aD}:rowOf σ 1 (.vsl [.int .u8 91] c)=some [.int .u8 91]:=rfl
  have r93 {σ:ag} {c:aD}:rowOf σ 1 (.vsl [.int .u8 93] c)=some [.int .u8 93]:=rfl
  have r123 {σ:ag} {c:aD}:rowOf σ 1 (.vsl [.int .u8 123] c)=some [.int .u8 123]:=rfl
  have r125 {σ:ag} {c:aD}:rowOf σ 1 (.vsl [.int .u8 125] c)=some [.int .u8 125]:=rfl
  refine gk (F:=TU) rfl ?_
  rw [V.fine_eq] at hf
  by_cases h0:v.kind=0
  ·have q0:(v.kind == 0)=true:=by simp [h0]
   have hw:v.wr= [110,117,108,108]:=by rw [V.wr_eq,if_pos h0]
   rw [hw] at hl ⊢
   obtain ⟨y,σ',p1,p2⟩:=dR hx [110,117,108,108] (by decide) hl
   have We:aJ σ 1 1 x (af [110,117,108,108]) 4=some (y,σ'):=p1
   simp only [Ic,ax,seval,VX,ae,q0,We]
   exact ⟨_,rfl,p2⟩
  have n0:(v.kind == 0)=false:=by simp [h0]
  rw [if_neg h0] at hf
  by_cases h1:v.kind=1
  ·have q1:(v.kind == 1)=true:=by simp [h1]
   by_cases hn:v.n=1
   ·have hw:v.wr= [116,114,117,101]:=by rw [V.wr_eq,if_neg h0,if_pos h1,if_pos hn]
    rw [hw] at hl ⊢
    obtain ⟨y,σ',p1,p2⟩:=dR hx [116,114,117,101] (by decide) hl
    have We:aJ σ 1 1 x (af [116,114,117,101]) 4=some (y,σ'):=p1
    have e1:(v.n == 1)=true:=by simp [hn]
    simp only [Ic,ax,seval,VX,ae,n0,q1,e1,We]
    exact ⟨_,rfl,p2⟩
   ·have hw:v.wr= [102,97,108,115,101]:=by rw [V.wr_eq,if_neg h0,if_pos h1,if_neg hn]
    rw [hw] at hl ⊢
    obtain ⟨y,σ',p1,p2⟩:=dR hx [102,97,108,115,101] (by decide) hl
    have We:aJ σ 1 1 x (af [102,97,108,115,101]) 5=some (y,σ'):=p1
    have e1:(v.n == 1)=false:=by simp [hn]
    simp only [Ic,ax,seval,VX,ae,n0,q1,e1,We]
    exact ⟨_,rfl,p2⟩
  have n1:(v.kind == 1)=false:=by simp [h1]
  rw [if_neg h1] at hf
  by_cases h2:v.kind=2
  ·have q2:(v.kind == 2)=true:=by simp [h2]
   have hw:v.wr=lH v.n:=by rw [V.wr_eq,if_neg h0,if_neg h1,if_pos h2]
   rw [if_pos h2,ak] at hf
   rw [hw] at hl ⊢
   have hnm:=hf.2
   simp only [ly,ak,cD] at hnm
   have hd:=r_Dec (n:=v.n) aa aa
   obtain ⟨y,σ',p1,p2⟩:=dR hx (lH v.n) (Fq hf.2).1 hl
   simp only [Ic,ax,seval,VX,ae,n0,n1,q2,hd,p1]
   exact ⟨_,rfl,p2⟩
  have n2:(v.kind == 2)=false:=by simp [h2]
  rw [if_neg h2] at hf
  by_cases h3:v.kind=3
  ·have q3:(v.kind == 3)=true:=by simp [h3]
   have hw:v.wr=dw v.s:=by rw [V.wr_eq,if_neg h0,if_neg h1,if_neg h2,if_pos h3]
   rw [if_pos h3,ak] at hf
   rw [hw] at hl ⊢
   have hq:=DX hf.2 aa
   obtain ⟨y,σ',p1,p2⟩:=dR hx (dw v.s) (by simp [dw]) hl
   simp only [Ic,ax,seval,VX,ae,n0,n1,n2,q3,hq,p1]
   exact ⟨_,rfl,p2⟩
  have n3:(v.kind == 3)=false:=by simp [h3]
  rw [if_neg h3] at hf
  by_cases h4:v.kind=4
  ·have q4:(v.kind == 4)=true:=by simp [h4]
   have hw:v.wr=91 ::((uV v.l).tail ++ [93]):=by rw [V.wr_eq,if_neg h0,if_neg h1,if_neg h2,if_neg h3,if_pos h4]
   rw [if_pos h4,ak] at hf
   rw [hw] at hl ⊢
   simp only [List.length_cons,az,List.length_nil] at hl
   obtain ⟨y0,σ0,p1,p2⟩:=dR hx [91] (by decide) (by simp only [List.length_cons,List.length_nil]; omega)
   rw [show af [91]= [.int .u8 91] from rfl,show ([91] :Bs).length=1 from rfl] at p1
   simp only [Ic,ax,seval,VX,ae,ay,n0,n1,n2,n3,q4,lenOf,r91,p1]
   refine aL (S:=Nat×AV) (fun q=> [(0,q.2),(3, .vptr [.int .i64 v.kind, .int .i64 v.n, .str v.s, .vsl (v.l.map V.enc) none, .vsl (v.m.map bx) none] 0),(7, .int .i64 (q.1:Int))]) (fun q=>v.l.length - q.1)
    (fun q σ=>iT σ q.2 (s ++ [91] ++(uV (v.l.take q.1)).tail)/\q.1<=v.l.length) ?_ (0,y0) _ ⟨by rw [List.take_zero,uV,List.tail_nil,bm]; exact p2,Nat.zero_le _⟩
   rintro B ⟨j,y⟩ σ1 ⟨g1,g2⟩ ir
   simp only at g1 g2 ir
   by_cases hj:j=v.l.length
   ·subst hj
    rw [List.take_length] at g1
    have d1:=lT (aE v.l.length)
    obtain ⟨y2,σ2,e1,e2⟩:=dR g1 [93] (by decide) (by simp only [az,List.length_cons,List.length_nil]; omega)
    rw [show af [93]= [.int .u8 93] from rfl,show ([93] :Bs).length=1 from rfl] at e1
    simp only [Q4Fc,ax,seval,VX,ae,aH,d1,lenOf,r93,e1]
    exact ⟨_,rfl,by simpa [bf] using e2⟩
   ·have aN:j < v.l.length:=by omega
    obtain ⟨w,hw⟩:=bM aN
    have d1:=lS aN
    have bQ:=bV (f:=V.enc) (sz:=5) (c:=none) hw (by simp [V.enc_cells])
    have wj:=bH hw
    have hws:=gL wj
    have hT:=Dq hw
    have uo:=congrArg List.length hT
    simp only [az] at uo
    have hP:=Ja v.l (j+1)
    have Kh:=cd aN aa
    by_cases QP:j=0
    ·have c0:oV j= []:=by rw [QP]; rfl
     rw [c0] at hT uo
     have dg:decide ((j:Int) > 0)=false:=decide_eq_false aa
     obtain ⟨y2,σ2,e1,e2⟩:=ih w aa (iP hf.2 wj) aa σ1 y _ g1 (by simp only [az,List.length_cons,List.length_nil]; omega)
     simp only [Q4Fc,ax,seval,VX,ae,aH,d1,dg,bQ,e1,Kh]
     exact ir (j+1,y2) _ _ (by show v.l.length - (j+1) < v.l.length - j; omega) ⟨by rw [hT]; simpa [bf] using e2,aN⟩ rfl
    ·have c0:oV j= [44]:=by unfold oV; rw [if_neg QP]
     rw [c0] at hT uo
     simp only [List.length_cons,List.length_nil] at uo
     have dg:decide ((j:Int) > 0)=true:=decide_eq_true aa
     obtain ⟨y1,σ2,k1,k2⟩:=dR g1 [44] (by decide) (by simp only [az,List.length_cons,List.length_nil]; omega)
     rw [show af [44]= [.int .u8 44] from rfl,show ([44] :Bs).length=1 from rfl] at k1
     obtain ⟨y2,σ3,e1,e2⟩:=ih w aa (iP hf.2 wj) aa σ2 y1 _ k2 (by simp only [az,List.length_cons,List.length_nil]; omega)
     simp only [Q4Fc,ax,seval,VX,ae,aH,d1,dg,lenOf,r44,k1,bQ,e1,Kh]
     exact ir (j+1,y2) _ _ (by show v.l.length - (j+1) < v.l.length - j; omega) ⟨by rw [hT]; simpa [bf] using e2,aN⟩ rfl
  have n4:(v.kind == 4)=false:=by simp [h4]
  rw [if_neg h4] at hf
  by_cases h5:v.kind=5
  ·have hw:v.wr=123 ::((uU v.m).tail ++ [125]):=by rw [V.wr_eq,if_neg h0,if_neg h1,if_neg h2,if_neg h3,if_neg h4]
   rw [if_pos h5,ak] at hf
   rw [hw] at hl ⊢
   simp only [List.length_cons,az,List.length_nil] at hl
   obtain ⟨y0,σ0,p1,p2⟩:=dR hx [123] (by decide) (by simp only [List.length_cons,List.length_nil]; omega)
   rw [show af [123]= [.int .u8 123] from rfl,show ([123] :Bs).length=1 from rfl] at p1
   simp only [Ic,ax,seval,VX,ae,ay,n0,n1,n2,n3,n4,lenOf,r123,p1]
   refine aL (S:=Nat×AV) (fun q=> [(0,q.2),(3, .vptr [.int .i64 v.kind, .int .i64 v.n, .str v.s, .vsl (v.l.map V.enc) none, .vsl (v.m.map bx) none] 0),(8, .int .i64 (q.1:Int))]) (fun q=>v.m.length - q.1)
    (fun q σ=>iT σ q.2 (s ++ [123] ++(uU (v.m.take q.1)).tail)/\q.1<=v.m.length) ?_ (0,y0) _ ⟨by rw [List.take_zero,uU,List.tail_nil,bm]; exact p2,Nat.zero_le _⟩
   rintro B ⟨j,y⟩ σ1 ⟨g1,g2⟩ ir
   simp only at g1 g2 ir
   by_cases hj:j=v.m.length
   ·subst hj
    rw [List.take_length] at g1
    have d1:=lT (aE v.m.length)
    obtain ⟨y2,σ2,e1,e2⟩:=dR g1 [125] (by decide) (by simp only [az,List.length_cons,List.length_nil]; omega)
    rw [show af [125]= [.int .u8 125] from rfl,show ([125] :Bs).length=1 from rfl] at e1
    simp only [Q4Fa,ax,seval,VX,ae,aH,d1,lenOf,r125,e1]
    exact ⟨_,rfl,by simpa [bf] using e2⟩
   ·have aN:j < v.m.length:=by omega
    obtain ⟨w,hw⟩:=bM aN
    have d1:=lS aN
    have bQ:=bV (f:=bx) (sz:=6) (c:=none) hw (by simp [bJ])
    have wj:=bH hw
    have hws:=eT wj
    obtain ⟨hfk,Uf⟩:=jL hf.2 wj
    have hq:=DX hfk aa
    have hT:=Dp hw
    have uo:=congrArg List.length hT
    simp only [az,List.length_cons,List.length_nil] at uo
    have hP:=I8 v.m (j+1)
    have Kh:=cd aN aa
    have hq0:0 < (dw w.1).length:=by simp [dw]
    by_cases QP:j=0
    ·have c0:oV j= []:=by rw [QP]; rfl
     rw [c0] at hT uo
     have dg:decide ((j:Int) > 0)=false:=decide_eq_false aa
     obtain ⟨ya,σa,a1,a2⟩:=dR g1 (dw w.1) hq0 (by simp only [az,List.length_cons,List.length_nil]; omega)
     obtain ⟨yb,σb,b1,b2⟩:=dR a2 [58] (by decide) (by simp only [az,List.length_cons,List.length_nil]; omega)
     rw [show af [58]= [.int .u8 58] from rfl,show ([58] :Bs).length=1 from rfl] at b1
     obtain ⟨y2,σ2,e1,e2⟩:=ih w.2 aa Uf aa σb yb _ b2 (by simp only [az,List.length_cons,List.length_nil]; omega)
     simp only [Q4Fa,ax,seval,VX,ae,aH,d1,dg,bQ,hq,lenOf,r58,a1,b1,e1,Kh]
     exact ir (j+1,y2) _ _ (by show v.m.length - (j+1) < v.m.length - j; omega) ⟨by rw [hT]; simpa [bf] using e2,aN⟩ rfl
    ·have c0:oV j= [44]:=by unfold oV; rw [if_neg QP]
     rw [c0] at hT uo
     simp only [List.length_cons,List.length_nil] at uo
     have dg:decide ((j:Int) > 0)=true:=decide_eq_true aa
     obtain ⟨y1,σ2,k1,k2⟩:=dR g1 [44] (by decide) (by simp only [az,List.length_cons,List.length_nil]; omega)
     rw [show af [44]= [.int .u8 44] from rfl,show ([44] :Bs).length=1 from rfl] at k1
     obtain ⟨ya,σa,a1,a2⟩:=dR k2 (dw w.1) hq0 (by simp only [az,List.length_cons,List.length_nil]; omega)
     obtain ⟨yb,σb,b1,b2⟩:=dR a2 [58] (by decide) (by simp only [az,List.length_cons,List.length_nil]; omega)
     rw [show af [58]= [.int .u8 58] from rfl,show ([58] :Bs).length=1 from rfl] at b1
     obtain ⟨y2,σ3,e1,e2⟩:=ih w.2 aa Uf aa σb yb _ b2 (by simp only [az,List.length_cons,List.length_nil]; omega)
     simp only [Q4Fa,ax,seval,VX,ae,aH,d1,dg,bQ,hq,lenOf,r44,k1,r58,a1,b1,e1,Kh]
     exact ir (j+1,y2) _ _ (by show v.m.length - (j+1) < v.m.length - j; omega) ⟨by rw [hT]; simpa [bf] using e2,aN⟩ rfl
  ·rw [if_neg h5] at hf; cases hf
structure fW (α:Type) where
 f:α->AV
 sz:Nat
 pos:0 < sz
 len: ∀a,(f a).cells.length=sz
 closed: ∀a,(f a).closed=true
 er: ∀a,(f a).er=f a
 one: ∀a,(f a).cells.all AV.one=true
 agg: ∀a,if sz=1 then (f a).cells= [f a] else ∃cs,f a= .agg cs
def fW.cells {α:Type} (L:fW α) (l:List α):ai:=l.flatMap fun a=>(L.f a).cells
theorem fW.cells_len {α:Type} (L:fW α) (l:List α):(L.cells l).length=l.length*L.sz:=by
 unfold fW.cells
 induction l with
 | nil=>simp
 | cons a l ih=>simp [L.len a,ih,Nat.add_mul]; omega
theorem fW.cells_closed {α:Type} (L:fW α) (l:List α):aB (L.cells l)=true:=by
 unfold fW.cells
 induction l with
 | nil=>rfl
 | cons a l ih=>
  rw [List.flatMap_cons]
  have h: ∀x y:ai,aB x=true->aB y=true->aB (x ++y)=true:=by
   intro x y
   induction x with
   | nil=>intro _ h; exact h
   | cons c x ihx=>intro h1 h2; simp only [aB,ak,List.cons_append] at h1 ⊢; exact ⟨h1.1,ihx h1.2 h2⟩
  refine h _ _ ?_ ih
  have:=L.closed a
  cases hf:L.f a <;> simp_all [AV.cells,AV.closed,aB]
theorem fW.cells_one {α:Type} (L:fW α) (l:List α):(L.cells l).all AV.one=true:=by
 unfold fW.cells
 induction l with
 | nil=>rfl
 | cons a l ih=>simp only [List.flatMap_cons,List.all_append,L.one a,ih,aV]
theorem lx {l:ai} (h:l.all AV.one=true):l.all AV.notAgg=true:=by
 rw [bj] at h ⊢
 intro x hx
 have:=h x hx
 cases x <;> simp_all [AV.one,AV.notAgg]
theorem fW.chunks {α:Type} (L:fW α) (l:List α):chunks L.sz l.length (L.cells l)=l.map L.f:=by
 induction l with
 | nil=>rfl
 | cons a l ih=>
  have e:L.cells (a ::l)=(L.f a).cells ++L.cells l:=by simp [fW.cells]
  simp only [List.length_cons,Go.Ab.chunks,e]
  have hd:((L.f a).cells ++L.cells l).drop L.sz=L.cells l:=by
   rw [List.drop_append_of_le_length (by rw [L.len]; exact aE _),bn (by rw [L.len]; exact aE _),List.nil_append]
  rw [hd,ih,List.map_cons]
  congr 1
  have ha:=L.agg a
  by_cases h1:L.sz=1
  ·rw [if_pos h1] at ha ⊢
   rw [ha]; rfl
  ·rw [if_neg h1] at ha ⊢
   obtain ⟨cs,lC⟩:=ha
   have hl:=L.len a
   rw [lC] at hl ⊢
   simp only [AV.cells] at hl ⊢
   rw [List.take_append_of_le_length aa,aQ aa]
def oW {α:Type} (L:fW α) (σ:ag) (ob:aD) (l:List α):Prop:=nL σ L.sz ob l.length (L.cells l)
theorem oW.nil {α:Type} (L:fW α) (σ:ag):oW L σ none []:=⟨rfl,rfl⟩
theorem fW.erMap {α:Type} (L:fW α) (l:List α):dT (l.map L.f)=l.map L.f:=ny fun a _=>L.er a
theorem oW.rb {α:Type} {L:fW α} {σ:ag} {ob:aD} {l:List α} (h:oW L σ ob l): ∃v,rb σ bK (iA L.sz ob l.length)=some v/\v.er= .vsl (l.map L.f) none:=by
 have:=rb_own h L.pos (L.cells_closed l) (lx (L.cells_one l))
 refine ⟨_,this,?_⟩
 by_cases h0:l.length=0
 ·rw [if_pos h0,dW h0]; simp only [AV.er]; rfl
 ·rw [if_neg h0,L.chunks]; simp only [AV.er,L.erMap]
theorem oW.rbE {α:Type} {L:fW α} {σ:ag} {ob:aD} {l:List α} (h:oW L σ ob l):rbE σ (iA L.sz ob l.length)=some (.vsl (l.map L.f) none):=by
 obtain ⟨v,h1,h2⟩:=h.rb
 unfold Go.Ab.rbE
 rw [h1,Option.map_some,h2]
theorem oW.lenL {α:Type} {L:fW α} {σ:ag} {ob:aD} {l:List α} (h:oW L σ ob l):lenL (iA L.sz ob l.length)=some (.int .i64 l.length):=ue h
theorem oW.append {α:Type} {L:fW α} {σ:ag} {ob:aD} {l m:List α} {bytes:Nat} (h:oW L σ ob l) (hb:0 < bytes) (hm:(l.length+m.length)*bytes<=bg) (hk:0 < m.length) :
  ∃σ',aJ σ L.sz bytes (iA L.sz ob l.length) (L.cells m) m.length=some (iA L.sz (some σ.next) (l ++m).length,σ')/\oW L σ' (some σ.next) (l ++m)/\σ'.next=σ.next+1/\
   ∀b',b' < σ.next->ob≠some b'->σ'.get b'=σ.get b':=by
 obtain ⟨σ',h1,h2,h3,h4⟩:=gp h L.pos hb hm (L.cells_len m) (L.cells_one m) hk
 refine ⟨σ',by rw [h1,az],?_,h3,h4⟩
 unfold oW
 rw [az]
 have:L.cells (l ++m)=L.cells l ++L.cells m:=by simp [fW.cells]
 rw [this]
 exact h2
theorem oW.push {α:Type} {L:fW α} {σ:ag} {ob:aD} {l:List α} {a:α} {bytes:Nat} (h:oW L σ ob l) (hb:0 < bytes) (hm:(l.length+1)*bytes<=bg) :
  ∃σ',aJ σ L.sz bytes (iA L.sz ob l.length) (L.f a).cells 1=some (iA L.sz (some σ.next) (l ++ [a]).length,σ')/\oW L σ' (some σ.next) (l ++ [a])/\σ'.next=σ.next+1/\
   ∀b',b' < σ.next->ob≠some b'->σ'.get b'=σ.get b':=by
 have:=oW.append (m:= [a]) h hb (by simpa using hm) (by simp)
 simpa [fW.cells] using this
theorem oW.frame {α:Type} {L:fW α} {σ σ':ag} {b:Nat} {l:List α} (h:oW L σ (some b) l) (hg:σ'.get b=σ.get b) (hn:σ.next<=σ'.next):oW L σ' (some b) l:=by
 obtain ⟨h1,h2,h3,h4⟩:=h
 exact ⟨hg.trans h1,h2,by omega,h4⟩
theorem oW.alloc {α:Type} {L:fW α} {σ:ag} {ob:aD} {l:List α} (h:oW L σ ob l) (cs:ai):oW L (σ.alloc cs) ob l:=by
 cases ob with
 | none=>exact h
 | some b=>exact h.frame (gC h.2.2.1) (by simp [eH])
theorem oW.set {α:Type} {L:fW α} {σ:ag} {ob:aD} {l:List α} {b:Nat} {x:jS} (h:oW L σ ob l) (hb:ob≠some b):oW L (σ.set b x) ob l:=by
 cases ob with
 | none=>exact h
 | some b'=>exact h.frame (wu (by rintro rfl; exact hb rfl)) (aE _)
theorem oW.lt {α:Type} {L:fW α} {σ:ag} {b:Nat} {l:List α} (h:oW L σ (some b) l):b < σ.next:=h.2.2.1
theorem oW.call1 {α:Type} {L:fW α} {σ:ag} {ob:aD} {l:List α} {st:Bool} {f:Nat} {args:ai} {r:AV} (h:oW L σ ob l) (ha:aB args=true) (hc:cR f (.vsl (l.map L.f) none ::dT args)=some r) (hr:r.flat=true) :
  fZ cF gU st (.fn f [] []) (iA L.sz ob l.length ::args) σ=some (r,σ):=by
 obtain ⟨v,h1,h2⟩:=h.rb
 refine gl (args':=v ::args) rfl ?_ ?_ hr
 ·simp only [dt,h1,cP ha]
 ·simp only [dT,h2,AV.er]; exact hc
def jR:fW Bs where
 f:= .str
 sz:=1
 pos:=by decide
 len _:=rfl
 closed _:=rfl
 er _:=by simp only [AV.er]
 one _:=rfl
 agg _:=rfl
def LSlt:fW tD where
 f:=tM
 sz:=2
 pos:=by decide
 len _:=rfl
 closed _:=rfl
 er:=A5
 one _:=rfl
 agg a:=⟨_,rfl⟩
def LV:fW V where
 f:=V.enc
 sz:=5
 pos:=by decide
 len v:=by rw [V.enc_cells]; rfl
 closed:=V.enc_closed
 er:=V.enc_er
 one v:=by rw [V.enc_cells]; rfl
 agg v:=⟨_,V.enc_eq v⟩
def dL:fW Mem where
 f:=bx
 sz:=6
 pos:=by decide
 len v:=by rw [bJ]; rfl
 closed:=vf
 er:=J5
 one v:=by rw [bJ]; rfl
 agg v:=⟨_,rfl⟩
def T10Fc:= @F29.eq_1
def T10Fd:= @F30.eq_1
def Tn:= @F42.eq_1
def T10Ff:= @F44.eq_1
def Tm:= @F67.eq_1
abbrev cA:Bs:= [116,104,105,114,100,95,112,97,114,116,121,95,105,110,118,105,116,101]
abbrev bX:Bs:= [115,105,103,110,101,100]
abbrev jH:Bs:= [116,111,107,101,110]
abbrev nq:Bs:= [109,120,105,100]
abbrev kH:Bs:= [106,111,105,110,95,97,117,116,104,111,114,105,115,101,100,95,118,105,97,95,117,115,101,114,115,95,115,101,114,118,101,114]
abbrev EJ:Bs:= [116,121,112,101]
abbrev jW:Bs:= [114,111,111,109,95,105,100]
abbrev EK:Bs:= [109,46,114,111,111,109,95,109,101,109,98,101,114,115,104,105,112]
abbrev eI:Bs:= [97,108,108,111,119]
abbrev ug:Bs:= [106,111,105,110,95,114,117,108,101]
abbrev pj:Bs:= [109,101,109,98,101,114,115,104,105,112]
theorem V.zero_sz:V.zero.sz=1:=rfl
theorem jU (v:V):(said v).sz<=v.sz:=by
 unfold said
 split
 ·exact aE _
 ·rw [V.zero_sz]; exact v.sz_pos
theorem sO (v:V) (k:Bs):(gO v k).1.sz<=v.sz:=by
 unfold gO
 split
 ·rename_i x _ hx
  have:=eT (bH hx)
  have:=v.sz_eq
  simp only; omega
 ·simp only; rw [V.zero_sz]; exact v.sz_pos
theorem gW (v:V):v.m.length<=v.sz:=by have:=v.sz_eq; have:=nS v.m; omega
theorem ph (v:V):v.l.length<=v.sz:=by have:=v.sz_eq; have:=l9 v.l; omega
theorem O4 (v:V):v.s.length<=v.sz:=by have:=v.sz_eq; omega
theorem jB (v:V) (k:Bs):(bu v k).1.length<=v.sz:=by
 unfold bu
 split
 ·have:=O4 (gO v k).1; have:=sO v k; simp only; omega
 ·simp
theorem iF (v:V) (k:Bs) (hb:v.sz < cJ):cR 46 [v.enc, .str k]=some (.tup [.str (bu v k).1, .bool (bu v k).2]):=PF v k (by have:=gW v; omega)
theorem ZH (v:V) (k:Bs) (hb:v.sz < cJ):cR 63 [v.enc, .str k]=some (.tup [(gO v k).1.enc, .bool (gO v k).2]):=ZL v k (by have:=gW v; omega)
def ed (v:V) (k:Bs):List V:=if (gO v k).1.kind=4 then (gO v k).1.l else []
theorem JN (v:V) (k:Bs) (hb:v.sz < cJ):cR 44 [v.enc, .str k]=some (.vsl ((ed v k).map V.enc) none):=by
 refine aC (F:=F44) rfl ?_
 have hg:=ZH v k hb
 unfold ed
 generalize gO v k=g at hg ⊢
 by_cases h4:g.1.kind=4
 ·have q:(g.1.kind != 4)=false:=by simp [h4]
  simp only [T10Ff,ax,seval,VX,ae,hg,q,h4]
 ·have q:(g.1.kind != 4)=true:=by simp [h4]
  simp only [T10Ff,ax,seval,VX,ae,hg,q,h4]
def cH (v:V) (k:Bs):V×Bool:=if (gO v k).2 && (gO v k).1.kind == 5 then ((gO v k).1,true) else (V.zero,false)
theorem kS (v:V) (k:Bs):(cH v k).1.sz<=v.sz:=by
 unfold cH
 split
 ·exact sO v k
 ·simp only; rw [V.zero_sz]; exact v.sz_pos
theorem tT (v:V) (k:Bs) (hb:v.sz < cJ):cR 67 [v.enc, .str k]=some (.tup [(cH v k).1.enc, .bool (cH v k).2]):=by
 refine aC (F:=F67) rfl ?_
 have hg:=ZH v k hb
 unfold cH
 generalize gO v k=g at hg ⊢
 obtain ⟨x,ok⟩:=g
 simp only at hg ⊢
 cases ok
 ·simp only [Tm,ax,seval,VX,ae,hg,Bool.false_and,V.zero]
 ·by_cases h5:x.kind=5
  ·have q:(x.kind != 5)=false:=by simp [h5]
   have q2:(x.kind == 5)=true:=by simp [h5]
   simp only [Tm,ax,seval,VX,ae,hg,q,q2]
  ·have q:(x.kind != 5)=true:=by simp [h5]
   have q2:(x.kind == 5)=false:=by simp [h5]
   simp only [Tm,ax,seval,VX,ae,hg,q,q2,V.zero]
def jb (c:V):Bs:=(bu (said c) pj).1
theorem Bc (c:V) (hb:c.sz < cJ):cR 28 [c.enc]=some (.str (jb c)):=by
 have h1:=tV c hb
 have h2:=iF (said c) pj (by have:=jU c; omega)
 refine aC (F:=F28) rfl ?_
 simp only [F28,ax,seval,VX,ae,h1,h2,jb]
def DG (c:V):Bs:=(bu (said c) ug).1
theorem r_rule (c:V) (hb:c.sz < cJ):cR 23 [c.enc]=some (.str (DG c)):=by
 have h1:=tV c hb
 have h2:=iF (said c) ug (by have:=jU c; omega)
 refine aC (F:=F23) rfl ?_
 simp only [F23,ax,seval,VX,ae,h1,h2,DG]
def sZ (c:V):Bs×Bool:=if (cg (bu (said c) kH).1 64).2.2=true then ((bu (said c) kH).1,true) else ([],false)
theorem r_auth (c:V) (hb:c.sz < cJ):cR 30 [c.enc]=some (.tup [.str (sZ c).1, .bool (sZ c).2]):=by
 have h1:=tV c hb
 have hz:=jU c
 have h2:=iF (said c) kH aa
 have h3:=r_User (bu (said c) kH).1 (by have:=jB (said c) kH; omega)
 refine aC (F:=F30) rfl ?_
 unfold sZ
 cases hp:(cg (bu (said c) kH).1 64).2.2
 ·rw [hp] at h3
  simp only [T10Fd,ax,seval,VX,ae,h1,h2,h3,hp]
 ·rw [hp] at h3
  simp only [T10Fd,ax,seval,VX,ae,h1,h2,h3,hp]
def bT (c:V):V×Bool:=((cH (cH (said c) cA).1 bX).1,(cH (cH (said c) cA).1 bX).2 && ((bu (cH (cH (said c) cA).1 bX).1 jH).2 && (bu (cH (cH (said c) cA).1 bX).1 nq).2))
theorem qW (c:V):(bT c).1.sz<=c.sz:=by
 have h1:=jU c
 have h2:=kS (said c) cA
 have h3:=kS (cH (said c) cA).1 bX
 unfold bT
 simp only; omega
theorem DQ (c:V) (hb:c.sz < cJ):cR 54 [c.enc]=some (.tup [(bT c).1.enc, .bool (bT c).2]):=by
 have h1:=tV c hb
 have z1:=jU c
 have h2:=tT (said c) cA aa
 have z2:=kS (said c) cA
 unfold bT
 generalize (cH (said c) cA)=t1 at h2 z2 ⊢
 have h3:=tT t1.1 bX aa
 have z3:=kS t1.1 bX
 generalize (cH t1.1 bX)=t2 at h3 z3 ⊢
 have h4:=iF t2.1 jH aa
 have h5:=iF t2.1 nq aa
 generalize bu t2.1 jH=a at h4 ⊢
 generalize bu t2.1 nq=b at h5 ⊢
 obtain ⟨x,ok⟩:=t2
 obtain ⟨a1,a2⟩:=a
 obtain ⟨b1,b2⟩:=b
 simp only at h3 h4 h5 ⊢
 refine aC (F:=F54) rfl ?_
 cases ok <;> cases a2 <;> cases b2 <;> simp only [F54,ax,seval,VX,ae,h1,h2,h3,h4,h5,Bool.false_and,aW]
def jA (c:V):Bs×Bs×Bool:=if (bT c).2=true then ((bu (bT c).1 jH).1,(bu (bT c).1 nq).1,true) else ([], [],false)
theorem Vg (c:V) (hb:c.sz < cJ):cR 29 [c.enc]=some (.tup [.str (jA c).1, .str (jA c).2.1, .bool (jA c).2.2]):=by
 have h1:=DQ c hb
 have z1:=qW c
 unfold jA
 generalize bT c=t at h1 z1 ⊢
 obtain ⟨x,ok⟩:=t
 simp only at h1 z1 ⊢
 have h2:=iF x jH aa
 have h3:=iF x nq aa
 refine aC (F:=F29) rfl ?_
 cases ok
 ·simp only [T10Fc,ax,seval,VX,ae,h1]
 ·simp only [T10Fc,ax,seval,VX,ae,h1,h2,h3]
def jw (c:V):Bs×Bool:=if (bu c EJ).1=EK/\(cg (bu c jW).1 33).2.2=true then ((bu c jW).1,true) else ([],false)
theorem r_room (c:V) (hb:c.sz < cJ):cR 42 [c.enc]=some (.tup [.str (jw c).1, .bool (jw c).2]):=by
 have h2:=iF c EJ hb
 have h3:=iF c jW hb
 have h4:=r_Room (bu c jW).1 (by have:=jB c jW; omega)
 unfold jw
 generalize bu c EJ=a at h2 ⊢
 generalize bu c jW=b at h3 h4 ⊢
 generalize cg b.1 33=p at h4 ⊢
 obtain ⟨a1,a2⟩:=a
 obtain ⟨b1,b2⟩:=b
 obtain ⟨p1,p2,p3⟩:=p
 simp only at h2 h3 h4 ⊢
 refine aC (F:=F42) rfl ?_
 by_cases hk:a1=EK
 ·have q:(!(a1 == EK))=false:=by simp [hk]
  have qT:(a1=EK)=True:=eq_true hk
  cases p3
  ·simp only [Tn,ax,seval,VX,ae,h2,h3,h4,q,qT,and_false]
  ·simp only [Tn,ax,seval,VX,ae,h2,h3,h4,q,qT]
 ·have q:(!(a1 == EK))=true:=by simp [hk]
  simp only [Tn,ax,seval,VX,ae,h2,h3,h4,q,hk,false_and]
end Go.Ab
namespace Go.Ab
set_option maxHeartbeats 1000000
def KN:=J @TV.eq_1 (J @IQ.eq_1 (J @TW.eq_1 (@F22.eq_1)))
def T11Fd:=J @TM.eq_1 (J @Iy.eq_1 (J @TL.eq_1 (@F64.eq_1)))
set_option maxRecDepth 100000
def lim:Nat:=1073741824
theorem fW.rowOf {α:Type} (L:fW α) (σ:ag) (l:List α) (c:aD):rowOf σ L.sz (.vsl (l.map L.f) c)=some (L.cells l):=by
 have h:(l.map L.f).all (fun e=>e.cells.length == L.sz)=true:=by
  rw [bj]
  intro x hx
  obtain ⟨a,_,rfl⟩:=List.mem_map.1 hx
  simp [L.len a]
 have e:(l.map L.f).flatMap AV.cells=L.cells l:=by simp [fW.cells,List.flatMap_map]
 show (if (l.map L.f).all (fun e=>e.cells.length == L.sz)=true then some ((l.map L.f).flatMap AV.cells) else none)=_
 rw [if_pos h,e]
def Gr {α:Type} (L:fW α) (σ:ag) (v:AV) (l:List α):Prop:=
 (v= .nils/\l= [])∨(∃b,v= .sl b 0 l.length L.sz none/\oW L σ (some b) l)∨v= .vsl (l.map L.f) (some l.length)
section
variable {α:Type} {L:fW α} {σ:ag} {v:AV} {l:List α}
theorem Gr.nil (L:fW α) (σ:ag):Gr L σ .nils []:= .inl ⟨rfl,rfl⟩
theorem Gr.lit (L:fW α) (σ:ag) (l:List α):Gr L σ (.vsl (l.map L.f) (some l.length)) l:= .inr (.inr rfl)
theorem Gr.own {b:Nat} (h:oW L σ (some b) l):Gr L σ (.sl b 0 l.length L.sz none) l:= .inr (.inl ⟨b,rfl,h⟩)
theorem Gr.lenL (h:Gr L σ v l):lenL v=some (.int .i64 l.length):=by
 rcases h with ⟨rfl,rfl⟩ | ⟨b,rfl,h⟩ | rfl
 ·rfl
 ·rfl
 ·rw [EH,aH]
theorem Gr.rb (h:Gr L σ v l): ∃v',Go.Ab.rb σ bK v=some v'/\v'.er= .vsl (l.map L.f) none:=by
 rcases h with ⟨rfl,rfl⟩ | ⟨b,rfl,h⟩ | rfl
 ·exact ⟨_,rfl,by simp only [AV.er]; rfl⟩
 ·exact oW.rb (ob:=some b) h
 ·refine ⟨_,cj (by simp only [AV.closed]; exact du fun a _=>L.closed a),?_⟩
  simp only [AV.er,L.erMap]
theorem Gr.rbE (h:Gr L σ v l):Go.Ab.rbE σ v=some (.vsl (l.map L.f) none):=by
 obtain ⟨v',h1,h2⟩:=h.rb
 unfold Go.Ab.rbE
 rw [h1,Option.map_some,h2]
theorem Gr.call1 {st:Bool} {f:Nat} {args:ai} {r:AV} (h:Gr L σ v l) (ha:aB args=true) (hc:cR f (.vsl (l.map L.f) none ::dT args)=some r) (hr:r.flat=true) :
  fZ cF gU st (.fn f [] []) (v ::args) σ=some (r,σ):=by
 obtain ⟨v',h1,h2⟩:=h.rb
 refine gl (args':=v' ::args) rfl ?_ ?_ hr
 ·simp only [dt,h1,cP ha]
 ·simp only [dT,h2,AV.er]; exact hc
def di {α:Type} (L:fW α) (σ:ag) (v:AV) (l m:List α):ag:=match v with
 | .sl b .. =>(σ.set b .dead).alloc (L.cells l ++L.cells m)
 | _=>σ.alloc (L.cells l ++L.cells m)
theorem Gr.app {m:List α} {bytes:Nat} (h:Gr L σ v l) (hb:0 < bytes) (hm:(l.length+m.length)*bytes<=bg) (hk:0 < m.length) :
  aJ σ L.sz bytes v (L.cells m) m.length=some (.sl σ.next 0 (l ++m).length L.sz none,di L σ v l m):=by
 have c1:=L.cells_len m
 have c2:=L.cells_one m
 have c3:=L.pos
 rcases h with ⟨rfl,rfl⟩ | ⟨b,rfl,h⟩ | rfl
 ·unfold aJ
  simp only [lenOf]
  rw [if_pos ⟨c3,hb,by simpa using hm,c1,c2⟩,if_neg aa]
  simp [di,fW.cells]
 ·obtain ⟨h1,h2,h3,h4⟩:=h
  unfold aJ
  simp only [lenOf]
  rw [if_pos ⟨c3,hb,hm,c1,c2⟩,if_pos trivial]
  have:σ.owned b=some (L.cells l):=by simp [ag.owned,h1]
  rw [this]
  simp only
  rw [if_neg aa,if_pos aa]
  simp [di]
 ·unfold aJ
  simp only [lenOf,aH]
  rw [if_pos ⟨c3,hb,hm,c1,c2⟩,if_neg aa,if_pos trivial,L.rowOf]
  simp [di]
theorem Gr.next {m:List α} (h:Gr L σ v l) (hk:0 < m.length):oW L (di L σ v l m) (some σ.next) (l ++m):=by
 have e:L.cells (l ++m)=L.cells l ++L.cells m:=by simp [fW.cells]
 have hl:=L.cells_len (l ++m)
 have hlen:0 < (l ++m).length:=by simp; omega
 rcases h with ⟨rfl,rfl⟩ | ⟨b,rfl,h⟩ | rfl
 ·exact ⟨by simp only [di]; rw [←e]; exact eJ,hl,by simp [di,eH],hlen⟩
 ·exact ⟨by simp only [di]; rw [←e]; exact eJ (σ:=σ.set b .dead),hl,by simp [di,eH,pf],hlen⟩
 ·exact ⟨by simp only [di]; rw [←e]; exact eJ,hl,by simp [di,eH],hlen⟩
theorem Gr.push {a:α} {bytes:Nat} (h:Gr L σ v l) (hb:0 < bytes) (hm:(l.length+1)*bytes<=bg) :
  aJ σ L.sz bytes v (L.f a).cells 1=some (.sl σ.next 0 (l ++ [a]).length L.sz none,di L σ v l [a]):=by
 have:=Gr.app (m:= [a]) h hb (by simpa using hm) (by simp)
 simpa [fW.cells] using this
theorem fY (L:fW α) (σ:ag) (v:AV) (l m:List α):(di L σ v l m).next=σ.next+1:=by
 unfold di; split <;> rfl
theorem Gr.frame {σ':ag} (h:Gr L σ v l) (hg: ∀b,b < σ.next->σ'.get b=σ.get b) (hn:σ.next<=σ'.next):Gr L σ' v l:=by
 rcases h with h | ⟨b,rfl,h⟩ | h
 ·exact .inl h
 ·exact .inr (.inl ⟨b,rfl,h.frame (hg b h.lt) hn⟩)
 ·exact .inr (.inr h)
theorem Gr.alloc (h:Gr L σ v l) (cs:ai):Gr L (σ.alloc cs) v l:=h.frame (fun _ hb=>gC hb) (by simp [eH])
theorem Gr.newset (h:Gr L σ v l) (cs cs':ai):Gr L { next:=σ.next+1,m:=(σ.next, .own cs) ::(σ.next, .own cs') ::σ.m } v l:=
 h.frame (fun b hb=>by
  show look ((σ.next,jS.own cs) ::(σ.next, .own cs') ::σ.m) b=look σ.m b
  simp only [look]; rw [if_neg aa,if_neg aa]) (by simp)
theorem gY {m:List α} (h:Gr L σ v l) {b:Nat} (hb:b < σ.next) (fX: ∀len sz c,v≠ .sl b 0 len sz c):(di L σ v l m).get b=σ.get b:=by
 unfold di
 split
 ·rename_i b' off len sz c
  have QJ:off=0:=by
   rcases h with ⟨h,_⟩ | ⟨b2,h,_⟩ | h
   ·simp at h
   ·simp at h; exact h.2.1
   ·simp at h
  subst QJ
  rw [gC (by rw [pf]; exact hb),wu (by rintro rfl; exact fX len sz c rfl)]
 ·exact gC hb
end
theorem Py (l:List Bs) (x:Bs) (hlen:l.length < cJ):cR 64 [.vsl (l.map .str) none, .str x]=some (.int .i64 (bI (fun s=>x == s) l 0)):=by
 unfold cJ at hlen
 refine aC (F:=F64) rfl ?_
 simp only [TM,Iy,F64,ay,ax,seval,VX]
 refine dC (S:=Nat) (fun j=> [(0, .vsl (l.map .str) none),(1, .str x),(7, .int .i64 l.length),(8, .int .i64 (j:Int))]) (fun _=> .empty) (fun j=>l.length - j) (fun j=>bI (fun s=>x == s) l j=bI (fun s=>x == s) l 0) ?_ 0 rfl
 intro b j hj ih
 by_cases aN:j < l.length
 ·obtain ⟨y,hy⟩:=bM aN
  have bQ:=bV (f:=AV.str) (sz:=1) (c:=none) hy rfl
  have aA:=lS aN
  simp only [T11Fd,ax,seval,VX,ae,aA,bQ]
  split
  ·rename_i hp
   rw [←hj,iH hy hp]
  ·rename_i hp
   refine ih (j+1) _ _ aa ?_ ?_ rfl
   ·rw [←g8 hy (by simpa using hp)]; exact hj
   ·rw [cd aN aa]
    simp only [ax,seval]
 ·have aA:=lT (Nat.not_lt.1 aN)
  simp only [T11Fd,ax,seval,VX,aA]
  rw [←hj,iI aa]
def lD (l:List Bs) (x:Bs):Bool:=l.any fun s=>x == s
theorem u7 (l:List Bs) (x:Bs) (hlen:l.length < cJ):cR 45 [.vsl (l.map .str) none, .str x]=some (.bool (lD l x)):=by
 refine aC (F:=F45) rfl ?_
 simp only [F45,ax,seval,VX,Py l x hlen,kN,lD]
def eL:List Bs->List V->List Bs
 | acc, []=>acc
 | acc,x ::r=>if (jw x).2=true/\lD acc (jw x).1=false then eL (acc ++ [(jw x).1]) r else eL acc r
def kQ (c:V):List Bs:=eL [] (ed (said c) eI)
theorem Ai (v:V) (k:Bs): ∀x∈ed v k,x.sz<=v.sz:=by
 intro x hx
 unfold ed at hx
 split at hx
 ·have:=gL hx; have:=(gO v k).1.sz_eq; have:=sO v k; omega
 ·simp at hx
theorem yf (v:V) (k:Bs):(ed v k).length<=v.sz:=by
 unfold ed
 split
 ·have:=ph (gO v k).1; have:=sO v k; omega
 ·simp
theorem PD (c:V) (hb:c.sz < lim):cR 22 [c.enc]=some (.vsl ((kQ c).map .str) none):=by
 unfold lim at hb
 have nu:c.sz < cJ:=by unfold cJ; omega
 have h1:=tV c nu
 have z1:=jU c
 have h2:=JN (said c) eI (by unfold cJ; omega)
 have z2:=Ai (said c) eI
 have z3:=yf (said c) eI
 refine aC (F:=F22) rfl ?_
 unfold kQ
 generalize ed (said c) eI=l at h2 z2 z3 ⊢
 simp only [TV,IQ,F22,ay,ax,seval,VX,ae,h1,h2]
 refine aL (S:=Nat×List Bs×AV) (fun p=> [(3, .fn 42 [] []),(4,p.2.2),(11, .vsl (l.map V.enc) none),(12, .int .i64 l.length),(13, .int .i64 (p.1:Int))]) (fun p=>l.length - p.1)
  (fun p σ=>Gr jR σ p.2.2 p.2.1/\p.2.1.length<=p.1/\eL p.2.1 (l.drop p.1)=eL [] l) ?_ (0, [], .nils) _ ⟨Gr.nil jR _,by simp,rfl⟩
 rintro b ⟨j,acc,v⟩ σ ⟨hg,hlen,hj⟩ ih
 simp only at hg hlen hj ih ⊢
 by_cases aN:j < l.length
 ·obtain ⟨x,hx⟩:=bM aN
  have bQ:=bV (f:=V.enc) (sz:=5) (c:=none) hx (by simp [V.enc_cells])
  have aA:=lS aN
  have hr:=r_room x (by have:=z2 x (bH hx); unfold cJ; omega)
  rw [drop_cons hx,eL] at hj
  have hw:=cd aN aa
  have hn:=hg.newset
  cases zA:(jw x).2
  ·rw [zA] at hr
   simp only [zA,aX,false_and,if_false] at hj
   simp only [KN,ax,seval,VX,ae,aA,bQ,hr,hw]
   exact ih (j+1,acc,v) _ _ (by simp; omega) ⟨hn _ _,by simp; omega,hj⟩ (by simp only [ax,seval])
  ·rw [zA] at hr
   have bD: ∀cs cs',fZ cF gU false (.fn 45 [] []) [v, .str (jw x).1] _=some (.bool (lD acc (jw x).1),_):=fun cs cs'=>(hn cs cs').call1 rfl (by simp only [dT,AV.er]; exact u7 acc _ (by unfold cJ; omega)) rfl
   cases hh:lD acc (jw x).1
   ·simp only [zA,hh,and_self,if_true] at hj
    rw [hh] at bD
    have dI: ∀cs cs',aJ _ 1 16 v [.str (jw x).1] 1=some _:=fun cs cs'=>(hn cs cs').push (a:=(jw x).1) (bytes:=16) aa (by unfold bg; omega)
    have jc:lenOf (.vsl [.str (jw x).1] (some 1))=some 1:=rfl
    have nN: ∀σ',rowOf σ' 1 (.vsl [.str (jw x).1] (some 1))=some [.str (jw x).1]:=fun _=>rfl
    simp only [KN,ax,seval,VX,ae,aA,bQ,hr,bD,dI,jc,nN,hw]
    exact ih (j+1,acc ++ [(jw x).1],_) _ _ (by simp; omega) ⟨Gr.own ((hn _ _).next (by simp)),by simp; omega,hj⟩ (by simp only [ax,seval]; rfl)
   ·simp only [zA,hh,Bool.true_eq_false,and_false,if_false] at hj
    rw [hh] at bD
    simp only [KN,ax,seval,VX,ae,aA,bQ,hr,bD,hw]
    exact ih (j+1,acc,v) _ _ (by simp; omega) ⟨hn _ _,by simp; omega,hj⟩ (by simp only [ax,seval])
 ·have aA:=lT (Nat.not_lt.1 aN)
  rw [bn aa,eL] at hj
  have W3:=hg.rbE
  simp only [KN,ax,seval,VX,aA,W3,←hj]
  rfl
end Go.Ab
namespace Go.Ab
set_option maxHeartbeats 1000000
set_option maxRecDepth 100000
def Grown (σ σ':ag):Prop:=σ.next<=σ'.next/\∀b,b < σ.next->σ'.get b=σ.get b
theorem Grown.refl (σ:ag):Grown σ σ:=⟨aE _,fun _ _=>rfl⟩
theorem Grown.alloc (σ:ag) (cs:ai):Grown σ (σ.alloc cs):=⟨by simp [eH],fun _ hb=>gC hb⟩
theorem XT {f:Nat} {σ:ag} (n:Nat) (h1:dj cF (run cF gU n) (.fn f [] []) [.nils] .empty=some (.nils, .empty)) (h2:dj cF (run cF gU n) (.fn f [] []) [.e0] .empty=some (.vsl [] (some 0), .empty)) :
  both cF gU (.fn f [] []) σ=true:=by
 refine uE.2 ⟨n,?_⟩
 have e1:gv cF (run cF gU n) false true (.fn f [] []) [.nils] σ=some (.nils,σ):=by
  unfold gv
  rw [cj rfl,cP rfl]
  simp only [AV.er,dT,aX,if_false,h1]
  rfl
 have e2:gv cF (run cF gU n) false true (.fn f [] []) [.e0] σ=some (.vsl [] (some 0),σ):=by
  unfold gv
  rw [cj rfl,cP rfl]
  simp only [AV.er,dT,aX,if_false,h2]
  rfl
 unfold eV
 rw [e1,e2]
 rfl
theorem app00 {σ:ag} {sz bytes n:Nat} {new:ai} (hs:0 < sz) (hb:0 < bytes) (hm:n*bytes<=bg) (hl:new.length=n*sz) (ho:new.all AV.one=true) (hn:0 < n) :
  aJ σ sz bytes (.vsl [] (some 0)) new n=some (.sl σ.next 0 n sz none,σ.alloc new):=by
 unfold aJ
 simp only [lenOf,List.length_nil,Nat.zero_add]
 rw [if_pos ⟨hs,hb,hm,hl,ho⟩,if_neg aa,if_pos trivial]
 rfl
theorem MR (l:ai) (c:aD):lenOf (.vsl l c)=some l.length:=rfl
section
variable {α:Type} {L:fW α}
end
theorem Gr.rbD {α:Type} {L:fW α} {σ:ag} {v:AV} {l:List α} (h:Gr L σ v l) (d:Nat): ∃v',Go.Ab.rb σ (d+1) v=some v'/\v'.er= .vsl (l.map L.f) none:=by
 rcases h with ⟨rfl,rfl⟩ | ⟨b,rfl,h⟩ | rfl
 ·exact ⟨_,rfl,by simp only [AV.er]; rfl⟩
 ·obtain ⟨h1,h2,h3,h4⟩:=h
  refine ⟨_,JB (by simp [ag.cells,h1]) h2 L.pos (L.cells_closed l) (lx (L.cells_one l)),?_⟩
  rw [L.chunks]; simp only [AV.er,L.erMap]
 ·refine ⟨_,cj (by simp only [AV.closed]; exact du fun a _=>L.closed a),?_⟩
  simp only [AV.er,L.erMap]
theorem Gr.plain {α:Type} {L:fW α} {σ:ag} {v:AV} {l:List α} (h:Gr L σ v l):v.known=true/\v.one=true/\v.cells= [v]/\v.notAgg=true:=by
 rcases h with ⟨rfl,_⟩ | ⟨b,rfl,_⟩ | rfl <;> exact ⟨rfl,rfl,rfl,rfl⟩
def oX (σ:ag) (d:Nat) (cs cs':ai):Prop:=∃m,dt (rb σ d) cs=some m/\dT m=cs'
theorem oX.nil (σ:ag) (d:Nat):oX σ d [] []:=⟨[],rfl,by simp only [dT]⟩
theorem oX.clo {σ:ag} {d:Nat} {x:AV} {cs cs':ai} (hx:x.closed=true) (h:oX σ d cs cs'):oX σ d (x ::cs) (x.er ::cs'):=by
 obtain ⟨m,h1,h2⟩:=h
 exact ⟨x ::m,by simp only [dt,cj hx,h1],by simp only [dT,h2]⟩
theorem oX.gr {α:Type} {L:fW α} {σ:ag} {d:Nat} {v:AV} {l:List α} {cs cs':ai} (hv:Gr L σ v l) (h:oX σ (d+1) cs cs'):oX σ (d+1) (v ::cs) (.vsl (l.map L.f) none ::cs'):=by
 obtain ⟨m,h1,h2⟩:=h
 obtain ⟨v',h3,h4⟩:=hv.rbD d
 exact ⟨v' ::m,by simp only [dt,h3,h1],by simp only [dT,h2,h4]⟩
theorem oX.agg {σ:ag} {cs cs':ai} (h:oX σ 23 cs cs'):rbE σ (.agg cs)=some (.agg cs'):=by
 obtain ⟨m,h1,h2⟩:=h
 unfold rbE
 by_cases hc:(AV.agg cs).closed=true
 ·have:m=cs:=by
   have hm:=cP (σ:=σ) (d:=23) (show aB cs=true by simpa [AV.closed] using hc)
   rw [h1] at hm
   exact br hm
  subst this
  rw [cj hc,Option.map_some,AV.er,h2]
 ·have e:rb σ bK (.agg cs)=some (.agg m):=by
   show rb σ (23+1) (.agg cs)=_
   rw [rb,if_neg hc,h1]
  rw [e,Option.map_some,AV.er,h2]
end Go.Ab
namespace Go.Ab
set_option maxRecDepth 100000
def sEq (x y:tD):Bool:=x.type == y.type && x.key == y.key
theorem tD.eta (x:tD):(⟨x.type,x.key⟩ :tD)=x:=rfl
def hasT (l:List tD) (x:tD):Bool:=l.any (sEq x)
def Ev.slot (e:Ev):tD:=⟨e.type,e.key⟩
def Ev.zero:Ev:=⟨V.mk 0 0 [] [] [], [], [], [], [], [],false,0,0, [], [],V.mk 0 0 [] [] []⟩
def addT (l:List tD) (s:tD):List tD:=if hasT l s then l else l ++ [s]
def NSt (σ:ag) (b:Nat) (l:List tD):Prop:=∃v,look σ.m b=some (.own [v])/\Gr LSlt σ v l/\b < σ.next/\(∀len sz c,v≠ .sl b 0 len sz c)
abbrev Kb:Bs:= [109,46,114,111,111,109,46,99,114,101,97,116,101]
abbrev kPower:Bs:= [109,46,114,111,111,109,46,112,111,119,101,114,95,108,101,118,101,108,115]
abbrev wg:Bs:= [109,46,114,111,111,109,46,109,101,109,98,101,114]
abbrev kJoins:Bs:= [109,46,114,111,111,109,46,106,111,105,110,95,114,117,108,101,115]
abbrev M1:Bs:= [109,46,114,111,111,109,46,116,104,105,114,100,95,112,97,114,116,121,95,105,110,118,105,116,101]
abbrev ZV:Bs:= [106,111,105,110]
abbrev Ka:Bs:= [105,110,118,105,116,101]
abbrev kKnock:Bs:= [107,110,111,99,107]
def Ti (c:Bool) (l:List tD) (s:tD):List tD:=if c then addT l s else l
def base3 (e:Ev):List tD:= [⟨Kb, []⟩,⟨kPower, []⟩,⟨wg,e.sender⟩]
def needs (e:Ev):List tD:=
 if e.type == Kb then [] else if !(e.type == wg) then base3 e else
 let l1:=addT (base3 e) ⟨wg,e.key⟩
 let to:=jb e.content
 let l2:=Ti (to == ZV || (to == Ka || to == kKnock)) l1 ⟨kJoins, []⟩
 let l3:=Ti ((jA e.content).2.2 && to == Ka) l2 ⟨M1,(jA e.content).1⟩
 Ti ((sZ e.content).2 && to == ZV) l3 ⟨wg,(sZ e.content).1⟩
theorem NSt.rbE {σ:ag} {b:Nat} {l:List tD} (h:NSt σ b l): ∃v,look σ.m b=some (.own [v])/\rbE σ v=some (.vsl (l.map tM) none):=by
 obtain ⟨v,h1,h2,_⟩:=h
 exact ⟨v,h1,h2.rbE⟩
def fr4 (e:Ev) (m:Bs):Fr:= [(1, .vptr (Ns e).cells 0),(3, .ptr 0 0),(4, .fn 27 [] [.ptr 0 0]),(5, .str m)]
theorem vA (id:Nat) (first args caps:ai):dO cF gU (.fn id first caps) args=dO cF gU (.fn id [] []) (first ++args ++caps):=by
 have e: ∀n,dj cF (run cF gU n) (.fn id first caps) args .empty=dj cF (run cF gU n) (.fn id [] []) (first ++args ++caps) .empty:=fun n=>by
  simp only [dj,List.nil_append,bm]
 have h:cf cF gU (.fn id first caps) args .empty=cf cF gU (.fn id [] []) (first ++args ++caps) .empty:=by
  apply Option.ext
  intro x
  constructor
  ·intro hx
   obtain ⟨n,hn⟩:=dJ.1 hx
   exact dJ.2 ⟨n,by rw [←e]; exact hn⟩
  ·intro hx
   obtain ⟨n,hn⟩:=dJ.1 hx
   exact dJ.2 ⟨n,by rw [e]; exact hn⟩
 unfold dO
 rw [h]
def fitsF (ns:List tD):List tD->List Ev->Bool
 | _, []=>true
 | had,x ::r=>if x.isState && (!hasT had x.slot && hasT ns x.slot) then fitsF ns (had ++ [x.slot]) r else false
def fits (e:Ev) (auth:List Ev):Bool:=fitsF (needs e) [] auth
def N7Fb:=J @zg.eq_1 (J @ze.eq_1 (J @Ch.eq_1 (J @zd.eq_1 (J @zc.eq_1 (J @Cg.eq_1 (J @zb.eq_1 (J @za.eq_1 (J @Cf.eq_1 (@F47.eq_1)))))))))
def N7Fc:=J @zg.eq_1 (J @ze.eq_1 (J @zd.eq_1 (J @zc.eq_1 (J @Cg.eq_1 (J @zb.eq_1 (J @za.eq_1 (@F47.eq_1)))))))
def N7Fe:=J @zg.eq_1 (J @ze.eq_1 (J @Ch.eq_1 (J @zd.eq_1 (J @zc.eq_1 (J @Cg.eq_1 (J @zb.eq_1 (J @za.eq_1 (@F47.eq_1))))))))
abbrev W (n:Int):Int:=IntKind.wrap .i64 n
mutual
def wt:V->Int->Int->Int
 | .mk _ _ s l m,d,t=>if decide (d > 70)=true then W (t+1) else T8 m d t (wtL l d t (W (1+(s.length:Int))))
def wtL:List V->Int->Int->Int->Int
 | [],_,_,a=>a
 | v ::r,d,t,a=>if decide (a<=t)=true then wtL r d t (W (a+wt v (W (d+1)) t)) else a
def T8:List (Bs×V)->Int->Int->Int->Int
 | [],_,_,a=>a
 | (k,v) ::r,d,t,a=>if decide (a<=t)=true then T8 r d t (W (a+W ((k.length:Int)+wt v (W (d+1)) t))) else a
end
theorem Oy (x:Mem) (r:List Mem) (d t a:Int):T8 (x ::r) d t a=if decide (a<=t)=true then T8 r d t (W (a+W ((x.1.length:Int)+wt x.2 (W (d+1)) t))) else a:=by
 cases x; rw [T8]
theorem wt_eq (v:V) (d t:Int):wt v d t=if decide (d > 70)=true then W (t+1) else T8 v.m d t (wtL v.l d t (W (1+(v.s.length:Int)))):=by
 cases v; rw [wt]; rfl
theorem I6 (v:V) (d t a:Int) (σ:ag) (hb:v.sz < cJ) (ih: ∀x∈v.m,∀d t:Int,cR 47 [x.2.enc, .int .i64 d, .int .i64 t]=some (.int .i64 (wt x.2 d t))) {r:AV} (hr:r= .int .i64 (T8 v.m d t a)) :
  Ex cF gU [.code Cf] [(1, .int .i64 d),(2, .int .i64 t),(3, .vptr [.int .i64 v.kind, .int .i64 v.n, .str v.s, .vsl (v.l.map V.enc) none, .vsl (v.m.map bx) none] 0),(7, .int .i64 a)] σ fun fr' σ1=>(iB fr' σ1 F47.res).bind (rbE σ1)=some r:=by
 have hm:=gW v
 unfold cJ at hb
 simp only [zg,ze,Ch,zd,zc,zb,za,Cf,F47,ay,ax,seval,VX,ae]
 refine aL (S:=Nat×Int) (fun p=> [(1, .int .i64 d),(2, .int .i64 t),(3, .vptr [.int .i64 v.kind, .int .i64 v.n, .str v.s, .vsl (v.l.map V.enc) none, .vsl (v.m.map bx) none] 0),(7, .int .i64 p.2),(9, .int .i64 (p.1:Int))]) (fun p=>v.m.length - p.1)
  (fun p _=>T8 (v.m.drop p.1) d t p.2=T8 v.m d t a) ?_ (0,a) _ rfl
 rintro b ⟨j,c⟩ σ hj ir
 simp only at hj ir ⊢
 by_cases aN:j < v.m.length
 ·obtain ⟨x,hx⟩:=bM aN
  have bQ:=bV (f:=bx) (sz:=6) (c:=none) hx (by simp [bJ])
  have aA:=lS aN
  have bD:=ih x (bH hx)
  rw [drop_cons hx,Oy] at hj
  cases ha:decide (c<=t) with
  | true=>
   simp only [ha,if_true] at hj
   simp only [N7Fb,ax,seval,VX,ae,aA,bQ,bD,ha]
   exact ir (j+1,W (c+W ((x.1.length:Int)+wt x.2 (W (d+1)) t))) _ _ (by simp; omega) hj (by rw [cd aN aa]; simp only [ax,seval,VX])
  | false=>
   simp only [ha,aX,if_false] at hj
   rw [←hj] at hr
   simp only [N7Fb,ax,seval,VX,ae,aA,ha,hr]
 ·have aA:=lT (Nat.not_lt.1 aN)
  rw [bn aa,T8] at hj
  rw [←hj] at hr
  simp only [N7Fb,ax,seval,VX,ae,aA,hr]
theorem LW: ∀(n:Nat) (v:V),v.sz < n->v.sz < cJ->∀d t:Int,cR 47 [v.enc, .int .i64 d, .int .i64 t]=some (.int .i64 (wt v d t)):=by
 intro n
 induction n with
 | zero=>intro v h; omega
 | succ n ih=>
  intro v h hb d t
  have eA:=v.sz_eq
  have hl:=l9 v.l
  have WT: ∀x∈v.l,∀d t:Int,cR 47 [x.enc, .int .i64 d, .int .i64 t]=some (.int .i64 (wt x d t)):=fun x hx=>by
   have:=gL hx
   exact ih x aa aa
  have T9: ∀x∈v.m,∀d t:Int,cR 47 [x.2.enc, .int .i64 d, .int .i64 t]=some (.int .i64 (wt x.2 d t)):=fun x hx=>by
   have:=eT hx
   exact ih x.2 aa aa
  refine aC (F:=F47) rfl ?_
  obtain ⟨r,hr⟩ : ∃r,r=AV.int .i64 (wt v d t):=⟨_,rfl⟩
  rw [←hr]
  rw [wt_eq] at hr
  cases hd:decide (d > 70) with
  | true=>
   simp only [hd,if_true] at hr
   simp only [N7Fc,ax,seval,VX,ae,hd,hr]
  | false=>
  simp only [hd,aX,if_false] at hr
  unfold cJ at hb
  simp only [N7Fc,ay,ax,seval,VX,ae,hd]
  refine aL (S:=Nat×Int) (fun p=> [(1, .int .i64 d),(2, .int .i64 t),(3, .vptr [.int .i64 v.kind, .int .i64 v.n, .str v.s, .vsl (v.l.map V.enc) none, .vsl (v.m.map bx) none] 0),(7, .int .i64 p.2),(8, .int .i64 (p.1:Int))]) (fun p=>v.l.length - p.1)
   (fun p _=>wtL (v.l.drop p.1) d t p.2=wtL v.l d t (W (1+(v.s.length:Int)))) ?_ (0,_) _ rfl
  rintro b ⟨j,c⟩ σ hj ir
  simp only at hj ir ⊢
  by_cases aN:j < v.l.length
  ·obtain ⟨x,hx⟩:=bM aN
   have bQ:=bV (f:=V.enc) (sz:=5) (c:=none) hx (by simp [V.enc_cells])
   have aA:=lS aN
   have bD:=WT x (bH hx)
   rw [drop_cons hx,wtL] at hj
   cases ha:decide (c<=t) with
   | true=>
    simp only [ha,if_true] at hj
    simp only [N7Fe,ax,seval,VX,ae,aA,bQ,bD,ha]
    exact ir (j+1,W (c+wt x (W (d+1)) t)) _ _ (by simp; omega) hj (by rw [cd aN aa]; simp only [ax,seval,VX])
   | false=>
    simp only [ha,aX,if_false] at hj
    rw [←hj] at hr
    simp only [N7Fe,ax,seval,VX,ae,aA,ha]
    exact I6 v d t c _ hb T9 hr
  ·have aA:=lT (Nat.not_lt.1 aN)
   rw [bn aa,wtL] at hj
   rw [←hj] at hr
   simp only [N7Fe,ax,seval,VX,ae,aA]
   exact I6 v d t c _ hb T9 hr
def Bv (v:V) (t:Int):Bool:=decide (wt v 0 t<=t)
theorem D5 (v:V) (t:Int) (hb:v.sz < cJ):cR 24 [v.enc, .int .i64 t]=some (.bool (Bv v t)):=by
 have h:=LW (v.sz+1) v (aR _) hb
 refine aC (F:=F24) rfl ?_
 simp only [F24,ax,seval,VX,ae,h,Bv]
end Go.Ab
