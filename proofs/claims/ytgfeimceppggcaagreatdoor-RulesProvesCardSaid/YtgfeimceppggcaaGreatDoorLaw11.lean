/- What functions of the program, and of the library, answer. Conditions: none. -/
import Derived.Test.YtgfeimceppggcaaGreatDoorLaw10
import Derived.Test.YtgfeimceppggcaaGreatDoorLaw9
import Derived.Test.YtgfeimceppggcaaGreatDoorLaw8
import Derived.Test.YtgfeimceppggcaaGreatDoorLaw2
set_option linter.unusedVariables false
set_option linter.unusedSimpArgs false
set_option linter.defProp false
set_option linter.unnecessarySimpa false
namespace Go.Ab
set_option maxRecDepth 100000
set_option maxHeartbeats 1000000
def Q11Fa:= @F190.eq_1
def Co:= @F218.eq_1
mutual
def V.nums (P:Int->Prop):V->Prop
 | .mk k n _ l m=>(k=2->P n)/\FP P l/\BA P m
def FP (P:Int->Prop):List V->Prop
 | []=>True
 | v ::r=>v.nums P/\FP P r
def BA (P:Int->Prop):List (Bs×V)->Prop
 | []=>True
 | (_,v) ::r=>v.nums P/\BA P r
end
theorem V.nums_eq (P:Int->Prop) (v:V):v.nums P=((v.kind=2->P v.n)/\FP P v.l/\BA P v.m):=by cases v; rw [V.nums]; rfl
theorem BB {P:Int->Prop}: ∀ {l:List V} {x:V},FP P l->x∈l->x.nums P
 | v ::r,x,h,hx=>by
  rw [FP] at h
  rcases List.mem_cons.1 hx with rfl | hx
  ·exact h.1
  ·exact BB h.2 hx
theorem qN {P:Int->Prop}: ∀ {l:List Mem} {x:Mem},BA P l->x∈l->x.2.nums P
 | (k,v) ::r,x,h,hx=>by
  rw [BA] at h
  rcases List.mem_cons.1 hx with rfl | hx
  ·exact h.1
  ·exact qN h.2 hx
theorem UQ: ∀(N:Nat) (v:V),v.sz < N->v.fine=true->v.sz < 4294967296->v.nums uJ->Kd v:=by
 intro N
 induction N with
 | zero=>intro v h; omega
 | succ N ih=>
  intro v h hf hb hn σ b t hx hl
  have fb:=v.sz_eq
  rw [V.nums_eq] at hn
  obtain ⟨rG,hnL,hnM⟩:=hn
  have Gs: ¬σ.next=b:=by obtain ⟨_,_,h2,_⟩:=hx; omega
  have ga:=hx.alloc2 (e1:= .own [.fn 269 [] [], .fn 270 [] [], .fn 271 [] [], .fn 272 [] [], .fn 273 [] [], .fn 274 [] []]) (e2:= .own [.lit .nilFunc, .lit .nilFunc, .lit .nilFunc, .lit .nilFunc, .lit .nilFunc, .lit .nilFunc])
  refine gY (F:=F218) rfl ?_
  rw [V.fine_eq] at hf
  by_cases h0:v.kind=0
  ·have hw:v.wr= [110,117,108,108]:=by rw [V.wr_eq,if_pos h0]
   rw [hw] at hl ⊢
   obtain ⟨r,σ',k1,k2⟩:=Zx ga v (by simp only [List.length_cons,List.length_nil] at hl; omega)
   rw [V.enc_eq] at k1
   rw [h0] at k1
   simp only [Co,az,seval,V.enc_cells,V.enc_eq,ae,@br,h0,k1]
   exact ⟨_,rfl,k2⟩
  rw [if_neg h0] at hf
  by_cases h1:v.kind=1
  ·have hw:v.wr=if v.n=1 then [116,114,117,101] else [102,97,108,115,101]:=by rw [V.wr_eq,if_neg h0,if_pos h1]
   rw [hw] at hl ⊢
   obtain ⟨r,σ',k1,k2⟩:=UR ga v aa
   rw [V.enc_eq] at k1
   rw [h1] at k1
   simp only [Co,az,seval,V.enc_cells,V.enc_eq,ae,@br,h1,k1]
   exact ⟨_,rfl,k2⟩
  rw [if_neg h1] at hf
  by_cases h2:v.kind=2
  ·have hw:v.wr=ml v.n:=by rw [V.wr_eq,if_neg h0,if_neg h1,if_pos h2]
   rw [hw] at hl ⊢
   obtain ⟨r,σ',k1,k2⟩:=PZ ga v (rG h2) aa
   rw [V.enc_eq] at k1
   rw [h2] at k1
   simp only [Co,az,seval,V.enc_cells,V.enc_eq,ae,@br,h2,k1]
   exact ⟨_,rfl,k2⟩
  rw [if_neg h2] at hf
  by_cases h3:v.kind=3
  ·have hw:v.wr=eo v.s:=by rw [V.wr_eq,if_neg h0,if_neg h1,if_neg h2,if_pos h3]
   rw [if_pos h3,ak] at hf
   rw [hw] at hl ⊢
   obtain ⟨r,σ',k1,k2,_⟩:=Dy ga (a0:= .int .i64 3) (a1:= .int .i64 v.n) (a3:= .vsl (v.l.map V.enc) none) (a4:= .vsl (v.m.map bp) none) hf.2 aa aa
   simp only [Co,az,seval,V.enc_cells,V.enc_eq,ae,@br,h3,k1]
   exact ⟨_,rfl,k2⟩
  rw [if_neg h3] at hf
  by_cases h4:v.kind=4
  ·have hw:v.wr=91 ::((vV v.l).tail ++ [93]):=by rw [V.wr_eq,if_neg h0,if_neg h1,if_neg h2,if_neg h3,if_pos h4]
   rw [if_pos h4,ak] at hf
   rw [hw] at hl ⊢
   obtain ⟨r,σ',k1,k2⟩:=Zy (v:=v) (fun w xw=>ih w (by have:=jB xw; omega) (mg hf.2 xw) (by have:=jB xw; omega) (BB hnL xw)) hb ga (by simp only [List.length_cons,aq,List.length_nil] at hl; omega)
   rw [V.enc_eq] at k1
   rw [h4] at k1
   simp only [Co,az,seval,V.enc_cells,V.enc_eq,ae,@br,h4,k1]
   exact ⟨_,rfl,k2⟩
  rw [if_neg h4] at hf
  by_cases h5:v.kind=5
  ·have hw:v.wr=123 ::((vU v.m).tail ++ [125]):=by rw [V.wr_eq,if_neg h0,if_neg h1,if_neg h2,if_neg h3,if_neg h4]
   rw [if_pos h5,ak] at hf
   rw [hw] at hl ⊢
   obtain ⟨r,σ',k1,k2⟩:=US (v:=v) (fun w xw=>ih w.2 (by have:=gI xw; omega) (mf hf.2 xw).2 (by have:=gI xw; omega) (qN hnM xw)) (fun w xw=>(mf hf.2 xw).1) hb ga (by simp only [List.length_cons,aq,List.length_nil] at hl; omega)
   rw [V.enc_eq] at k1
   rw [h5] at k1
   simp only [Co,az,seval,V.enc_cells,V.enc_eq,ae,@br,h5,k1]
   exact ⟨_,rfl,k2⟩
  ·rw [if_neg h5] at hf; cases hf
theorem LW {v:V} (hb:v.sz < 4294967296) (hn:v.nums uJ):cR 190 [v.enc]=some (.tup (if v.good=true then [.str v.wr, .int .i64 0] else [.str [], .int .i64 1])):=by
 have hg:=u7 v (by unfold fF; omega)
 refine aG (F:=F190) rfl ?_
 cases hv:v.good
 ·rw [hv] at hg
  simp only [Q11Fa,az,seval,VX,ae,hg,hv,bh,if_false]
 ·rw [hv] at hg
  have hf:v.fine=true:=by unfold V.good at hv; rw [ak] at hv; exact hv.1
  have hl:=V.wr_len v hf
  have b0:wZ (ag.alloc ⟨0, []⟩ [.nils]) 0 []:=⟨.nils,rfl,aV _, .inl ⟨rfl,rfl⟩,fun c n e=>by cases e⟩
  obtain ⟨y,σ',c1,c2⟩:=UQ (v.sz+1) v (aV _) hf hb hn _ 0 [] b0 (by simp only [List.length_nil]; omega)
  rw [List.nil_append] at c2
  obtain ⟨x,h1,h2,h3,h4⟩:=c2
  have hs:fQ (rowOf σ' 1 x)=some (.str v.wr):=by
   rcases h3 with ⟨e,rfl⟩ | ⟨b,rfl,k1,k2,k3⟩
   ·rw [e]; rfl
   ·rw [xg (v:=v.wr) (by unfold AQ; rw [k1]) k3 rfl]; simp only [fQ,kL,Option.map_some]
  simp only [ag.alloc,Nat.zero_add] at c1
  simp only [Q11Fa,az,seval,VX,ae,cy,hg,hv,if_true,c1,h1,hs]
def S8Fa:=J @Kt.eq_1 (J @Ks.eq_1 (J @VE.eq_1 (@F70.eq_1)))
def S8Fb:=J @Kt.eq_1 (J @Ks.eq_1 (@F70.eq_1))
def cK (v:V) (k:Bs):V×Bool:=if v.kind=5 then (match iW v.m k with | some x=>(x,true) | none=>(V.zero,false)) else (V.zero,false)
theorem V.zero_enc:V.zero.enc= .agg [.int .i64 0, .int .i64 0, .str [], .vsl [] none, .vsl [] none]:=by rw [V.enc_eq]; rfl
theorem pT (v:V) (k:Bs) (hb:v.sz < fF):cR 70 [v.enc, .str k]=some (.tup [(cK v k).1.enc, .bool (cK v k).2]):=by
 have hmz:=iV v
 unfold fF at hb
 refine aG (F:=F70) rfl ?_
 obtain ⟨r,hr⟩ : ∃r,r=AV.tup [(cK v k).1.enc, .bool (cK v k).2]:=⟨_,rfl⟩
 rw [←hr]
 unfold cK at hr
 cases h5:v.kind != 5 with
 | true=>
  have hk:v.kind≠5:=by simpa using h5
  rw [if_neg hk] at hr
  simp only [S8Fb,az,seval,VX,ae,h5,hr,V.zero_enc]
 | false=>
  have hk:v.kind=5:=by simpa using h5
  rw [if_pos hk] at hr
  simp only [S8Fb,ax,az,seval,VX,ae,h5]
  refine gT (S:=Nat) (fun j=> [(1, .str k),(2, .vptr [.int .i64 v.kind, .int .i64 v.n, .str v.s, .vsl (v.l.map V.enc) none, .vsl (v.m.map bp) none] 0),(4, .ptr 0 0),(6, .int .i64 (j:Int))]) (fun _=>⟨1, [(0, .own [.int .i64 0, .int .i64 0, .str [], .nils, .nils])]⟩) (fun j=>v.m.length - j) (fun j=>iW (v.m.drop j) k=iW v.m k) ?_ 0 rfl
  intro b j hj iY
  by_cases aR:j < v.m.length
  ·obtain ⟨⟨key,x⟩,hx⟩:=cq aR
   have cl:=cB (f:=bp) (sz:=6) (c:=none) hx (by simp [bq])
   have aK:=pD aR
   have hw:=cL aR aa
   rw [drop_cons hx,iW] at hj
   cases Tq:key == k with
   | true=>
    have:key=k:=by simpa using Tq
    rw [if_pos this] at hj
    rw [←hj] at hr
    simp only [S8Fa,az,seval,VX,ae,aK,cl,Tq,hr]
   | false=>
    have:key≠k:=by simpa using Tq
    rw [if_neg this] at hj
    simp only [S8Fa,az,seval,VX,ae,aK,cl,Tq,hw]
    exact iY (j+1) _ _ aa hj rfl rfl
  ·have aK:=pE (Nat.not_lt.1 aR)
   rw [cc aa,iW] at hj
   rw [←hj] at hr
   simp only [S8Fa,az,seval,VX,ae,aK,hr,V.zero_enc]
theorem Px {v:V} (k:Bs) (h:v.good=true):cK v k=iZ v k:=by
 unfold cK
 by_cases h5:v.kind=5
 ·have hf:v.fine=true:=by unfold V.good at h; simp at h; exact h.1
  rw [if_pos h5,zJ k h5 (zS h5 hf)]
  try (cases iW v.m k <;> rfl)
 ·rw [if_neg h5,oO k h5]
def S9Fa:= @F58.eq_1
def iT (v:V) (k:Bs):Bs×Bool:=if (cK v k).2 && (cK v k).1.kind == 3 then ((cK v k).1.s,true) else ([],false)
theorem mN (v:V) (k:Bs) (hb:v.sz < fF):cR 58 [v.enc, .str k]=some (.tup [.str (iT v k).1, .bool (iT v k).2]):=by
 have h:=pT v k hb
 unfold iT
 generalize cK v k=g at h ⊢
 obtain ⟨x,b⟩:=g
 simp only at h ⊢
 obtain ⟨r,hr⟩ : ∃r,r=AV.tup [.str (if (b && x.kind == 3)=true then (x.s,true) else (([] :Bs),false)).1, .bool (if (b && x.kind == 3)=true then (x.s,true) else (([] :Bs),false)).2]:=⟨_,rfl⟩
 rw [←hr]
 refine aG (F:=F58) rfl ?_
 cases b with
 | false=>
  simp only [Bool.false_and,bh,if_false] at hr
  simp only [S9Fa,az,seval,VX,ae,h,hr]
 | true=>
  have JE:(x.kind != 3)= !(x.kind == 3):=rfl
  cases h3:x.kind == 3 with
  | false=>
   rw [h3] at JE
   simp only [h3,bg,bh,if_false] at hr
   simp only [S9Fa,az,seval,VX,ae,h,JE,Bool.not_false,hr]
  | true=>
   rw [h3] at JE
   simp only [h3,aW,if_true] at hr
   simp only [S9Fa,az,seval,VX,ae,h,JE,Bool.not_true,hr]
theorem Io {v:V} (k:Bs) (h:v.good=true):iT v k=bR v k:=by
 unfold iT bR
 rw [Px k h]
def S10Fb:= @F56.eq_1
theorem uT {v:V} (k:Bs) (h:v.kind≠5):bR v k=([],false):=by
 unfold bR
 rw [oO k h]; rfl
theorem NW (c:V) (k:Bs):(if c.good=true then iT c k else ([],false))=bR (said c) k:=by
 unfold said
 by_cases hg:c.good=true
 ·rw [if_pos hg,Io k hg]
  by_cases h5:c.kind=5
  ·rw [if_pos (by simp [hg,h5])]
  ·rw [if_neg (by simp [h5]),uT k h5,uT k (by simp [V.zero,V.kind])]
 ·rw [if_neg hg,if_neg (by simp [hg]),uT k (by simp [V.zero,V.kind])]
theorem Ok (c:V) (k:Bs) (hb:c.sz < fF):cR 56 [c.enc, .str k]=some (.tup [.str (bR (said c) k).1, .bool (bR (said c) k).2]):=by
 have h1:=qD c hb
 have h2:=mN c k hb
 rw [←NW]
 refine aG (F:=F56) rfl ?_
 cases hg:c.good with
 | false=>
  rw [hg] at h1
  simp only [S10Fb,az,seval,VX,ae,h1,bh,if_false]
 | true=>
  rw [hg] at h1
  simp only [S10Fb,az,seval,VX,ae,h1,h2,if_true]
def Vr:= @F57.eq_1
theorem vw {v:V} (k:Bs) (hf:v.fine=true):cK v k=iZ v k:=by
 unfold cK
 by_cases h5:v.kind=5
 ·rw [if_pos h5,zJ k h5 (zS h5 hf)]
  try (cases iW v.m k <;> rfl)
 ·rw [if_neg h5,oO k h5]
theorem qQ {k:Bs} {x:V}: ∀ {m:List Mem},iW m k=some x->∃e∈m,e.2=x
 | [],h=>by simp [iW] at h
 | (a,y) ::m,h=>by
  rw [iW] at h
  split at h
  ·exact ⟨(a,y),by simp,bT h⟩
  ·obtain ⟨e,he,hx⟩:=qQ h
   exact ⟨e,by simp [he],hx⟩
theorem V.zero_fine:V.zero.fine=true:=by rw [V.fine_eq]; decide
theorem TZ {v:V} (h5:v.kind=5) (h:v.fine=true):iN none v.m=true:=by
 rw [V.fine_eq,h5] at h
 simp only [Int.reduceEq,if_false,if_true] at h
 simp only [ak] at h
 exact h.2
theorem mb {v:V} (k:Bs) (hf:v.fine=true):(cK v k).1.fine=true:=by
 unfold cK
 by_cases h5:v.kind=5
 ·rw [if_pos h5]
  cases hl:iW v.m k with
  | none=>exact V.zero_fine
  | some x=>
   obtain ⟨e,he,hx⟩:=qQ hl
   rw [←hx]
   exact (BY (TZ h5 hf) e he).1
 ·rw [if_neg h5]; exact V.zero_fine
theorem mU (v:V) (k:Bs):(cK v k).1.sz<=v.sz:=by
 unfold cK
 have hz:=V.zero_sz
 have hp:=v.sz_pos
 split
 ·cases hl:iW v.m k with
  | none=>simp only; omega
  | some x=>
   obtain ⟨e,he,hx⟩:=qQ hl
   have:=gI he
   have:=v.sz_eq
   rw [hx] at*
   simp only; omega
 ·simp only; omega
theorem sg {v:V} (k:Bs) (h:v.fine=true):iT v k=bR v k:=by
 unfold iT bR
 rw [vw k h]
def cx (c:V):V×Bool:=if c.good=true then ((cK (cK c bS).1 bf).1,(cK (cK c bS).1 bf).2 && (cK (cK c bS).1 bf).1.kind == 5) else (V.zero,false)
theorem vZ (c:V) (hb:c.sz < fF):cR 57 [c.enc]=some (.tup [(cx c).1.enc, .bool (cx c).2]):=by
 have h1:=qD c hb
 have h2:=pT c bS hb
 have z2:=mU c bS
 unfold cx
 generalize cK c bS=t at h2 z2 ⊢
 have h3:=pT t.1 bf aa
 generalize cK t.1 bf=s at h3 ⊢
 obtain ⟨x,ok⟩:=s
 simp only at h3 ⊢
 simp only [bS,bf] at h2 h3
 refine aG (F:=F57) rfl ?_
 cases hg:c.good with
 | false=>
  rw [hg] at h1
  simp only [Vr,az,seval,EXF,VX,ae,h1,bh,if_false,V.zero_enc]
 | true=>
  rw [hg] at h1
  cases ok with
  | false=>simp only [Vr,az,seval,EXF,VX,ae,h1,h2,h3,if_true,Bool.false_and]
  | true=>simp only [Vr,az,seval,EXF,VX,ae,h1,h2,h3,if_true,Bool.true_and]
def jX (c:V):Bs×Bs×Bool:=if (cx c).2=true/\(iT (cx c).1 ep).2=true/\(iT (cx c).1 fT).2=true then ((iT (cx c).1 ep).1,(iT (cx c).1 fT).1,true) else ([], [],false)
theorem sk (c:V):(cx c).1.sz<=c.sz:=by
 unfold cx
 have h1:=mU c bS
 have h2:=mU (cK c bS).1 bf
 have hz:=V.zero_sz
 have hp:=c.sz_pos
 split <;> simp only <;> omega
theorem IG (c:V) (hb:c.sz < fF):cR 32 [c.enc]=some (.tup [.str (jX c).1, .str (jX c).2.1, .bool (jX c).2.2]):=by
 have h1:=vZ c hb
 have z1:=sk c
 unfold jX
 generalize cx c=t at h1 z1 ⊢
 obtain ⟨x,ok⟩:=t
 simp only at h1 z1 ⊢
 have h2:=mN x ep aa
 have h3:=mN x fT aa
 generalize iT x ep=a at h2 ⊢
 generalize iT x fT=b at h3 ⊢
 obtain ⟨a1,a2⟩:=a
 obtain ⟨b1,b2⟩:=b
 simp only at h2 h3 ⊢
 simp only [ep,fT] at h2 h3
 refine aG (F:=F32) rfl ?_
 cases ok <;> cases a2 <;> cases b2 <;> simp only [F32,az,seval,VX,ae,h1,h2,h3,bh,and_true,and_false,false_and,if_true,if_false]
theorem qS (k:Bs):iZ V.zero k=(V.zero,false):=oO k (by simp [V.zero,V.kind])
def U1Fa:=J @KU.eq_1 (J @EE.eq_1 (J @NG.eq_1 (@F161.eq_1)))
theorem HE {id:Nat} {F:au} (hF:cA id=some F) {first args caps:ai} {σ:ag} {Q:AV->ag->Prop}
  (h:Ex cA gU [.code F.body] (fK (first ++args ++caps)) σ fun fr' σ1=>∃r,iO fr' σ1 F.res=some r/\Q r σ1): ∃r σ',cj cA gU (.fn id first caps) args σ=some (r,σ')/\Q r σ':=by
 obtain ⟨n,fr',σ1,h1,r,h2,h3⟩:=h
 exact ⟨r,σ1,cU hF (first:=first) (args:=args) (caps:=caps) ⟨n,fr',σ1,h1,h2,rfl⟩,h3⟩
theorem Mr {l:List Mem} {j:Nat} {e:Mem} {c:aA} (h:l[j]? =some e):idxOf 6 none (.vsl (l.map bp) c) (.int .i64 (j:Int))=some (.vptr (bp e).cells 0):=cB (f:=bp) h (by simp [bq])
theorem Fy (l:List Mem) (f:AV) (p:Mem->Bool) (hf:f.closed=true) (nI:f.er=f) (hlen:l.length < fF) (hp: ∀e∈l,dx cA gU f [bp e]=some (.bool (p e))) :
  cR 161 [.vsl (l.map bp) none,f]=some (.int .i64 (bQ p l 0)):=by
 unfold fF at hlen
 refine aG (F:=F161) rfl ?_
 simp only [KU,EE,F161,ax,az,seval,VX]
 refine gT (S:=Nat) (fun j=> [(0, .vsl (l.map bp) none),(1,f),(7, .int .i64 l.length),(8, .int .i64 (j:Int))]) (fun _=> .empty) (fun j=>l.length - j) (fun j=>bQ p l j=bQ p l 0) ?_ 0 rfl
 intro b j hj ih
 by_cases aR:j < l.length
 ·obtain ⟨v,hv⟩:=cq aR
  have cl:=Mr (c:=none) hv
  have bP:=hp v (bZ hv)
  have aK:=pD aR
  simp only [U1Fa,az,seval,VX,ae,aK,cl,hf,nI,bP]
  split
  ·rename_i BI
   rw [←hj,ja hv BI]
  ·rename_i BI
   refine ih (j+1) _ _ aa ?_ ?_ rfl
   ·rw [←ix hv (by simpa using BI)]; exact hj
   ·rw [cL aR aa]
    simp only [az,seval]
 ·have aK:=pE (Nat.not_lt.1 aR)
  simp only [U1Fa,az,seval,VX,aK]
  rw [←hj,jb aa]
theorem rb_slp {σ:ag} {d b n sz:Nat} {cells rest:ai} (h:σ.cells b=some (cells ++rest)) (h2:cells.length=n*sz) (hs:0 < sz) (hc:ay cells=true) (ha:cells.all AV.notAgg=true) :
  rb σ (d+1) (.sl b 0 n sz none)=some (.vsl (chunks sz n cells) none):=by
 have ht:List.take (n*sz) (List.drop 0 (cells ++rest))=cells:=by rw [List.drop_zero,←h2,List.take_left]
 have e:rb σ (d+1) (.sl b 0 n sz none)=(match σ.cells b with
   | some cs=>
    if 0+n*sz<=cs.length/\0 < sz then
     match cS (rb σ d) ((cs.drop 0).take (n*sz)) with
     | some cs'=>if cs'.all AV.notAgg then some (.vsl (chunks sz n cs') none) else none
     | none=>none
    else none
   | none=>none):=rfl
 rw [e,h]
 simp only
 rw [if_pos ⟨by rw [aq]; omega,hs⟩,ht,cP hc]
 simp only
 rw [if_pos ha]
def Rp {α:Type} (L:fE α) (σ:ag) (v:AV) (l:List α):Prop:=(l= []/\(v= .nils∨v= .vsl [] (some 0)))∨∃b rest,v= .sl b 0 l.length L.sz none/\σ.get b=some (.own (L.cells l ++rest))
theorem Rp.rbD {α:Type} {L:fE α} {σ:ag} {v:AV} {l:List α} (h:Rp L σ v l) (d:Nat): ∃v',Go.Ab.rb σ (d+1) v=some v'/\v'.er= .vsl (l.map L.f) none:=by
 rcases h with ⟨rfl,rfl | rfl⟩ | ⟨b,rest,rfl,h⟩
 ·exact ⟨_,rfl,by simp only [AV.er]; rfl⟩
 ·exact ⟨_,ck rfl,by simp only [AV.er,eP]; rfl⟩
 ·refine ⟨_,rb_slp (cells:=L.cells l) (rest:=rest) (by simp [ag.cells,h]) (L.cells_len l) L.pos (L.cells_closed l) (j4 (L.cells_one l)),?_⟩
  rw [L.chunks]; simp only [AV.er,L.erMap]
theorem jS.rp {α:Type} {L:fE α} {σ:ag} {d:Nat} {v:AV} {l:List α} {cs cs':ai} (hv:Rp L σ v l) (h:jS σ (d+1) cs cs'):jS σ (d+1) (v ::cs) (.vsl (l.map L.f) none ::cs'):=by
 obtain ⟨m,h1,h2⟩:=h
 obtain ⟨v',h3,h4⟩:=hv.rbD d
 exact ⟨v' ::m,by simp only [cS,h3,h1],by simp only [eP,h2,h4]⟩
theorem PX {α:Type} {L:fE α} {σ:ag} {b:Nat} {l:List α} {st:Bool} {f:Nat} {x r:AV} (h:σ.cells b=some (L.cells l)) (hx:x.closed=true) (hxe:x.er=x) (hc:cR f [.vsl (l.map L.f) none,x]=some r) (hr:r.flat=true) :
  gf cA gU st (.fn f [] []) [.sl b 0 l.length L.sz none,x] σ=some (r,σ):=by
 obtain ⟨v',h1,h2⟩ : ∃v',rb σ (23+1) (.sl b 0 l.length L.sz none)=some v'/\v'.er= .vsl (l.map L.f) none:=by
  refine ⟨_,LF (d:=23) h (L.cells_len l) L.pos (L.cells_closed l) (j4 (L.cells_one l)),?_⟩
  rw [L.chunks]; simp only [AV.er,L.erMap]
 refine iz (args':= [v',x]) rfl ?_ ?_ hr
 ·have Gz:rb σ bJ (.sl b 0 l.length L.sz none)=some v':=h1
  simp only [cS,Gz,ck hx]
 ·simp only [eP,h2,hxe]; exact hc
theorem yK {α:Type} (L:fE α) (pre post:List α) (x y:α) (rest:ai):splice (L.cells (pre ++x ::post) ++rest) (pre.length*L.sz) (L.f y).cells=L.cells (pre ++y ::post) ++rest:=by
 unfold splice
 have h1:=L.cells_len pre
 have hx:=L.len x
 have hy:=L.len y
 rw [L.cells_append,L.cells_cons,L.cells_append,L.cells_cons,←h1,hy]
 simp only [bb]
 rw [List.take_left,List.drop_append,List.drop_of_length_le aa,Nat.add_sub_cancel_left,List.nil_append,←hx,List.drop_left]
theorem Rj {α:Type} (L:fE α) (hs:L.sz≠1) (pre post:List α) (x:α) (rest:ai):df (L.cells (pre ++x ::post) ++rest) (pre.length*L.sz) (some L.sz)=some (L.f x):=by
 have hag:=L.agg x
 rw [if_neg hs] at hag
 obtain ⟨cs,ma⟩:=hag
 have h1:=L.cells_len pre
 have hx:=L.len x
 rw [ae,L.cells_append,L.cells_cons,←h1]
 simp only [bb]
 rw [if_pos (by simp; omega),List.drop_left,←hx,List.take_left,ma]
 rfl
def sh6 (x:Int):Int:=IntKind.wrap .u64 (x*2 ^ (min (6:Int).toNat (IntKind.bits .u64)))
theorem shl_6 (x:Int):bk .shl .u64 x 6=some (.int .u64 (sh6 x)):=rfl
def WV (x:Int) (n:Nat):Int:=x.fdiv (2 ^ (min (n:Int).toNat (IntKind.bits .u64)))
theorem shr_N (x:Int) (n:Nat):bk .shr .u64 x (n:Int)=some (.int .u64 (WV x n)):=by
 unfold bk
 rw [if_neg aa]; rfl
theorem DG {left:Int} (h:0<=left) (r:Nat) (hr:r<=6):IntKind.wrap .u64 ((BitVec.ofInt (IntKind.bits .u64) left &&& BitVec.ofInt (IntKind.bits .u64) (2 ^ r - 1)).toNat:Int)=left % 2 ^ r:=by
 obtain ⟨m,rfl⟩:=Int.eq_ofNat_of_zero_le h
 have hp:2 ^ r<=64:=by
  have:=Nat.pow_le_pow_right (n:=2) (by decide) hr
  simpa using this
 have hp0:0 < 2 ^ r:=Nat.two_pow_pos r
 have e0:((2:Int) ^ r - 1)=((2 ^ r - 1:Nat):Int):=by
  rw [Int.ofNat_sub aa]; simp
 have e1:(BitVec.ofInt (IntKind.bits .u64) (m:Int) &&& BitVec.ofInt (IntKind.bits .u64) (2 ^ r - 1)).toNat=m % 2 ^ r:=by
  rw [e0]
  show (BitVec.ofInt 64 (m:Int) &&& BitVec.ofInt 64 ((2 ^ r - 1:Nat):Int)).toNat=_
  rw [BitVec.toNat_and,BitVec.ofInt_natCast,BitVec.ofInt_natCast,BitVec.toNat_ofNat,BitVec.toNat_ofNat,aO (show 2 ^ r - 1 < 2 ^ 64 by omega),Nat.and_two_pow_sub_one_eq_mod]
  exact Nat.mod_mod_of_dvd m (Nat.pow_dvd_pow 2 aa)
 rw [e1]
 have:m % 2 ^ r < 64:=Nat.lt_of_lt_of_le (aZ _ hp0) hp
 have e2:((m:Int) % 2 ^ r)=((m % 2 ^ r:Nat):Int):=by simp
 rw [e2]
 generalize m % 2 ^ r=x at this
 simp only [IntKind.wrap,IntKind.bits,IntKind.signed,bh,if_false,Bool.false_and]
 omega
structure GSt where
 j:Nat
 ob:aA
 out:List Int
 left:Int
 n:Nat
theorem jS.tup {σ:ag} {cs cs':ai} (h:jS σ 23 cs cs'):rbE σ (.tup cs)=some (.tup cs'):=by
 obtain ⟨m,h1,h2⟩:=h
 unfold rbE
 by_cases hc:(AV.tup cs).closed=true
 ·have:m=cs:=by
   have hm:=cP (σ:=σ) (d:=23) (show ay cs=true by simpa [AV.closed] using hc)
   rw [h1] at hm
   exact bT hm
  subst this
  rw [ck hc,Option.map_some,AV.er,h2]
 ·have e:rb σ bJ (.tup cs)=some (.tup m):=by
   show rb σ (23+1) (.tup cs)=_
   rw [rb,if_neg hc,h1]
  rw [e,Option.map_some,AV.er,h2]
theorem nG.gr {α:Type} {L:fE α} {σ:ag} {ob:aA} {l:List α} (h:nG L σ ob l):Gr L σ (ik L.sz ob l.length) l:=by
 cases ob with
 | none=>exact .inl ⟨rfl,ei h.1⟩
 | some b=>exact Gr.own h
def mX (v i:Nat):Nat:=v / 2 ^ (5 - i) % 2
theorem WU {v i:Nat} (hv:v < 64) (hi:i < 6):bk .shr .i64 (v:Int) ((5 - i:Nat):Int)=some (.int .i64 ((v / 2 ^ (5 - i):Nat):Int)):=by
 unfold bk
 rw [if_neg aa]
 have:min ((5 - i:Nat):Int).toNat (IntKind.bits .i64)=5 - i:=by simp [IntKind.bits]; omega
 simp only [this]
 congr 2
 have e:((2:Int) ^ (5 - i))=((2 ^ (5 - i):Nat):Int):=by simp
 rw [e,Int.fdiv_eq_ediv_of_nonneg _ (Int.natCast_nonneg _)]
 rfl
def sh8 (n:Nat):Int:=IntKind.wrap .u8 (1*2 ^ (min (n:Int).toNat (IntKind.bits .u8)))
theorem shl_8 (n:Nat):bk .shl .u8 1 (n:Int)=some (.int .u8 (sh8 n)):=by
 unfold bk
 rw [if_neg aa]; rfl
theorem aad (x:Nat) (hx:x < 64):IntKind.wrap .i64 ((BitVec.ofInt (IntKind.bits .i64) (x:Int) &&& BitVec.ofInt (IntKind.bits .i64) 1).toNat:Int)=((x % 2:Nat):Int):=by
 have e1:(BitVec.ofInt (IntKind.bits .i64) (x:Int) &&& BitVec.ofInt (IntKind.bits .i64) 1).toNat=x % 2:=by
  show (BitVec.ofInt 64 (x:Int) &&& BitVec.ofInt 64 ((2 ^ 1 - 1:Nat):Int)).toNat=_
  rw [BitVec.toNat_and,BitVec.ofInt_natCast,BitVec.ofInt_natCast,BitVec.toNat_ofNat,BitVec.toNat_ofNat,aO (show 2 ^ 1 - 1 < 2 ^ 64 by decide),Nat.and_two_pow_sub_one_eq_mod]
  omega
 rw [e1]
 have:x % 2 < 2:=aZ _ (by decide)
 generalize x % 2=y at this
 simp [IntKind.wrap,IntKind.bits,IntKind.signed]
 omega
theorem w64 {x:Nat} (h:x < 9223372036854775808):IntKind.wrap .i64 (x:Int)=x:=by
 simp [IntKind.wrap,IntKind.bits,IntKind.signed]; omega
def B1Fa:=J @KS.eq_1 (J @ED.eq_1 (J @NF.eq_1 (@F163.eq_1)))
def K1:=J @EB.eq_1 (J @yn.eq_1 (J @EC.eq_1 (J @ym.eq_1 (J @ND.eq_1 (@VS.eq_1)))))
def VZ:=J @EB.eq_1 (J @yn.eq_1 (J @EC.eq_1 (J @ym.eq_1 (@VS.eq_1))))
def B1Ff:= @F219.eq_1
theorem Iw:((List.range 64).all fun j=>S6 ((dd cA (run cA gU 300) (.fn 167 [] []) [rM, .int .u8 j] .empty).bind (fun x=>rbE x.2 x.1)) (xe j))=true:=by kernel_rfl
theorem Xf {j:Nat} (h:j < 64):cR 167 [rM, .int .u8 j]=some (.int .u8 (xe j)):=
 cQ 300 (C4 (bG.1 Iw j (List.mem_range.2 h)))
def Qk (c:Nat):Nat->Nat->Nat
 | 0,_=>64
 | n+1,j=>if xe j=c then j else Qk c n (j+1)
def iU (c:UInt8):Nat:=Qk c.toNat 64 0
theorem SE (c:Nat): ∀n j:Nat,j+n=64->Qk c n j<=64
 | 0,j,h=>aD _
 | n+1,j,h=>by
  unfold Qk
  split
  ·omega
  ·exact SE c n (j+1) aa
theorem Md (c:UInt8):iU c<=64:=SE _ 64 0 rfl
theorem SC {c j:Nat} (h:xe j=c) (hj:j < 64):Qk c (64 - j) j=j:=by
 obtain ⟨n,hn⟩ : ∃n,64 - j=n+1:=⟨63 - j,by omega⟩
 rw [hn]; unfold Qk; rw [if_pos h]
theorem Me {c j:Nat} (h: ¬xe j=c) (hj:j < 64):Qk c (64 - j) j=Qk c (64 - (j+1)) (j+1):=by
 obtain ⟨n,hn⟩ : ∃n,64 - j=n+1:=⟨63 - j,by omega⟩
 rw [hn,show 64 - (j+1)=n by omega]
 show (if xe j=c then j else Qk c n (j+1))=_
 rw [if_neg h]
theorem SD {c j:Nat} (hj:64<=j):Qk c (64 - j) j=64:=by rw [show 64 - j=0 by omega]; rfl
theorem RK (c:UInt8):cR 163 [rM, .int .u8 c.toNat]=some (.int .u8 (iU c)):=by
 refine aG (F:=F163) rfl ?_
 unfold rM
 simp only [KS,ED,F163,ax,az,seval]
 refine gT (S:=Nat) (fun j=> [(1, .int .u8 c.toNat),(2, .vptr [.int .u8 43, .int .u8 47] 0),(5, .int .u8 (j:Int))]) (fun _=> .empty) (fun j=>64 - j) (fun j=>Qk c.toNat (64 - j) j=iU c) ?_ 0 rfl
 intro b j hj ih
 by_cases aR:j < 64
 ·have bP:=Xf aR
  unfold rM at bP
  have aK:decide ((j:Int) < 64)=true:=by simp; omega
  have hw:=wsucc8 aR
  simp only [B1Fa,az,seval,ae,aK,bP]
  by_cases hs:xe j=c.toNat
  ·have hb:((xe j:Int) == (c.toNat:Int))=true:=by simp [hs]
   simp only [B1Fa,az,seval,ae,hb]
   rw [←hj,SC hs aR]
  ·have hb:((xe j:Int) == (c.toNat:Int))=false:=by simp; omega
   simp only [B1Fa,az,seval,ae,hb,hw]
   exact ih (j+1) _ _ aa (by rw [←Me hs aR]; exact hj) rfl rfl
 ·have aK:decide ((j:Int) < 64)=false:=by simp; omega
  simp only [B1Fa,az,seval,aK]
  rw [←hj,SD aa]; rfl
def gx:Nat->Nat->List Nat->Option (aw)
 | n,c, []=>if n < 6/\c=0 then some [] else none
 | n,c,v ::vs=>if v < 64 then (if 2<=n then (gx (n - 2) ((c*64+v) % 2 ^ (n - 2)) vs).map (UInt8.ofNat ((c*64+v) / 2 ^ (n - 2)) :: ·) else gx (n+6) (c*64+v) vs) else none
def gC (s:Bs):Option (aw):=gx 0 0 (s.map iU)
def ql:Option (aw)->AV
 | some l=> .tup [bN l, .int .i64 0]
 | none=> .tup [.vsl [] none, .int .i64 2]
theorem Q8 (m:Nat) {v:Nat} (hv:v < 64) :
  ∃l':Nat,IntKind.wrap .u64 ((BitVec.ofInt (IntKind.bits .u64) (sh6 (m:Int)) ||| BitVec.ofInt (IntKind.bits .u64) (IntKind.wrap .u64 (v:Int))).toNat:Int)=(l':Int)/\l' % 4096=m % 64*64+v:=by
 refine ⟨m*64 % 2 ^ 64+v,?_,by omega⟩
 have e1:sh6 (m:Int)=((m*64 % 2 ^ 64:Nat):Int):=by
  simp [sh6,IntKind.wrap,IntKind.bits,IntKind.signed]
 have e2:(IntKind.wrap .u64 (v:Int))=((v:Nat):Int):=by
  simp [IntKind.wrap,IntKind.bits,IntKind.signed]; omega
 rw [e1,e2]
 have e3:(BitVec.ofInt (IntKind.bits .u64) ((m*64 % 2 ^ 64:Nat):Int) ||| BitVec.ofInt (IntKind.bits .u64) ((v:Nat):Int)).toNat=(m*64 % 2 ^ 64) ||| v:=by
  show (BitVec.ofInt 64 ((m*64 % 2 ^ 64:Nat):Int) ||| BitVec.ofInt 64 ((v:Nat):Int)).toNat=_
  rw [BitVec.toNat_or,BitVec.ofInt_natCast,BitVec.ofInt_natCast,BitVec.toNat_ofNat,BitVec.toNat_ofNat,Nat.mod_mod,aO (show v < 2 ^ 64 by omega)]
 rw [e3]
 have e4:((m*64 % 2 ^ 64) ||| v)=m*64 % 2 ^ 64+v:=by
  rw [show m*64 % 2 ^ 64=(m % 2 ^ 58) <<< 6 by rw [Nat.shiftLeft_eq]; omega,←Nat.shiftLeft_add_eq_or_of_lt aa]
 rw [e4]
 simp only [IntKind.wrap,IntKind.bits,IntKind.signed,bh,if_false,Bool.false_and]
 omega
theorem Q7 (m k:Nat) (hk:k<=64):WV (m:Int) k=((m / 2 ^ k:Nat):Int):=by
 unfold WV
 rw [show min ((k:Nat):Int).toNat (IntKind.bits .u64)=k from by rw [Int.toNat_natCast]; exact Nat.min_eq_left hk,Int.fdiv_eq_ediv_of_nonneg _ (by exact Int.le_of_lt (Int.pow_pos (by decide)))]
 simp
theorem Uy {α:Type} {l:List α} {j:Nat} {c:α} (h:l[j]? =some c):l.drop j=c ::l.drop (j+1):=by
 obtain ⟨h1,h2⟩:=bI.1 h
 rw [List.drop_eq_getElem_cons h1,h2]
structure HSt where
 j:Nat
 ob:aA
 out:aw
 left:Nat
 n:Nat
def fH:AV:= .fn 163 [rM] []
theorem callH (c:UInt8) (σ:ag):gf cA gU false fH [.int .u8 c.toNat] σ=some (.int .u8 (iU c),σ):=
 iz (args':= [.int .u8 c.toNat]) rfl rfl (by have h:=RK c; unfold cR at h; exact h) rfl
def HInv (s:Bs) (t:HSt) (σ:ag):Prop:=t.j<=s.length/\(t.n=0∨t.n=2∨t.n=4∨t.n=6)/\t.out.length<=t.j/\mz σ 1 t.ob t.out.length (af t.out)/\
 (gx t.n (t.left % 2 ^ t.n) ((s.drop t.j).map iU)).map (t.out ++ ·)=gC s
def Qb (s:Bs) (r:AV) (σ:ag):Prop:=rbE σ r=some (ql (gC s))
theorem Gy {s:Bs} {σ:ag} (h:gC s=none):Qb s (.tup [.nils, .int .i64 2]) σ:=by rw [Qb,h]; rfl
theorem yT {σ:ag} {ob:aA} {l:aw} {e:Int} (h:mz σ 1 ob l.length (af l)):rbE σ (.tup [ik 1 ob l.length, .int .i64 e])=some (.tup [bN l, .int .i64 e]):=by
 cases ob with
 | none=>
  obtain ⟨h1,h2⟩:=h
  have:l= []:=ei h1
  subst this; rfl
 | some b=>
  obtain ⟨h1,h2,h3,h4⟩:=h
  have hb:look σ.m b=some (.own (af l)):=h1
  have k1:rb σ 23 (ik 1 (some b) l.length)=some (bN l):=by
   show rb σ 23 (.sl b 0 l.length 1 _)=_
   rw [show 23=22+1 from rfl,jC hb (by rw [aM]; omega) (aC _) (gy _),List.drop_zero,aJ (by rw [aM]; omega)]
  have k2:rb σ 23 (.int .i64 e)=some (.int .i64 e):=ck rfl
  have nc:(AV.tup [ik 1 (some b) l.length, .int .i64 e]).closed=false:=rfl
  have e1:rb σ bJ (.tup [ik 1 (some b) l.length, .int .i64 e])=some (.tup [bN l, .int .i64 e]):=by
   show rb σ (23+1) _=_
   rw [rb,if_neg (by rw [nc]; decide)]
   simp only [cS,k1,k2]
  unfold rbE
  rw [e1]
  simp only [Option.map_some,AV.er,cg,bF,dt]
theorem Zf (s:Bs) (hb:s.length < lim): ∃r σ',cj cA gU (.fn 164 [] []) [.str s,fH] .empty=some (r,σ')/\Qb s r σ':=by
 unfold lim at hb
 refine HE (F:=VS) rfl (first:= []) (caps:= []) ?_
 simp only [EB,yn,ym,VS,ax,az,seval,VX]
 refine aP (S:=HSt) (fun t=> [(0, .str s),(1,fH),(6,ik 1 t.ob t.out.length),(7, .int .u64 (t.left:Int)),(8, .int .u64 (t.n:Int)),(12, .int .i64 s.length),(13, .int .i64 (t.j:Int))]) (fun t=>s.length - t.j) (HInv s) ?_ ⟨0,none, [],0,0⟩ .empty ⟨by simp, .inl rfl,by simp,⟨rfl,rfl⟩,by simp [gC]⟩
 rintro b ⟨j,ob,out,left,n⟩ σ ⟨h1,h2,h3,h4,h6⟩ ih
 simp only at h1 h2 h3 h4 h6
 by_cases aR:j < s.length
 ·obtain ⟨c,hc⟩:=cq aR
  have aK:=pD aR
  have Gp:=U1 hc
  have bP:=callH c σ
  have hw:=cL aR aa
  have hle:=Md c
  have Ty:s.drop j=c ::s.drop (j+1):=Uy hc
  rw [Ty,List.map_cons] at h6
  by_cases hv:iU c=64
  ·have he:((iU c:Int) == 64)=true:=by simp [hv]
   have hbad:gC s=none:=by rw [←h6,gx,if_neg aa]; rfl
   simp only [VZ,az,seval,VX,aK,Gp,bP,he]
   exact ⟨_,rfl,Gy hbad⟩
  ·have he:((iU c:Int) == 64)=false:=by simp; omega
   obtain ⟨l',hl',hl6⟩:=Q8 left (v:=iU c) aa
   have hw8:IntKind.wrap .u64 ((n:Int)+6)=((n+6:Nat):Int):=by
    have:n<=6:=by omega
    simp [IntKind.wrap,IntKind.bits,IntKind.signed]; omega
   rw [gx,if_pos aa] at h6
   simp only [VZ,az,seval,VX,aK,Gp,bP,he,shl_6,hl',hw8,hw]
   by_cases h8:2<=n
   ·rw [if_pos h8] at h6
    have hg:decide (((n+6:Nat):Int)≥8)=true:=by simp; omega
    have hw9:IntKind.wrap .u64 (((n+6:Nat):Int) - 8)=((n - 2:Nat):Int):=by
     have:n<=6:=by omega
     simp [IntKind.wrap,IntKind.bits,IntKind.signed]; omega
    have hz:IntKind.wrap .u8 (WV l' (n - 2))=((UInt8.ofNat (((left % 2 ^ n)*64+iU c) / 2 ^ (n - 2))).toNat:Int):=by
     rw [eW,Q7 _ _ aa,mI]
     rcases (by omega:n=2∨n=4∨n=6) with hn | hn | hn <;> subst hn <;> simp only [Nat.reduceSub,Nat.reducePow] <;> omega
    have rZ:l' % 2 ^ (n - 2)=((left % 2 ^ n)*64+iU c) % 2 ^ (n - 2):=by
     rcases (by omega:n=2∨n=4∨n=6) with hn | hn | hn <;> subst hn <;> simp only [Nat.reduceSub,Nat.reducePow] <;> omega
    obtain ⟨σ2,da,tW⟩:=jZ (c:=UInt8.ofNat (((left % 2 ^ n)*64+iU c) / 2 ^ (n - 2))) h4 aa
    generalize UInt8.ofNat (((left % 2 ^ n)*64+iU c) / 2 ^ (n - 2))=z at*
    have jm:lenOf (.vsl [AV.int .u8 (z.toNat:Int)] (some 1))=some 1:=rfl
    have ll:rowOf σ 1 (.vsl [AV.int .u8 (z.toNat:Int)] (some 1))=some [AV.int .u8 (z.toNat:Int)]:=rfl
    simp only [VZ,az,seval,VX,hg,hw9,hw,shr_N,hz,jm,ll,da]
    refine ih ⟨j+1,some σ.next,out ++ [z],l',n - 2⟩ _ _ (by simp only; omega) ⟨aR,by simp only; omega,by simp only [aq,List.length_cons,List.length_nil]; omega,tW,?_⟩ rfl
    simp only
    rw [rZ,←h6,Option.map_map]
    congr 1
    funext x
    simp
   ·rw [if_neg h8] at h6
    have hn0:n=0:=by omega
    subst hn0
    have hg:decide (((0+6:Nat):Int)≥8)=false:=rfl
    simp only [VZ,az,seval,VX,hg,hw]
    refine ih ⟨j+1,ob,out,l',6⟩ _ _ (by simp only; omega) ⟨aR, .inr (.inr (.inr rfl)),by simp only; omega,h4,?_⟩ rfl
    simp only
    have lF:l' % 2 ^ 6=left % 2 ^ 0*64+iU c:=by simp only [Nat.reducePow]; omega
    rw [lF]; exact h6
 ·have aK:=pE (Nat.not_lt.1 aR)
  have hj:j=s.length:=by omega
  subst hj
  rw [List.drop_length,List.map_nil,gx] at h6
  simp only [VZ,az,seval,VX,aK]
  rcases h2 with hn | hn | hn | hn <;> subst hn
  ·have hg:decide (((0:Nat):Int)≥6)=false:=rfl
   have hs:bk .shl .u64 1 ((0:Nat):Int)=some (.int .u64 1):=rfl
   have nH:bk .shl .u64 1 0=some (.int .u64 1):=rfl
   have hm:IntKind.wrap .u64 0=0:=rfl
   have hd:(left:Int) % 2 ^ 0=((left % 1:Nat):Int):=by simp
   have ha:IntKind.wrap .u64 ((BitVec.ofInt (IntKind.bits .u64) (left:Int) &&& BitVec.ofInt (IntKind.bits .u64) 0).toNat:Int)=((left % 1:Nat):Int):=(DG (Int.natCast_nonneg left) 0 (by decide)).trans hd
   by_cases hz:left % 1=0
   ·have fV:(((left % 1:Nat):Int) != 0)=false:=by rw [hz]; rfl
    rw [if_pos ⟨by decide,hz⟩] at h6
    simp only [K1,az,seval,VX,hg,hs,nH,hm,ha,fV]
    refine ⟨_,rfl,?_⟩
    rw [Qb,←h6]
    simp only [Option.map_some,bC,ql]
    exact yT h4
   ·have fV:(((left % 1:Nat):Int) != 0)=true:=by rw [bne_iff_ne]; omega
    rw [if_neg (fun c=>hz c.2)] at h6
    simp only [K1,az,seval,VX,hg,hs,nH,hm,ha,fV]
    exact ⟨_,rfl,Gy h6.symm⟩
  ·have hg:decide (((2:Nat):Int)≥6)=false:=rfl
   have hs:bk .shl .u64 1 ((2:Nat):Int)=some (.int .u64 4):=rfl
   have nH:bk .shl .u64 1 2=some (.int .u64 4):=rfl
   have hm:IntKind.wrap .u64 3=3:=rfl
   have hd:(left:Int) % 2 ^ 2=((left % 4:Nat):Int):=by simp
   have ha:IntKind.wrap .u64 ((BitVec.ofInt (IntKind.bits .u64) (left:Int) &&& BitVec.ofInt (IntKind.bits .u64) 3).toNat:Int)=((left % 4:Nat):Int):=(DG (Int.natCast_nonneg left) 2 (by decide)).trans hd
   by_cases hz:left % 4=0
   ·have fV:(((left % 4:Nat):Int) != 0)=false:=by rw [hz]; rfl
    rw [if_pos ⟨by decide,hz⟩] at h6
    simp only [K1,az,seval,VX,hg,hs,nH,hm,ha,fV]
    refine ⟨_,rfl,?_⟩
    rw [Qb,←h6]
    simp only [Option.map_some,bC,ql]
    exact yT h4
   ·have fV:(((left % 4:Nat):Int) != 0)=true:=by rw [bne_iff_ne]; omega
    rw [if_neg (fun c=>hz c.2)] at h6
    simp only [K1,az,seval,VX,hg,hs,nH,hm,ha,fV]
    exact ⟨_,rfl,Gy h6.symm⟩
  ·have hg:decide (((4:Nat):Int)≥6)=false:=rfl
   have hs:bk .shl .u64 1 ((4:Nat):Int)=some (.int .u64 16):=rfl
   have nH:bk .shl .u64 1 4=some (.int .u64 16):=rfl
   have hm:IntKind.wrap .u64 15=15:=rfl
   have hd:(left:Int) % 2 ^ 4=((left % 16:Nat):Int):=by simp
   have ha:IntKind.wrap .u64 ((BitVec.ofInt (IntKind.bits .u64) (left:Int) &&& BitVec.ofInt (IntKind.bits .u64) 15).toNat:Int)=((left % 16:Nat):Int):=(DG (Int.natCast_nonneg left) 4 (by decide)).trans hd
   by_cases hz:left % 16=0
   ·have fV:(((left % 16:Nat):Int) != 0)=false:=by rw [hz]; rfl
    rw [if_pos ⟨by decide,hz⟩] at h6
    simp only [K1,az,seval,VX,hg,hs,nH,hm,ha,fV]
    refine ⟨_,rfl,?_⟩
    rw [Qb,←h6]
    simp only [Option.map_some,bC,ql]
    exact yT h4
   ·have fV:(((left % 16:Nat):Int) != 0)=true:=by rw [bne_iff_ne]; omega
    rw [if_neg (fun c=>hz c.2)] at h6
    simp only [K1,az,seval,VX,hg,hs,nH,hm,ha,fV]
    exact ⟨_,rfl,Gy h6.symm⟩
  ·have hg:decide (((6:Nat):Int)≥6)=true:=rfl
   rw [if_neg aa] at h6
   simp only [K1,az,seval,VX,hg]
   exact ⟨_,rfl,Gy h6.symm⟩
theorem RR (s:Bs) (hb:s.length < lim):cR 164 [.str s,fH]=some (ql (gC s)):=by
 obtain ⟨r,σ',h1,h2⟩:=Zf s hb
 show dx cA gU (.fn 164 [] []) _=_
 unfold dx
 rw [h1]; exact h2
theorem RU (s:Bs) (hb:s.length < lim):cR 219 [.str s]=some (ql (gC s)):=by
 have h1:=RR s hb
 have hg:gU 4= [.int .u8 43, .int .u8 47]:=rfl
 simp only [fH,rM] at h1
 refine aG (F:=F219) rfl ?_
 cases h:gC s with
 | none=>
  rw [h] at h1
  simp only [ql] at h1 ⊢
  simp only [B1Ff,az,seval,VX,ae,hg,h1]
 | some l=>
  rw [h] at h1
  simp only [ql,bN] at h1 ⊢
  simp only [B1Ff,az,seval,VX,ae,hg,h1,aC,bF]
def U2Fa:=J @yr.eq_1 (J @yq.eq_1 (J @yp.eq_1 (@Qe.eq_1)))
def U2Fb:=J @yr.eq_1 (J @yq.eq_1 (@Qe.eq_1))
abbrev sR:ai:= [.str [], .int .i64 0, .int .i64 0, .str [], .nils, .nils]
structure DelI (l:List Mem) (p:Mem->Bool) (b0:Nat) (σ0:ag) (j:Nat) (kept iQ:List Mem) (σ:ag):Prop where
 row:look σ.m b0=some (.own (bm.cells (kept ++iQ ++l.drop j)))
 len:kept.length+iQ.length=j
 le:j<=l.length
 kept_eq:kept=(l.take j).filter fun x=> !p x
 nx:σ0.next<=σ.next
 old: ∀b,b < σ0.next->b≠b0->σ.get b=σ0.get b
 b0:b0 < σ0.next
theorem Iu {b n i:Nat} (h:i<=n):slice3 6 (.sl b 0 n 6 none) (some (some (i:Int))) (some none) (some none)=some (.sl b (i*6) (n - i) 6 none):=by
 have hb:bounds n (some (i:Int)) none=some (i,n):=by simp [bounds]; omega
 simp only [slice3,dq,hb,if_true,Option.map_none,Nat.zero_add]
theorem Iv {b n i:Nat} (h:i<=n):slice3 6 (.sl b 0 n 6 none) (some none) (some (some (i:Int))) (some none)=some (.sl b 0 i 6 none):=by
 have hb:bounds n none (some (i:Int))=some (0,i):=by simp [bounds]; omega
 simp only [slice3,dq,hb,if_true,Option.map_none,Nat.zero_add,Nat.zero_mul,Nat.sub_zero]
theorem zw {b n j:Nat} {σ:ag} (h:j < n):idxOf 6 none (.sl b 0 n 6 none) (.int .i64 (j:Int))=some (.ptr b (j*6)):=by
 have h2:((j:Int) < (n:Int)):=by omega
 simp [Go.Ab.idxOf,h2]
theorem PL (kept iQ D:List Mem) (x:Mem): ∃Mq,splice (bm.cells (kept ++iQ ++x ::D)) (kept.length*6) (bp x).cells=bm.cells ((kept ++ [x]) ++Mq ++D)/\Mq.length=iQ.length:=by
 cases iQ with
 | nil=>
  refine ⟨[],?_,rfl⟩
  have:splice (bm.cells (kept ++x ::D) ++ []) (kept.length*6) (bp x).cells=bm.cells (kept ++x ::D) ++ []:=yK bm kept D x x []
  simpa using this
 | cons y iQ=>
  refine ⟨iQ ++ [x],?_,by simp⟩
  have:splice (bm.cells (kept ++y ::(iQ ++x ::D)) ++ []) (kept.length*6) (bp x).cells=bm.cells (kept ++x ::(iQ ++x ::D)) ++ []:=yK bm kept (iQ ++x ::D) y x []
  simpa using this
theorem UB {l:List Mem} {f:AV} {p:Mem->Bool} {b0:Nat} {σ0:ag} {k:List Item} {Q:Fr->ag->Prop} (hf:f.closed=true) (nI:f.er=f) (hlen:l.length < lim) (hp: ∀e∈l,dx cA gU f [bp e]=some (.bool (p e)))
  {j:Nat} {kept iQ:List Mem} {σ:ag} (h:DelI l p b0 σ0 j kept iQ σ)
  (hk: ∀(kept iQ:List Mem) (σ:ag) (fr:Fr),DelI l p b0 σ0 l.length kept iQ σ->(look fr 0).getD .undef= .sl b0 0 l.length 6 none->(look fr 5).getD .undef= .int .i64 (kept.length:Int)->Ex cA gU k fr σ Q) :
  Ex cA gU (.code yp :: .inLoop [0,1,5,6] yp :: .inBlock 0 ::k) [(0, .sl b0 0 l.length 6 none),(1,f),(5, .int .i64 (kept.length:Int)),(6, .int .i64 (j:Int))] σ Q:=by
 unfold lim at hlen
 refine aP (S:=Nat×List Mem×List Mem) (fun s=> [(0, .sl b0 0 l.length 6 none),(1,f),(5, .int .i64 (s.2.1.length:Int)),(6, .int .i64 (s.1:Int))]) (fun s=>l.length - s.1)
  (fun s σ=>DelI l p b0 σ0 s.1 s.2.1 s.2.2 σ) ?_ (j,kept,iQ) σ h
 rintro b ⟨j,kept,iQ⟩ σ h ih
 simp only at h ih ⊢
 have Gv:=h.b0
 have BJ:=h.nx
 have fV:(σ.next=b0)=False:=by simp; omega
 by_cases aR:j < l.length
 ·obtain ⟨x,hx⟩:=cq aR
  have aK:=pD aR
  have gz:=h.row
  have V6:=hp x (bZ hx)
  rw [drop_cons hx] at gz
  have V9:kept.length<=j:=by have:=h.len; omega
  have cl:=zw (b:=b0) (σ:=σ) aR
  have l9:=zw (b:=b0) (n:=l.length) (σ:=σ) (j:=kept.length) aa
  have hread:df (bm.cells (kept ++iQ ++x ::l.drop (j+1))) (j*6) (some 6)=some (bp x):=by
   have:=Rj bm (by simp [bm]) (kept ++iQ) (l.drop (j+1)) x []
   have hl:(kept ++iQ).length=j:=by simp; exact h.len
   rw [hl] at this
   simpa [bm] using this
  have hw:=cL aR aa
  have zz:=cL (j:=kept.length) (n:=l.length) aa aa
  obtain ⟨Mq,tT,Y2⟩:=PL kept iQ (l.drop (j+1)) x
  have gh:(bp x).cells.length=6:=by simp [bq]
  have hle:kept.length*6+6<=(bm.cells (kept ++iQ ++x ::l.drop (j+1))).length:=by
   rw [bm.cells_len]
   have:(kept ++iQ ++x ::l.drop (j+1)).length=l.length:=by simp; have:=h.len; omega
   rw [this]
   show kept.length*6+6<=l.length*6
   omega
  have dh:(bp x).cells.all AV.one=true:=bm.one x
  have uL:(l.take (j+1)).filter (fun x=> !p x)=kept ++(if p x then [] else [x]):=by
   rw [List.take_add_one,hx,List.filter_append,h.kept_eq]
   cases hpx':p x <;> simp [hpx']
  have hzl:(6:Nat)<= [AV.str [],AV.int .i64 0,AV.int .i64 0,AV.str [],AV.nils,AV.nils].length:=by simp
  have hspl0:splice [AV.str [],AV.int .i64 0,AV.int .i64 0,AV.str [],AV.nils,AV.nils] 0 (bp x).cells=(bp x).cells:=by simp [splice,bq]
  cases BI:p x with
  | true=>
   rw [BI] at V6
   simp only [U2Fa,az,seval,VX,ae,aK,cl,gz,hread,hf,nI,V6,hw,fV]
   refine ih (j+1,kept,iQ ++ [x]) _ _ (by simp; omega) ⟨?_,by have:=h.len; simp; omega,aR,?_,by show σ0.next<=σ.next+1; omega,?_,Gv⟩ (by simp only [az,seval])
   ·show look ((σ.next,_) ::(σ.next,_) ::σ.m) b0=_
    simp only [look,fV,if_false,gz]
    simp
   ·simp only [uL,BI,if_true,bC]
   ·intro b hb AK
    show look ((σ.next,_) ::(σ.next,_) ::σ.m) b=_
    have hnb:(σ.next=b)=False:=by simp; omega
    simp only [look,hnb,if_false]
    exact h.old b hb AK
  | false=>
   rw [BI] at V6
   simp only [bq] at tT dh hle
   simp only [U2Fa,az,seval,VX,ae,aK,cl,l9,gz,hread,hf,nI,V6,hw,zz,fV,tT,dh,hle]
   refine ih (j+1,kept ++ [x],Mq) _ _ (by simp; omega) ⟨?_,by have:=h.len; simp; omega,aR,?_,by show σ0.next<=σ.next+1; omega,?_,Gv⟩ (by simp only [az,seval,aq])
   ·show look ((b0,_) ::(σ.next,_) ::(σ.next,_) ::σ.m) b0=_
    simp only [look,if_true]
    exact congrArg (fun c=>some (jP.own c)) tT
   ·simp only [uL,BI,bh,if_false]
   ·intro b hb AK
    show look ((b0,_) ::(σ.next,_) ::(σ.next,_) ::σ.m) b=_
    have hnb:(σ.next=b)=False:=by simp; omega
    have hnb2:(b0=b)=False:=by simp; exact fun hh=>AK hh.symm
    simp only [look,hnb,hnb2,if_false]
    exact h.old b hb AK
 ·have aK:=pE (Nat.not_lt.1 aR)
  have hj:j=l.length:=by have:=h.le; omega
  simp only [U2Fa,az,seval,aK]
  subst hj
  exact hk kept iQ σ _ h (by simp only [az,seval]) (by simp only [az,seval])
theorem zR {α:Type} {p:α->Bool} {l:List α} {i:Nat} (h:l.findIdx? p=some i):bQ p l 0=(i:Int):=by
 unfold bQ; rw [List.drop_zero,h]; rfl
theorem Dh {α:Type} {p:α->Bool} {l:List α} (h:l.findIdx? p=none):bQ p l 0= -1:=by
 unfold bQ; rw [List.drop_zero,h]
theorem UX (l:List Mem) (f:AV) (p:Mem->Bool) (hf:f.closed=true) (nI:f.er=f) (hlen:l.length < lim) (hp: ∀e∈l,dx cA gU f [bp e]=some (.bool (p e)))
  (σ:ag) (b0:Nat) (tW:σ.get b0=some (.own (bm.cells l))) (Gv:b0 < σ.next) :
  ∃σ',cj cA gU (.fn 155 [] []) [.sl b0 0 l.length 6 none,f] σ=some (.sl b0 0 (l.filter fun x=> !p x).length 6 none,σ')/\(∃rest,σ'.get b0=some (.own (bm.cells (l.filter fun x=> !p x) ++rest)))/\σ.next<=σ'.next/\∀b,b < σ.next->b≠b0->σ'.get b=σ.get b:=by
 have hi:=Fy l f p hf nI (by unfold lim at hlen; unfold fF; omega) hp
 have bP:gf cA gU false (.fn 161 [] []) [.sl b0 0 l.length 6 none,f] σ=some (.int .i64 (bQ p l 0),σ):=PX (L:=bm) (l:=l) (by simp [ag.cells,tW]) hf nI hi rfl
 have qh:=hlen
 unfold lim at qh
 suffices hh: ∃r σ',cj cA gU (.fn 155 [] []) [.sl b0 0 l.length 6 none,f] σ=some (r,σ')/\(r= .sl b0 0 (l.filter fun x=> !p x).length 6 none/\(∃rest,σ'.get b0=some (.own (bm.cells (l.filter fun x=> !p x) ++rest)))/\σ.next<=σ'.next/\∀b,b < σ.next->b≠b0->σ'.get b=σ.get b) by
  obtain ⟨r,σ',h1,rfl,h2⟩:=hh
  exact ⟨σ',h1,h2⟩
 refine HE (F:=Qe) rfl (first:= []) (caps:= []) ?_
 cases hq:l.findIdx? p with
 | none=>
  rw [Dh hq] at bP
  have hall:l.filter (fun x=> !p x)=l:=by
   rw [List.findIdx?_eq_none_iff] at hq
   rw [List.filter_eq_self]
   intro x hx
   simp [hq x hx]
  simp only [U2Fb,az,seval,bP]
  refine ⟨_,rfl,?_⟩
  rw [hall]
  exact ⟨rfl, [],by rw [bC]; exact tW⟩
 | some i=>
  rw [zR hq] at bP
  obtain ⟨hil,hpi,Zc⟩:=List.findIdx?_eq_some_iff_getElem.1 hq
  have hx:l[i]? =some l[i]:=bx hil
  have hne1:((i:Int) == -1)=false:=by simp
  have hw:=cL hil aa
  have hk0:(l.take (i+1)).filter (fun x=> !p x)=l.take i:=by
   rw [List.take_add_one,hx,List.filter_append]
   have h1:(l.take i).filter (fun x=> !p x)=l.take i:=by
    rw [List.filter_eq_self]
    intro x Ib
    obtain ⟨j,hj,rfl⟩:=List.mem_iff_getElem.1 Ib
    simp only [bU] at hj
    rw [List.getElem_take]
    have:=Zc j aa
    simp [this]
   rw [h1]; simp [hpi]
  have h0:DelI l p b0 σ (i+1) (l.take i) [l[i]] σ:=by
   refine ⟨?_,by simp; omega,hil,hk0.symm,aD _,fun _ _ _=>rfl,Gv⟩
   have:l.take i ++ [l[i]] ++l.drop (i+1)=l:=by
    have e:l.take i ++ [l[i]]=l.take (i+1):=by rw [List.take_add_one,hx]; rfl
    rw [e]; exact ed (i+1) l
   rw [this]
   exact tW
  have V9:(l.take i).length=i:=by simp; omega
  have hloop:=fun {k Q}=>UB (k:=k) (Q:=Q) hf nI hlen hp h0
  rw [V9] at hloop
  simp only [U2Fb,ax,az,seval,bP,hne1,hw]
  refine hloop ?_
  intro kept iQ σ' fr hI h0' h5'
  have gz:=hI.row
  rw [cc (aD _),bC] at gz
  have hkle:kept.length<=l.length:=by have:=hI.len; omega
  have rF:=Iu (b:=b0) hkle
  have nH:=Iv (b:=b0) hkle
  have hclr:o8 σ' 6 sR (.sl b0 (kept.length*6) (l.length - kept.length) 6 none)=some (.tup [],σ'.set b0 (.own (bm.cells kept ++yS (l.length - kept.length) sR))):=by
   have hown':σ'.owned b0=some (bm.cells (kept ++iQ)):=by
    have:σ'.get b0=some (.own (bm.cells (kept ++iQ))):=gz
    simp [ag.owned,this]
   have gh:=bm.cells_len (kept ++iQ)
   have MF:=bm.cells_len kept
   have Y2:(kept ++iQ).length=l.length:=by rw [aq]; exact hI.len
   have fb:bm.sz=6:=rfl
   have V4:(yS (l.length - kept.length) sR).length=(l.length - kept.length)*6:=by unfold yS; rw [il]; rfl
   rw [Y2,fb] at gh
   rw [fb] at MF
   unfold o8
   simp only [hown']
   rw [if_pos ⟨by trivial,by rfl,by omega,by rw [gh]; omega,by rfl⟩]
   have:splice (bm.cells (kept ++iQ)) (kept.length*6) (yS (l.length - kept.length) sR)=bm.cells kept ++yS (l.length - kept.length) sR:=by
    unfold splice
    rw [fE.cells_append,←MF,List.take_left,cc (by rw [aq,V4]; rw [fE.cells_append,aq] at gh; omega),bC]
   rw [this]
  have BN: ∀L:List Nat,keep L fr=L.map fun t=>(t,fr.get t):=fun _=>rfl
  simp only [U2Fb,az,seval,h0',h5',rF,nH,hclr]
  have hke:=hI.kept_eq
  rw [aJ (aD _)] at hke
  rw [←hke]
  refine ⟨_,rfl,rfl,⟨yS (l.length - kept.length) sR,rfl⟩,hI.nx,?_⟩
  intro b hb AK
  rw [if_neg (fun hh=>AK hh.symm)]
  exact hI.old b hb AK
def U3Fc:= @F145.eq_1
theorem Ch (c:aA) (σ:ag):jc cA gU .split (.fn 38 [] []) [.vsl [] c] σ=some (.vsl [] (some 0),σ):=by
 have ua:both cA gU (.fn 38 [] []) σ=true:=DD 100 (by kernel_rfl) (by kernel_rfl)
 simp only [jc,c9,if_true,ua]
theorem Cg (x:Mem) (l:List Mem) (c:aA) (σ:ag) (hb:(x ::l).length < lim) :
  jc cA gU .split (.fn 38 [] []) [.vsl ((x ::l).map bp) c] σ=some (.sl σ.next 0 (x ::l).length 6 none,σ.alloc (bm.cells (x ::l))):=by
 unfold lim at hb
 have ll: ∀σ',rowOf σ' 6 (.vsl ((x ::l).map bp) c)=some (bm.cells (x ::l)):=fun σ'=>bm.rowOf σ' (x ::l) c
 have ha:aF σ 6 96 (.vsl [] (some 0)) (bm.cells (x ::l)) (l.length+1)=some (.sl σ.next 0 (l.length+1) 6 none,σ.alloc (bm.cells (x ::l))):=
  Vf aa aa (by unfold aY; simp at hb; omega) (bm.cells_len (x ::l)) (bm.cells_one _) aa
 have hn:c9 [.vsl ((x ::l).map bp) c]=false:=rfl
 simp only [jc,hn,bh,if_false]
 refine cU (F:=F38) rfl (first:= []) (caps:= []) ?_
 simp only [List.map_cons] at ll
 simp only [F38,az,seval,VX,vk,ll,ha]
theorem P0 (f:AV) (hf:f.closed=true) (nI:f.er=f) (σ:ag):cj cA gU (.fn 155 [] []) [.vsl [] (some 0),f] σ=some (.vsl [] (some 0),σ):=by
 have hi:=Fy [] f (fun _=>false) hf nI (by simp [fF]) (fun _ h=>by cases h)
 have bP:gf cA gU false (.fn 161 [] []) [.vsl [] (some 0),f] σ=some (.int .i64 (-1),σ):=by
  rw [lz rfl (by simp [ay,AV.closed,hf])]
  simp only [eP,AV.er,nI]
  have:dx cA gU (.fn 161 [] []) [.vsl [] none,f]=some (.int .i64 (-1)):=hi
  rw [this]; rfl
 refine cU (F:=Qe) rfl (first:= []) (caps:= []) ?_
 simp only [yr,yq,Qe,az,seval,bP]
def nK (v:V) (p:Bs->Bool):V:=if v.kind=5 then V.mk v.kind v.n v.s v.l (v.m.filter fun x=> !p x.1) else v
theorem ID (f:AV) (p:Bs->Bool) (hf:f.closed=true) (nI:f.er=f) (k:Bs) (hp:dx cA gU f [.str k]=some (.bool (p k))) (v:V) :
  dx cA gU (.fn 154 [] [.vptr [f] 0]) [bp (k,v)]=some (.bool (p k)):=by
 refine uj (F:=F154) rfl (first:= []) (caps:= [.vptr [f] 0]) ?_
 simp only [F154,az,seval,VX,ae,hf,nI,hp]
theorem Oj (v:V) (f:AV) (p:Bs->Bool) (hf:f.closed=true) (nI:f.er=f) (hk:f.known=true) (hc:f.cells= [f]) (hlen:v.m.length < lim) (hp: ∀k,dx cA gU f [.str k]=some (.bool (p k))) :
  cR 145 [v.enc,f]=some (nK v p).enc:=by
 refine aG (F:=F145) rfl ?_
 obtain ⟨r,hr⟩ : ∃r,r=(nK v p).enc:=⟨_,rfl⟩
 rw [←hr]
 unfold nK at hr
 cases h5:v.kind == 5 with
 | false=>
  have Qn:v.kind≠5:=by simpa using h5
  rw [if_neg Qn] at hr
  simp only [U3Fc,az,seval,VX,ae,h5,hk,hc,hr]
 | true=>
  have Qn:v.kind=5:=by simpa using h5
  rw [if_pos Qn] at hr
  have h154: ∀e∈v.m,dx cA gU (.fn 154 [] [.vptr [f] 0]) [bp e]=some (.bool (p e.1)):=fun e _=>ID f p hf nI e.1 (hp e.1) e.2
  have hfc:(AV.fn 154 [] [.vptr [f] 0]).closed=true:=by simp [AV.closed,ay,hf]
  have hfee:(AV.fn 154 [] [.vptr [f] 0]).er= .fn 154 [] [.vptr [f] 0]:=by simp only [AV.er,eP,nI]
  obtain ⟨σ0,hσ⟩ : ∃σ0:ag,σ0=⟨2, [(1, .own [.int .i64 0, .int .i64 0, .str [], .nils, .nils]),(0, .own [.int .i64 v.kind, .int .i64 v.n, .str v.s, .vsl (v.l.map V.enc) none, .vsl (v.m.map bp) none])]⟩:=⟨_,rfl⟩
  cases hm:v.m with
  | nil=>
   rw [hm] at hσ hr
   have c1:=Ch none σ0
   have c2:=P0 _ hfc hfee σ0
   rw [hσ] at c1 c2
   simp only [List.map_nil] at c1 c2
   simp only [U3Fc,az,seval,VX,ae,h5,hk,hc,hm,List.map_nil,c1,c2]
   rw [hr,Qn]; rfl
  | cons x m=>
   have qh:=hlen
   rw [hm] at qh
   have c1:=Cg x m none σ0 qh
   rw [←hm] at c1
   have BJ:σ0.next=2:=by rw [hσ]
   obtain ⟨σ',d1,⟨rest,d2⟩,d3,d4⟩:=UX v.m _ (fun e=>p e.1) hfc hfee hlen h154 (σ0.alloc (bm.cells v.m)) σ0.next (dW (σ:=σ0)) (by simp [eK])
   have z0:look σ'.m 0=look σ0.m 0:=(d4 0 (by simp [eK]) aa).trans (gB (σ:=σ0) aa)
   have z1:look σ'.m 1=look σ0.m 1:=(d4 1 (by rw [eK]; omega) aa).trans (gB (σ:=σ0) aa)
   rw [BJ] at c1 d1 d2
   simp only [hσ,look,if_true,Nat.succ_ne_self,if_false] at z0 z1
   clear d3 d4
   generalize hσa:σ0.alloc (bm.cells v.m)=σa at c1 d1
   rw [hσ] at c1
   simp only [U3Fc,az,seval,VX,ae,h5,hk,hc,c1,d1,z0,z1]
   have gh:(AV.vsl (v.l.map V.enc) none).closed=true:=by simp only [AV.closed,ly]
   have hce:(AV.vsl (v.l.map V.enc) none).er= .vsl (v.l.map V.enc) none:=by simp only [AV.er,ud]
   have hb:=fun (σ1:ag) (h2:look σ1.m 2=some (.own (bm.cells (v.m.filter fun x=> !p x.1) ++rest)))=>
    jS.agg (σ:=σ1) (jS.clo (x:= .int .i64 v.kind) rfl (jS.clo (x:= .int .i64 v.n) rfl (jS.clo (x:= .str v.s) rfl (jS.clo (x:= .vsl (v.l.map V.enc) none) gh (jS.rp (L:=bm) (.inr ⟨2,rest,rfl,h2⟩) (jS.nil σ1 23))))))
   simp only [kV,zW,hce] at hb
   rw [hr,V.enc_eq]
   exact hb _ (by simp only [look,Nat.reduceEqDiff,if_false]; exact d2)
theorem XB (keys:List Bs) (hk:keys.length < fF) (k:Bs):dx cA gU (.fn 144 [] [.vptr [.vsl (keys.map .str) none] 0]) [.str k]=some (.bool (pC keys k)):=by
 have h:=FB keys k hk
 refine uj (F:=F144) rfl (first:= []) (caps:= [.vptr [.vsl (keys.map .str) none] 0]) ?_
 simp only [F144,az,seval,VX,ae,h]
def kY (v:V) (keys:List Bs):V:=nK v (pC keys)
theorem R5 (v:V) (keys:List Bs) (hlen:v.m.length < lim) (hk:keys.length < fF):cR 131 [v.enc, .vsl (keys.map .str) none]=some (kY v keys).enc:=by
 have hc:(AV.fn 144 [] [.vptr [.vsl (keys.map .str) none] 0]).closed=true:=by simp only [AV.closed,ay,oY,aW]
 have he:(AV.fn 144 [] [.vptr [.vsl (keys.map .str) none] 0]).er= .fn 144 [] [.vptr [.vsl (keys.map .str) none] 0]:=by simp only [AV.er,eP,zX]
 have h:=Oj v _ (pC keys) hc he rfl rfl hlen (XB keys hk)
 refine aG (F:=F131) rfl ?_
 simp only [F131,az,seval,VX,ae,h]
 unfold kY
 simp
def GM (σ:ag) (v:AV) (l:List Mem):Prop:=(v= .nils/\l= [])∨∃b,v= .sl b 0 l.length 6 none/\look σ.m b=some (.own (bm.cells l))/\b < σ.next/\0 < b
theorem GM.lenL {σ:ag} {v:AV} {l:List Mem} (h:GM σ v l):lenL v=some (.int .i64 l.length):=by
 rcases h with ⟨rfl,rfl⟩ | ⟨b,rfl,_⟩ <;> rfl
def shC (acc:List Mem) (j:Nat) (iQ:ai):ai:=bm.cells (acc.take j) ++iQ ++bm.cells (acc.drop j)
theorem oA (acc:List Mem) {j:Nat} (h:j<=acc.length):(bm.cells (acc.take j)).length=j*6:=by
 rw [bm.cells_len,bU,Nat.min_eq_left h]; rfl
theorem GM.frame {σ σ':ag} {v:AV} {l:List Mem} (h:GM σ v l) (hn:σ.next<=σ'.next) (hg: ∀b,v= .sl b 0 l.length 6 none->look σ'.m b=look σ.m b):GM σ' v l:=by
 rcases h with h | ⟨b,rfl,h1,h2,h3⟩
 ·exact .inl h
 ·exact .inr ⟨b,rfl,by rw [hg b rfl]; exact h1,by omega,h3⟩
theorem GM.app {σ:ag} {v:AV} {l:List Mem} (h:GM σ v l) (hl:l.length < lim) (hn:0 < σ.next): ∃σ',aF σ 6 96 v sR 1=some (.sl σ.next 0 (l.length+1) 6 none,σ')/\
  look σ'.m σ.next=some (.own (shC l l.length sR))/\σ'.next=σ.next+1/\look σ'.m 0=look σ.m 0:=by
 unfold lim at hl
 have hc:shC l l.length sR=bm.cells l ++sR:=by
  unfold shC
  rw [aJ (aD _),List.drop_of_length_le (aD _)]
  simp [fE.cells]
 rcases h with ⟨rfl,rfl⟩ | ⟨b,rfl,h1,h2,h3⟩
 ·obtain ⟨σ',a1,a2,a3,a4⟩:=fY (σ:=σ) (sz:=6) (bytes:=96) (n:=0) (k:=1) (ob:=none) (cells:= []) (new:=sR) ⟨rfl,rfl⟩ aa aa (by unfold aY; omega) rfl rfl aa
  refine ⟨σ',a1,?_,a3,a4 0 hn (by simp)⟩
  rw [hc]
  exact a2.1
 ·cases l with
  | nil=>
   refine ⟨(σ.set b .dead).alloc ([] ++sR),?_,?_,rfl,?_⟩
   ·have ho:σ.owned b=some []:=by
     have:σ.get b=some (.own (bm.cells [])):=h1
     simp [ag.owned,this,fE.cells]
    unfold aF
    simp only [lenOf,ho,List.length_nil]
    simp [aY,AV.one]
   ·rw [hc]; exact dW (σ:=σ.set b .dead)
   ·have:=gB (σ:=σ.set b .dead) (cs:= [] ++sR) (b:=0) (by rw [p8]; omega)
    exact this.trans (xy aa)
  | cons x l=>
   obtain ⟨σ',a1,a2,a3,a4⟩:=fY (σ:=σ) (sz:=6) (bytes:=96) (n:=(x ::l).length) (k:=1) (ob:=some b) (cells:=bm.cells (x ::l)) (new:=sR) ⟨h1,bm.cells_len _,h2,by simp⟩ aa aa (by unfold aY; omega) rfl rfl aa
   refine ⟨σ',a1,?_,a3,a4 0 hn (by simp; omega)⟩
   rw [hc]
   exact a2.1
end Go.Ab
namespace Go.Ab
set_option maxHeartbeats 1000000
set_option maxRecDepth 100000
def Rd {α:Type} (L:fE α) (σ:ag) (v:AV) (l:List α):Prop:=
 (v= .nils/\l= [])∨(∃b,v= .sl b 0 l.length L.sz none/\σ.cells b=some (L.cells l)/\b < σ.next)∨v= .vsl (l.map L.f) (some l.length)
section
variable {α:Type} {L:fE α} {σ:ag} {v:AV} {l:List α}
theorem Gr.rd (h:Gr L σ v l):Rd L σ v l:=by
 rcases h with h | ⟨b,rfl,h⟩ | h
 ·exact .inl h
 ·exact .inr (.inl ⟨b,rfl,by have:=h.1; simp [ag.cells,this],h.lt⟩)
 ·exact .inr (.inr h)
theorem De (σ:ag) (b:Nat):σ.freeze.cells b=σ.cells b:=by
 have e:σ.freeze.get b=(σ.get b).map fun x=>match x with | .own cs=> .frz cs | x=>x:=by
  unfold ag.freeze ag.get
  simp only
  induction σ.m with
  | nil=>rfl
  | cons p l ih=>
   obtain ⟨i,x⟩:=p
   simp only [List.map_cons,look]
   by_cases h:i=b
   ·rw [if_pos h,if_pos h]; rfl
   ·rw [if_neg h,if_neg h]; exact ih
 unfold ag.cells
 rw [e]
 cases σ.get b with
 | none=>rfl
 | some x=>cases x <;> rfl
theorem Rd.freeze (h:Rd L σ v l):Rd L σ.freeze v l:=by
 rcases h with h | ⟨b,rfl,h,h2⟩ | h
 ·exact .inl h
 ·exact .inr (.inl ⟨b,rfl,by rw [De]; exact h,h2⟩)
 ·exact .inr (.inr h)
theorem Rd.newset (h:Rd L σ v l) (cs cs':ai):Rd L { next:=σ.next+1,m:=(σ.next, .own cs) ::(σ.next, .own cs') ::σ.m } v l:=by
 rcases h with h | ⟨b,rfl,h,h2⟩ | h
 ·exact .inl h
 ·refine .inr (.inl ⟨b,rfl,?_,by simp; omega⟩)
  have:ag.get { next:=σ.next+1,m:=(σ.next, .own cs) ::(σ.next, .own cs') ::σ.m } b=σ.get b:=by
   show look ((σ.next,jP.own cs) ::(σ.next, .own cs') ::σ.m) b=look σ.m b
   simp only [look]; rw [if_neg aa,if_neg aa]
  unfold ag.cells at h ⊢
  rw [this]; exact h
 ·exact .inr (.inr h)
theorem Rd.rb (h:Rd L σ v l): ∃v',Go.Ab.rb σ bJ v=some v'/\v'.er= .vsl (l.map L.f) none:=by
 rcases h with ⟨rfl,rfl⟩ | ⟨b,rfl,h,_⟩ | rfl
 ·exact ⟨_,rfl,by simp only [AV.er]; rfl⟩
 ·refine ⟨_,LF (d:=23) h (L.cells_len l) L.pos (L.cells_closed l) (j4 (L.cells_one l)),?_⟩
  rw [L.chunks]; simp only [AV.er,L.erMap]
 ·refine ⟨_,ck (by simp only [AV.closed]; exact en fun a _=>L.closed a),?_⟩
  simp only [AV.er,L.erMap]
def Dis (v w:AV):Prop:=∀b o len sz c o' cI kl c',v= .sl b o len sz c->w≠ .sl b o' cI kl c'
theorem Dis.symm {v w:AV} (h:Dis v w):Dis w v:=fun _ _ _ _ _ _ _ _ _ h1 h2=>h _ _ _ _ _ _ _ _ _ h2 h1
end
theorem Gr.idxS {σ:ag} {v:AV} {l:List Bs} (h:Gr om σ v l) {j:Nat} {s:Bs} (hj:l[j]? =some s): ∃p,idxOf 1 none v (.int .i64 (j:Int))=some p/\fh σ p none=some (.str s):=by
 have aR:=qP hj
 have hc: ∀m:List Bs,om.cells m=m.map AV.str:=by
  intro m; simp only [fE.cells,om,AV.cells]; induction m with
  | nil=>rfl
  | cons a m ih=>simp [ih]
 rcases h with ⟨rfl,rfl⟩ | ⟨b,rfl,h⟩ | rfl
 ·simp at hj
 ·refine ⟨.ptr b j,?_,?_⟩
  ·simp [idxOf,om,aR]
  ·have:=h.1
   simp only [fh,ag.cells,this,df,hc,bV,hj,Option.map_some]
 ·refine ⟨.vptr [.str s] 0,cB (f:=AV.str) hj rfl,rfl⟩
end Go.Ab
namespace Go.Ab
set_option maxRecDepth 100000
def U6Fe:=J @KW.eq_1 (J @EG.eq_1 (J @NI.eq_1 (@F147.eq_1)))
def eV (s:Bs):V:=V.mk 3 0 s [] []
def lV (l:List Bs):V:=V.mk 4 0 [] (l.map eV) []
theorem r_Has (l:List Bs) (k:Bs) (hlen:l.length < fF):cR 147 [.vsl (l.map .str) none, .str k]=some (.bool (pC l k)):=by
 unfold fF at hlen
 refine aG (F:=F147) rfl ?_
 obtain ⟨r,hr⟩ : ∃r,r=AV.bool (pC l k):=⟨_,rfl⟩
 rw [←hr]
 simp only [KW,EG,F147,ax,az,seval,VX]
 refine gT (S:=Nat) (fun j=> [(0, .vsl (l.map .str) none),(1, .str k),(5, .int .i64 (j:Int))]) (fun _=> .empty) (fun j=>l.length - j) (fun j=>pC (l.drop j) k=pC l k) ?_ 0 rfl
 intro b j hj ih
 by_cases aR:j < l.length
 ·obtain ⟨x,hx⟩:=cq aR
  have cl:=YL (c:=none) hx
  have aK:=pD aR
  have hw:=cL aR aa
  rw [drop_cons hx] at hj
  cases hxk:x == k with
  | true=>
   have:pC l k=true:=by
    rw [←hj]; have:k=x:=by simp at hxk; exact hxk.symm
    simp [pC,this]
   rw [this] at hr
   simp only [U6Fe,az,seval,VX,ae,aK,cl,hxk,hr]
  | false=>
   have hkx:(k == x)=false:=by simp at hxk ⊢; exact fun h=>hxk h.symm
   simp only [U6Fe,az,seval,VX,ae,aK,cl,hxk,hw]
   exact ih (j+1) _ _ aa (by rw [←hj]; simp [pC,hkx]) rfl rfl
 ·have aK:=pE (Nat.not_lt.1 aR)
  rw [cc aa] at hj
  rw [←hj] at hr
  simp only [U6Fe,az,seval,VX,aK,hr]
  rfl
structure LSt (σ:ag) (v:AV) (acc:List V):Prop where
 one:look σ.m 1=some (.own [.int .i64 4, .int .i64 0, .str [],v, .nils])
 nil:look σ.m 0=some (.own [.int .i64 0, .int .i64 0, .str [], .nils, .nils])
 gr:Gr LV σ v acc
 nx:1 < σ.next
 far: ∀b len sz c,b < 2->v≠ .sl b 0 len sz c
theorem LSt.push {σ:ag} {v:AV} {acc:List V} (h:LSt σ v acc) (hl:acc.length < lim) (x:V) :
  aF σ 5 80 v x.enc.cells 1=some (.sl σ.next 0 (acc ++ [x]).length 5 none,cZ LV σ v acc [x])/\look (cZ LV σ v acc [x]).m 1=some (.own [.int .i64 4, .int .i64 0, .str [],v, .nils])/\
  LSt { next:=(cZ LV σ v acc [x]).next,m:=(1, .own [.int .i64 4, .int .i64 0, .str [], .sl σ.next 0 (acc ++ [x]).length 5 none, .nils]) ::(cZ LV σ v acc [x]).m } (.sl σ.next 0 (acc ++ [x]).length 5 none) (acc ++ [x]):=by
 unfold lim at hl
 have BJ:=h.nx
 have hn:=gG LV σ v acc [x]
 have g1:look (cZ LV σ v acc [x]).m 1=look σ.m 1:=iu (m:= [x]) h.gr BJ (fun len sz c=>h.far 1 len sz c aa)
 have g0:look (cZ LV σ v acc [x]).m 0=look σ.m 0:=iu (m:= [x]) h.gr aa (fun len sz c=>h.far 0 len sz c aa)
 have hg:=h.gr.next (m:= [x]) (by simp)
 refine ⟨h.gr.push (a:=x) (bytes:=80) aa (by unfold aY; omega),by rw [g1]; exact h.one,by simp [look],?_,?_,by show 1 < (cZ LV σ v acc [x]).next; omega,?_⟩
 ·show look ((1,_) ::_) 0=_
  simp only [look]
  rw [if_neg aa,g0]; exact h.nil
 ·exact Gr.own (L:=LV) (hg.frame (by show look ((1,_) ::_) σ.next=look _ σ.next; simp only [look]; rw [if_neg aa]) (aD _))
 ·intro b len sz c hb hv
  simp only [AV.sl.injEq] at hv
  omega
theorem LSt.fin {σ:ag} {v:AV} {acc:List V} (h:LSt σ v acc):rbE { next:=σ.next,m:=(0, .own [.int .i64 4, .int .i64 0, .str [],v, .nils]) ::σ.m } (.agg [.int .i64 4, .int .i64 0, .str [],v, .nils])=some (V.mk 4 0 [] acc []).enc:=by
 have hg:Gr LV { next:=σ.next,m:=(0, .own [.int .i64 4, .int .i64 0, .str [],v, .nils]) ::σ.m } v acc:=by
  rcases h.gr with g | ⟨b,rfl,g⟩ | g
  ·exact .inl g
  ·refine .inr (.inl ⟨b,rfl,g.frame ?_ (aD _)⟩)
   have hb:b≠0:=by rintro rfl; exact h.far 0 _ _ _ aa rfl
   show look ((0,_) ::_) b=look _ b
   simp only [look]; rw [if_neg (fun hh=>hb hh.symm)]
  ·exact .inr (.inr g)
 have:=jS.agg (jS.clo (x:= .int .i64 4) rfl (jS.clo (x:= .int .i64 0) rfl (jS.clo (x:= .str []) rfl (jS.gr hg (jS.clo (x:= .nils) rfl (jS.nil _ 23))))))
 simp only [kV,zW,Dm] at this
 rw [V.enc_eq]
 exact this
def U7Fe:=J @EK.eq_1 (J @EJ.eq_1 (J @NJ.eq_1 (@F133.eq_1)))
def U7Ff:=J @EK.eq_1 (J @EJ.eq_1 (@F133.eq_1))
def mR (v:V) (keys:List Bs) (b:Bool):V:=if v.kind=5 then V.mk 5 0 [] [] (v.m.filter fun x=>pC keys x.1 == b) else v
structure KSt (σ:ag) (v:AV) (acc:List Mem):Prop where
 nil:look σ.m 0=some (.own [.int .i64 0, .int .i64 0, .str [], .nils, .nils])
 gr:Gr bm σ v acc
 nx:0 < σ.next
 far: ∀len sz c,v≠ .sl 0 0 len sz c
theorem KSt.push {σ:ag} {v:AV} {acc:List Mem} (h:KSt σ v acc) (hl:acc.length < lim) (x:Mem) :
  aF σ 6 96 v (bp x).cells 1=some (.sl σ.next 0 (acc ++ [x]).length 6 none,cZ bm σ v acc [x])/\KSt (cZ bm σ v acc [x]) (.sl σ.next 0 (acc ++ [x]).length 6 none) (acc ++ [x]):=by
 unfold lim at hl
 have BJ:=h.nx
 have hn:=gG bm σ v acc [x]
 have g0:look (cZ bm σ v acc [x]).m 0=look σ.m 0:=iu (m:= [x]) h.gr aa h.far
 refine ⟨h.gr.push (a:=x) (bytes:=96) aa (by unfold aY; omega),by rw [g0]; exact h.nil,Gr.own (h.gr.next (m:= [x]) (by simp)),by omega,?_⟩
 intro len sz c hv
 simp only [AV.sl.injEq] at hv
 omega
theorem KSt.fin5 {σ:ag} {v:AV} {acc:List Mem} (h:KSt σ v acc) (cs:ai):rbE { next:=σ.next,m:=(0, .own cs) ::σ.m } (.agg [.int .i64 5, .int .i64 0, .str [], .nils,v])=some (V.mk 5 0 [] [] acc).enc:=by
 have hg:Gr bm { next:=σ.next,m:=(0, .own cs) ::σ.m } v acc:=by
  rcases h.gr with g | ⟨b,rfl,g⟩ | g
  ·exact .inl g
  ·refine .inr (.inl ⟨b,rfl,g.frame ?_ (aD _)⟩)
   have hb:b≠0:=by rintro rfl; exact h.far _ _ _ rfl
   show look ((0,_) ::_) b=look _ b
   simp only [look]; rw [if_neg (fun hh=>hb hh.symm)]
  ·exact .inr (.inr g)
 have:=jS.agg (jS.clo (x:= .int .i64 5) rfl (jS.clo (x:= .int .i64 0) rfl (jS.clo (x:= .str []) rfl (jS.clo (x:= .nils) rfl (jS.gr hg (jS.nil _ 23))))))
 simp only [kV,zW,Dm] at this
 rw [V.enc_eq]
 exact this
theorem Yt (x:Mem):lenOf (.vsl [bp x] (some 1))=some 1:=rfl
theorem Ys (x:Mem) (σ:ag):rowOf σ 6 (.vsl [bp x] (some 1))=some (bp x).cells:=by
 have:=bm.rowOf σ [x] (some 1)
 simpa [fE.cells,bm] using this
theorem r_Keep (v:V) (keys:List Bs) (b:Bool) (hk:keys.length < fF) (hm:v.m.length < lim):cR 133 [v.enc, .vsl (keys.map .str) none, .bool b]=some (mR v keys b).enc:=by
 have fe:=hm
 unfold lim at fe
 refine aG (F:=F133) rfl ?_
 obtain ⟨r,hr⟩ : ∃r,r=(mR v keys b).enc:=⟨_,rfl⟩
 rw [←hr]
 unfold mR at hr
 cases h5:v.kind != 5 with
 | true=>
  have Qn:v.kind≠5:=by simpa using h5
  rw [if_neg Qn] at hr
  simp only [U7Ff,az,seval,VX,ae,h5,hr]
 | false=>
  have Qn:v.kind=5:=by simpa using h5
  rw [if_pos Qn] at hr
  simp only [U7Ff,ax,az,seval,VX,ae,h5]
  refine aP (S:=Nat×List Mem×AV) (fun s=> [(1, .vsl (keys.map .str) none),(2, .bool b),(3, .vptr [.int .i64 v.kind, .int .i64 v.n, .str v.s, .vsl (v.l.map V.enc) none, .vsl (v.m.map bp) none] 0),(6, .ptr 0 0),(7,s.2.2),(8, .int .i64 (s.1:Int))])
   (fun s=>v.m.length - s.1) (fun s σ=>KSt σ s.2.2 s.2.1/\s.2.1.length<=s.1/\s.2.1 ++(v.m.drop s.1).filter (fun x=>pC keys x.1 == b)=v.m.filter (fun x=>pC keys x.1 == b)) ?_ (0, [], .nils) _ ⟨⟨rfl,Gr.nil bm _,by simp,fun _ _ _ h=>by cases h⟩,by simp,rfl⟩
  rintro bd ⟨j,acc,w⟩ σ ⟨h,hai,hf⟩ ih
  simp only at h hai hf ih ⊢
  by_cases aR:j < v.m.length
  ·obtain ⟨x,hx⟩:=cq aR
   have aK:=pD aR
   have hw:=cL aR aa
   have cl:=Mr (c:=none) hx
   have hh:=r_Has keys x.1 hk
   rw [drop_cons hx,List.filter_cons] at hf
   obtain ⟨p1,p2⟩:=h.push (by unfold lim; omega) x
   have jm:=Yt x
   have ll:=Ys x
   simp only [bq] at p1 ll
   cases hb:pC keys x.1 == b with
   | true=>
    rw [hb] at hf
    simp only [if_true] at hf
    simp only [U7Fe,az,seval,VX,ae,aK,cl,hh,hb,jm,ll,p1,hw]
    exact ih (j+1,acc ++ [x],_) _ _ (by simp; omega) ⟨p2,by simp; omega,by simpa using hf⟩ (by simp only [az,seval])
   | false=>
    rw [hb] at hf
    simp only [bh,if_false] at hf
    simp only [U7Fe,az,seval,VX,ae,aK,cl,hh,hb,hw]
    exact ih (j+1,acc,w) _ _ (by simp; omega) ⟨h,by simp; omega,hf⟩ (by simp only [az,seval])
  ·have aK:=pE (Nat.not_lt.1 aR)
   rw [List.drop_of_length_le aa,List.filter_nil,bC] at hf
   have h0:=h.nil
   have hp:=h.gr.plain
   have qj:=h.fin5 [.int .i64 5, .int .i64 0, .str [], .nils,w]
   simp only [U7Fe,az,seval,VX,ae,aK,h0,hp.1,hp.2.1,hp.2.2.1]
   rw [qj,hr,hf]
end Go.Ab
namespace Go.Ab
set_option maxHeartbeats 1000000
set_option maxRecDepth 100000
theorem QO {α:Type} {L:fE α} {σ:ag} {b:Nat} {l:List α} (h:σ.get b=some (.frz (L.cells l))):eE σ (.sl b 0 l.length L.sz none) (some 0)=some (.vsl (l.map L.f) none):=by
 have hl:=L.cells_len l
 simp only [eE,h,List.drop_zero]
 rw [aJ (by rw [hl]; exact aD _),if_pos ⟨by rw [hl]; omega,L.pos,j4 (L.cells_one l)⟩,L.chunks]
section
variable (e:Ev)
end
end Go.Ab
namespace Go.Ab
set_option maxRecDepth 100000
theorem Ub {ip:Nat->Option au} {G:Nat->ai} {m:Nat} {c:al} {k:List Item} {fr:Fr} {σ:ag} {Q:Fr->ag->Prop} (h:fr.length=m):Ex ip G (.code (.arity m c) ::k) fr σ Q↔Ex ip G (.code c ::k) fr σ Q:=
 gi fun n=>by simp only [run,h,if_true]
theorem HF {x y:AV} {i:Int} {σ:ag} {r:AV×ag} (h:jJ σ 6 96 x i y=some r):cj cA gU (.fn 153 [] []) [x, .int .i64 i,y] σ=some r:=by
 obtain ⟨v,σ'⟩:=r
 refine cU (F:=Qf) rfl (first:= []) (caps:= []) ?_
 simp only [Qf,Jh,List.nil_append,bC]
 rw [Ub (by rfl)]
 simp only [az,seval,h]
def zK (k:Bs):ai:= [.str k, .int .i64 0, .int .i64 0, .str [], .nils, .nils]
theorem Ta (l:List Mem) (i:Nat) (hi:i<=l.length) (k:Bs):(bm.cells (l.take i) ++zK k ++bm.cells (l.drop i)).length=(l.length+1)*6:=by
 rw [aq,aq,bm.cells_len,bm.cells_len,bU,fw]
 show min i l.length*6+6+(l.length - i)*6=_
 omega
theorem ins_to (l:List Mem) (b c:Nat) (σ:ag) (i:Nat) (k:Bs) (hl:l.length < lim) (hi:i<=l.length) (hb:σ.get b=some (.own (bm.cells l))) (hc:σ.get c=some (.own (zK k))) (hbc:b≠c) (hn:0 < l.length) :
  jJ σ 6 96 (.sl b 0 l.length 6 none) (i:Int) (.sl c 0 1 6 (some 1))=some (.sl σ.next 0 (l.length+1) 6 none,(σ.set b .dead).alloc (bm.cells (l.take i) ++zK k ++bm.cells (l.drop i))):=by
 unfold lim at hl
 have hob:σ.owned b=some (bm.cells l):=by simp [ag.owned,hb]
 have hoc:σ.owned c=some (zK k):=by simp [ag.owned,hc]
 have ll:rowOf σ 6 (.sl c 0 1 6 (some 1))=some (zK k):=by simp [rowOf,ag.cells,hc,zK]
 have MF:=bm.cells_len l
 have fb:bm.sz=6:=rfl
 rw [fb] at MF
 have dh:=bm.cells_one l
 have Ga:(zK k).all AV.one=true:=rfl
 unfold jJ
 simp only [lenOf,ll]
 by_cases he:(i:Int)=(l.length:Int)
 ·have Ps:i=l.length:=by omega
  subst Ps
  rw [if_pos rfl,if_pos aa]
  simp only [aF,lenOf,hob]
  rw [if_pos ⟨by omega,by omega,by unfold aY; omega,rfl,Ga⟩]
  simp only [if_true]
  rw [if_neg aa,if_pos aa]
  simp [fE.cells]
 ·rw [if_neg he]
  simp only [hob,hoc]
  rw [if_pos ⟨hbc,by trivial,by omega,by omega,by omega,by omega,by omega,by unfold aY; omega,by omega,dh,Ga⟩]
  have e1:(bm.cells l).take (i*6)=bm.cells (l.take i):=by
   have:bm.cells l=bm.cells (l.take i) ++bm.cells (l.drop i):=by rw [←fE.cells_append,ed]
   rw [this,←oA l hi,List.take_left]
  have e2:(bm.cells l).drop (i*6)=bm.cells (l.drop i):=by
   have:bm.cells l=bm.cells (l.take i) ++bm.cells (l.drop i):=by rw [←fE.cells_append,ed]
   rw [this,←oA l hi,List.drop_left]
  simp only [List.drop_zero,Int.toNat_natCast,e1,e2]
theorem YJ (c:Nat) (σ:ag) (k:Bs) (hc:σ.get c=some (.own (zK k))) :
  jJ σ 6 96 (.vsl [] (some 0)) ((0:Nat):Int) (.sl c 0 1 6 (some 1))=some (.sl σ.next 0 1 6 none,σ.alloc (zK k)):=by
 have ll:rowOf σ 6 (.sl c 0 1 6 (some 1))=some (zK k):=by simp [rowOf,ag.cells,hc,zK]
 unfold jJ
 simp only [lenOf,ll]
 simp [aF,lenOf,rowOf,zK,aY,AV.one]
theorem yL {α:Type} (pre:List α) (a:α) (A B post:List α) (h:A.length=B.length):(pre ++a ::(A ++post)).take (pre.length+1) ++B ++(pre ++a ::(A ++post)).drop (pre.length+1+B.length)=pre ++a ::(B ++post):=by
 have e1:pre ++a ::(A ++post)=(pre ++ [a]) ++(A ++post):=by simp
 have e2:pre ++a ::(A ++post)=((pre ++ [a]) ++A) ++post:=by simp
 have l1:pre.length+1=(pre ++ [a]).length:=by simp
 have l2:pre.length+1+B.length=((pre ++ [a]) ++A).length:=by simp [h]; omega
 have t1:(pre ++a ::(A ++post)).take (pre.length+1)=pre ++ [a]:=by rw [e1,l1,List.take_left]
 have t2:(pre ++a ::(A ++post)).drop (pre.length+1+B.length)=post:=by rw [e2,l2,List.drop_left]
 rw [t1,t2]; simp
theorem yJ (pre:ai) (k:Bs) (x:V) (post:ai):splice (pre ++zK k ++post) (pre.length+1) x.enc.cells=pre ++(bp (k,x)).cells ++post:=by
 rw [V.enc_cells,bq]
 have:=yL pre (AV.str k) [.int .i64 0, .int .i64 0, .str [], .nils, .nils] [.int .i64 x.kind, .int .i64 x.n, .str x.s, .vsl (x.l.map V.enc) none, .vsl (x.m.map bp) none] post rfl
 unfold splice zK
 simpa using this
theorem E6 (pre:ai) (y:Mem) (x:V) (post:ai):splice (pre ++(bp y).cells ++post) (pre.length+1) x.enc.cells=pre ++(bp (y.1,x)).cells ++post:=by
 rw [V.enc_cells,bq,bq]
 have:=yL pre (AV.str y.1) [.int .i64 y.2.kind, .int .i64 y.2.n, .str y.2.s, .vsl (y.2.l.map V.enc) none, .vsl (y.2.m.map bp) none] [.int .i64 x.kind, .int .i64 x.n, .str x.s, .vsl (x.l.map V.enc) none, .vsl (x.m.map bp) none] post rfl
 unfold splice
 simpa using this
def M0:= @F142.eq_1
theorem J5 (m:List Mem) (k:Bs): ∀(n i j:Nat),j - i<=n->i<=j->sL m k i j<=j
 | 0,i,j,h,hij=>by rw [sL,if_neg aa]; exact hij
 | n+1,i,j,h,hij=>by
  rw [sL]
  by_cases aR:i < j
  ·rw [if_pos aR]
   split
   ·exact J5 m k n _ _ aa aa
   ·exact Nat.le_trans (J5 m k n _ _ aa aa) aa
  ·rw [if_neg aR]; exact hij
theorem OI (v:V) (k:Bs):(gK v k).1<=v.m.length:=by
 unfold gK
 split
 ·exact J5 v.m k _ 0 _ (aD _) aa
 ·simp
theorem OH {v:V} {k:Bs} (h:(gK v k).2=true):(gK v k).1 < v.m.length:=by
 unfold gK at h ⊢
 split
 ·rename_i h5
  rw [if_pos h5] at h
  simp at h
  exact h.1
 ·rename_i h5
  rw [if_neg h5] at h
  cases h
def Oe (m:List Mem) (i:Nat) (ok:Bool) (k:Bs) (x:V):List Mem:=if ok then (match m[i]? with | some y=>m.set i (y.1,x) | none=>m) else m.take i ++(k,x) ::m.drop i
def pq (v:V) (k:Bs) (x:V):V:=if v.kind=5 then V.mk v.kind v.n v.s v.l (Oe v.m (gK v k).1 (gK v k).2 k x) else v
abbrev QP (v:V):ai:= [.int .i64 v.kind, .int .i64 v.n, .str v.s, .vsl (v.l.map V.enc) none, .vsl (v.m.map bp) none]
theorem LI {σ:ag} (v:V) {b:Nat} {l:List Mem} (h:look σ.m b=some (.own (bm.cells l))):rbE σ (.agg [.int .i64 v.kind, .int .i64 v.n, .str v.s, .vsl (v.l.map V.enc) none, .sl b 0 l.length 6 none])=some (V.mk v.kind v.n v.s v.l l).enc:=by
 have gh:(AV.vsl (v.l.map V.enc) none).closed=true:=by simp only [AV.closed,ly]
 have hce:(AV.vsl (v.l.map V.enc) none).er= .vsl (v.l.map V.enc) none:=by simp only [AV.er,ud]
 have hb:=jS.agg (σ:=σ) (jS.clo (x:= .int .i64 v.kind) rfl (jS.clo (x:= .int .i64 v.n) rfl (jS.clo (x:= .str v.s) rfl (jS.clo (x:= .vsl (v.l.map V.enc) none) gh (jS.rp (L:=bm) (l:=l) (v:= .sl b 0 l.length 6 none) (.inr ⟨b, [],rfl,by rw [bC]; exact h⟩) (jS.nil σ 23))))))
 simp only [kV,zW,hce] at hb
 rw [V.enc_eq]
 exact hb
theorem Fo {σ:ag} (v:V) {b n:Nat} {l:List Mem} (hn:l.length=n) (h:look σ.m b=some (.own (bm.cells l))):rbE σ (.agg [.int .i64 v.kind, .int .i64 v.n, .str v.s, .vsl (v.l.map V.enc) none, .sl b 0 n 6 none])=some (V.mk v.kind v.n v.s v.l l).enc:=by
 subst hn; exact LI v h
theorem yY (v:V) (k:Bs) (x:V) (hlen:v.m.length < lim):cR 142 [v.enc, .str k,x.enc]=some (pq v k x).enc:=by
 have qh:=hlen
 unfold lim at qh
 have hp:=LS v k (by unfold fF; omega)
 have Jx:=OI v k
 have YU:=fun h=>OH (v:=v) (k:=k) h
 refine aG (F:=F142) rfl ?_
 obtain ⟨r,hr⟩ : ∃r,r=(pq v k x).enc:=⟨_,rfl⟩
 rw [←hr]
 unfold pq at hr
 cases h5:v.kind != 5 with
 | true=>
  have Qn:v.kind≠5:=by simpa using h5
  rw [if_neg Qn] at hr
  simp only [M0,az,seval,VX,ae,h5,hr]
 | false=>
  have Qn:v.kind=5:=by simpa using h5
  rw [if_pos Qn] at hr
  generalize gK v k=pl at hp Jx YU hr
  obtain ⟨i,ok⟩:=pl
  simp only at hp Jx YU hr
  cases hm:v.m with
  | nil=>
   have hi:i=0:=by rw [hm] at Jx; simpa using Jx
   subst hi
   have Gh:ok=false:=by
    cases ok with
    | false=>rfl
    | true=>have:=YU rfl; rw [hm] at this; simp at this
   subst Gh
   have c1:jc cA gU .split (.fn 38 [] []) [.vsl (v.m.map bp) none] ⟨2, [(1, .own [.int .i64 0, .int .i64 0, .str [], .nils, .nils]),(0, .own (QP v))]⟩=some (.vsl [] (some 0),⟨2, [(1, .own [.int .i64 0, .int .i64 0, .str [], .nils, .nils]),(0, .own (QP v))]⟩):=by
    have:=Ch none ⟨2, [(1, .own [.int .i64 0, .int .i64 0, .str [], .nils, .nils]),(0, .own (QP v))]⟩
    rw [hm]; exact this
   have c2:=HF (YJ 2 ⟨3, [(2, .own (zK k)),(0, .own [.int .i64 v.kind, .int .i64 v.n, .str v.s, .vsl (v.l.map V.enc) none, .vsl [] (some 0)]),(1, .own [.int .i64 0, .int .i64 0, .str [], .nils, .nils]),(0, .own (QP v))]⟩ k rfl)
   simp only [ag.alloc,zK,QP] at c1 c2
   have tT:=yJ [] k x []
   have i0:=zw (b:=3) (n:=1) (j:=0) (σ:= .empty) aa
   simp only [V.enc_cells,bq,zK,splice,List.nil_append,bC,List.length_nil,List.length_cons,Nat.zero_add,Nat.reduceAdd] at tT
   rw [hm] at hr
   simp only [Oe,List.take_nil,List.drop_nil,List.nil_append,bh,if_false] at hr
   simp only [M0,az,Nat.reduceEqDiff,reduceIte,reduceCtorEq,Nat.reduceAdd,Nat.reduceLeDiff,Nat.reduceSub,Nat.reduceMul,Int.reduceEq,Int.reduceBEq,Int.reduceBNe,Int.reduceLT,Int.reduceLE,Nat.reduceLT,VX,ae,h5,hp,c1,c2,i0,tT]
   rw [hr]
   exact LI v (l:= [(k,x)]) (by simp [look,fE.cells,bm,bq])
  | cons y0 m0=>
   have hn:0 < v.m.length:=by rw [hm]; simp
   have c1:jc cA gU .split (.fn 38 [] []) [.vsl (v.m.map bp) none] ⟨2, [(1, .own [.int .i64 0, .int .i64 0, .str [], .nils, .nils]),(0, .own (QP v))]⟩=some (.sl 2 0 v.m.length 6 none,⟨3, [(2, .own (bm.cells v.m)),(1, .own [.int .i64 0, .int .i64 0, .str [], .nils, .nils]),(0, .own (QP v))]⟩):=by
    have:=Cg y0 m0 none ⟨2, [(1, .own [.int .i64 0, .int .i64 0, .str [], .nils, .nils]),(0, .own (QP v))]⟩ (by rw [←hm]; exact hlen)
    rw [hm]; exact this
   simp only [QP] at c1
   clear hm
   have gh:=bm.cells_len v.m
   have fb:bm.sz=6:=rfl
   rw [fb] at gh
   have hxl:x.enc.cells.length=5:=by rw [V.enc_cells]; rfl
   have hxo:x.enc.cells.all AV.one=true:=LV.one x
   cases ok with
   | true=>
    have aR:=YU rfl
    obtain ⟨y,hy⟩:=cq aR
    simp only [Oe,hy,if_true] at hr
    have i0:=zw (b:=2) (n:=v.m.length) (j:=i) (σ:= .empty) aR
    have tT:splice (bm.cells v.m) (i*6+1) x.enc.cells=bm.cells (v.m.set i (y.1,x)):=by
     have e:v.m=v.m.take i ++y ::v.m.drop (i+1):=by rw [←drop_cons hy,ed]
     have e2:v.m.set i (y.1,x)=v.m.take i ++(y.1,x) ::v.m.drop (i+1):=List.set_eq_take_append_cons_drop.trans (by rw [if_pos aR])
     have h1:=oA v.m (j:=i) aa
     have:=E6 (bm.cells (v.m.take i)) y x (bm.cells (v.m.drop (i+1)))
     rw [h1] at this
     rw [e2,fE.cells_append,fE.cells_cons,←bb]
     have e3:bm.cells v.m=bm.cells (v.m.take i) ++(bp y).cells ++bm.cells (v.m.drop (i+1)):=by
      rw [bb]
      have:bm.cells v.m=bm.cells (v.m.take i ++y ::v.m.drop (i+1)):=by rw [←e]
      rw [this,fE.cells_append,fE.cells_cons]; rfl
     rw [e3]; exact this
    have hle:i*6+1+5<=(bm.cells v.m).length:=by rw [gh]; omega
    generalize bm.cells v.m=C at c1 tT hle
    simp only [V.enc_cells,splice,List.length_nil,List.length_cons,Nat.zero_add,Nat.reduceAdd] at tT hxo
    simp only [M0,az,seval,VX,ae,h5,hp,c1,i0,tT,hle,hxo]
    rw [hr]
    exact Fo v List.length_set rfl
   | false=>
    simp only [Oe,bh,if_false] at hr
    have c2:=HF (ins_to v.m 2 3 ⟨4, [(3, .own (zK k)),(0, .own [.int .i64 v.kind, .int .i64 v.n, .str v.s, .vsl (v.l.map V.enc) none, .sl 2 0 v.m.length 6 none]),(2, .own (bm.cells v.m)),(1, .own [.int .i64 0, .int .i64 0, .str [], .nils, .nils]),(0, .own (QP v))]⟩ i k hlen Jx rfl rfl aa hn)
    have i0:=zw (b:=4) (n:=v.m.length+1) (j:=i) (σ:= .empty) aa
    have tT:splice (bm.cells (v.m.take i) ++zK k ++bm.cells (v.m.drop i)) (i*6+1) x.enc.cells=bm.cells (v.m.take i ++(k,x) ::v.m.drop i):=by
     have:=yJ (bm.cells (v.m.take i)) k x (bm.cells (v.m.drop i))
     rw [oA v.m Jx] at this
     rw [fE.cells_append,fE.cells_cons,←bb]
     exact this
    have hle:i*6+1+5<=(bm.cells (v.m.take i) ++zK k ++bm.cells (v.m.drop i)).length:=by rw [Ta v.m i Jx k]; omega
    generalize bm.cells (v.m.take i) ++zK k ++bm.cells (v.m.drop i)=D at c2 tT hle
    generalize bm.cells v.m=C at c1 c2
    simp only [V.enc_cells,splice,List.length_nil,List.length_cons,Nat.zero_add,Nat.reduceAdd] at tT hxo
    simp only [ag.alloc,ag.set,zK,QP] at c2
    simp only [M0,az,seval,VX,ae,h5,hp,c1,c2,i0,tT,hle,hxo]
    rw [hr]
    exact Fo v (by simp; omega) rfl
def K1Fa:=J @KR.eq_1 (J @EA.eq_1 (J @NC.eq_1 (@F175.eq_1)))
abbrev cC:Bs:= [115,105,103,110,97,116,117,114,101,115]
abbrev jI:Bs:= [105,100,46,111,114,103]
abbrev jk:Bs:= [101,100,50,53,53,49,57,58,122]
abbrev kEd:Bs:= [101,100,50,53,53,49,57,58]
abbrev sX:Bs:= [120]
def db (b:UInt8):aw:=List.replicate 32 b
theorem RZ (b:UInt8):cR 198 [.int .u8 (b.toNat:Int)]=some (bN (db b)):=by
 have hm:jG ⟨0, []⟩ 1 1 [.int .u8 0] 32=some (.sl 0 0 32 1 none,⟨1, [(0, .own (yS 32 [.int .u8 0]))]⟩):=by rfl
 have hr:yS 32 [AV.int .u8 0]=List.replicate 32 (.int .u8 0):=by rfl
 rw [hr] at hm
 have rH {i:Int} (h0:0<=i) (h1:i < 32):idxOf 1 none (.sl 0 0 32 1 none) (.int .i64 i)=some (.ptr 0 i.toNat):=by
  simp [idxOf,h0,h1]
 have qj {σ:ag} (h:look σ.m 0=some (.own (af (db b)))):rbE σ (.sl 0 0 32 1 none)=some (bN (db b)):=by
  have hl:(db b).length=32:=by simp [db]
  have:=jC (d:=23) (off:=0) (n:=32) (c:=none) h (by rw [aM]; omega) (aC _) (gy _)
  rw [List.drop_zero,aJ (by rw [aM]; omega)] at this
  unfold rbE
  rw [show bJ=23+1 from rfl,this,Option.map_some,fW,bF]
 refine aG (F:=F198) rfl ?_
 simp only [List.replicate] at hm
 simp only [F198,az,seval,ae,ax,aN,@aU,hm,@rH]
 exact qj rfl
def jl (token be:Bs):V:=mapOf [(fT,eV be),(ep,eV token)]
def mW (i:Nat):Bs:=kEd ++ [UInt8.ofNat (97+i)]
def iL:Nat->V
 | 0=>mapOf []
 | n+1=>pq (iL n) (mW n) (eV sX)
def sigM (n:Nat) (g:Bs):V:=pq (iL n) jk (eV g)
def invS (token be:Bs) (n:Nat) (g:Bs):V:=pq (jl token be) cC (mapOf [(jI,sigM n g)])
def C5 (token be:Bs) (n:Nat) (g:Bs):V:=mapOf [(eS,eV iG),(bS,mapOf [(bf,invS token be n g)])]
theorem Od (v:V) (k:Bs) (x:V):(pq v k x).m.length<=v.m.length+1:=by
 unfold pq
 split
 ·show (Oe _ _ _ _ _).length<=_
  unfold Oe
  split
  ·split
   ·rw [List.length_set]; omega
   ·omega
  ·rw [aq,List.length_cons,bU,fw]; omega
 ·omega
theorem vi: ∀n,(iL n).m.length<=n
 | 0=>by decide
 | n+1=>by have:=vi n; have:=Od (iL n) (mW n) (eV sX); rw [iL]; omega
theorem Jo (l:List Mem) (h:l.length < 20):(mapOf l).m.length < 20:=by
 have h1:=z8 (pf l)
 have h2:(pf l).length=l.length:=by unfold pf; rw [List.length_reverse,uU]; simp
 show (jL (pf l)).length < 20
 omega
theorem Ly (seed msg:aw):(ji aB seed msg).length=64:=by
 simp only [ji,aq,aX]
theorem R4 {token be msg:Bs} {seed:UInt8} {n:Nat} (hw:cR 190 [(jl token be).enc]=some (.tup [.str msg, .int .i64 0])) (hm:msg.length < 1099511000000) (hn:n < 10) :
  cR 175 [.str token, .str be, .int .u8 (seed.toNat:Int), .int .i64 (n:Int)]=some (C5 token be n (kB (ji aB (db seed) msg))).enc:=by
 have a3: ∀s,cR 18 [.str s]=some (eV s).enc:=IL
 have m0:cR 20 [.vsl [bp (fT,eV be),bp (ep,eV token)] none]=some (jl token be).enc:=v8 [(fT,eV be),(ep,eV token)] (by simp)
 have hs:=RZ seed
 have C9:(db seed).length=32:=by simp [db]
 have hg:=r_Sign (seed:=db seed) (msg:=msg) C9 hm
 have tY:=Ly (db seed) msg
 have hp:=r_put (ji aB (db seed) msg) (by rw [tY]; decide)
 have me:cR 20 [.vsl [] none]=some (iL 0).enc:=v8 [] (by simp)
 have hinv:C5 token be n (kB (ji aB (db seed) msg))=mapOf [(eS,eV iG),(bS,mapOf [(bf,pq (jl token be) cC (mapOf [(jI,pq (iL n) jk (eV (kB (ji aB (db seed) msg))))]))])]:=rfl
 have z1:=yY (iL n) jk (eV (kB (ji aB (db seed) msg))) (by have:=vi n; unfold lim; omega)
 have z2:cR 20 [.vsl [bp (jI,pq (iL n) jk (eV (kB (ji aB (db seed) msg))))] none]=some (mapOf [(jI,pq (iL n) jk (eV (kB (ji aB (db seed) msg))))]).enc:=v8 [(jI,_)] (by simp)
 have hil:(jl token be).m.length < lim:=by
  have:=Jo [(fT,eV be),(ep,eV token)] (by simp)
  unfold lim jl; omega
 rw [hinv]
 generalize hMn:pq (iL n) jk (eV (kB (ji aB (db seed) msg)))=Z at*
 have z3:=yY (jl token be) cC (mapOf [(jI,Z)]) hil
 generalize mapOf [(jI,Z)]=Y at*
 generalize pq (jl token be) cC Y=X at*
 have z4:cR 20 [.vsl [bp (bf,X)] none]=some (mapOf [(bf,X)]).enc:=v8 [(bf,X)] (by simp)
 generalize mapOf [(bf,X)]=S at*
 have z5:cR 20 [.vsl [bp (eS,eV iG),bp (bS,S)] none]=some (mapOf [(eS,eV iG),(bS,S)]).enc:=v8 [(eS,eV iG),(bS,S)] (by simp)
 generalize mapOf [(eS,eV iG),(bS,S)]=R at*
 generalize jl token be=I at*
 generalize kB (ji aB (db seed) msg)=P at*
 generalize ji aB (db seed) msg=g at*
 generalize db seed=sd at*
 clear hinv hil tY C9
 refine aG (F:=F175) rfl ?_
 have jm: ∀x:AV,lenOf (.vsl [x] (some 1))=some 1:=fun _=>rfl
 simp only [bN] at hs hg hp
 simp only [KR,EA,F175,az,seval,VX,ae,ax,a3,m0,hw,hs,aC,bF,hg,me]
 refine aP (S:=Nat) (fun i=> [(3, .int .i64 (n:Int)),(8, .ptr 0 0),(9, .ptr 1 0),(12, .vsl (af g) none),(14, .ptr 2 0),(15, .int .i64 (i:Int))]) (fun i=>n - i)
  (fun i σ=>look σ.m 2=some (.own [.int .i64 (iL i).kind, .int .i64 (iL i).n, .str (iL i).s, .vsl ((iL i).l.map V.enc) none, .vsl ((iL i).m.map bp) none])/\look σ.m 1=some (.own [.int .i64 I.kind, .int .i64 I.n, .str I.s, .vsl (I.l.map V.enc) none, .vsl (I.m.map bp) none])/\
   look σ.m 0=some (.own [.int .i64 0, .int .i64 0, .str [], .nils, .nils])/\i<=n) ?_ 0 _ ⟨rfl,rfl,rfl,Nat.zero_le _⟩
 rintro B i σ ⟨g2,g1,g0,hi⟩ ih
 by_cases wV:i=n
 ·subst wV
  have gt:decide ((i:Int) < (i:Int))=false:=decide_eq_false aa
  generalize iL i=M at*
  simp only [K1Fa,az,seval,VX,ae,gt,g2,g1,g0,a3,aC,bF,hp,z1,z2,z3,z4,z5]
 ·have aR:decide ((i:Int) < (n:Int))=true:=decide_eq_true aa
  have wb:IntKind.wrap .u8 (i:Int)=(i:Int):=by rw [mI,aO aa]
  have wc:IntKind.wrap .u8 (97+(i:Int))=((97+i:Nat):Int):=by
   have:=mI (97+i)
   rw [aO aa] at this
   rw [←this]; congr 1
  have ET:bytesOf [.int .u8 ((97+i:Nat):Int)]=some [UInt8.ofNat (97+i)]:=by
   have:(0:Int)<=((97+i:Nat):Int)/\((97+i:Nat):Int) < 256:=by omega
   show (match bytesOf [] with | some l=>if (0:Int)<=((97+i:Nat):Int)/\((97+i:Nat):Int) < 256 then some (UInt8.ofNat ((97+i:Nat):Int).toNat ::l) else none | none=>none)=_
   simp only [bytesOf,if_pos this]; rfl
  have w1:IntKind.wrap .i64 ((i:Int)+1)=((i+1:Nat):Int):=by rw [aU aa aa]; omega
  have hS:cR 142 [(iL i).enc, .str [101,100,50,53,53,49,57,58,UInt8.ofNat (97+i)],(eV sX).enc]=some (iL (i+1)).enc:=yY (iL i) (mW i) (eV sX) (by have:=vi i; unfold lim; omega)
  generalize hM1:iL (i+1)=M1 at*
  generalize iL i=M at*
  simp only [K1Fa,az,seval,VX,ae,aR,g2,g1,g0,a3,wb,wc,row_one,ET,w1,hS]
  refine ih (i+1) _ _ aa ⟨?_,?_,?_,by omega⟩ rfl
  ·rw [hM1]; simp [look]
  ·simpa [look] using g1
  ·simpa [look] using g0
theorem QN: ∀ {s:Bs},(∀c∈s,c < 128)->vu s=true
 | [],_=>rfl
 | a ::r,h=>by
  rw [nq (h a (by simp))]
  exact QN fun c hc=>h c (by simp [hc])
theorem E3: ∀(s:aw) (nb c:Nat),∀x∈sx nb c s,x < 64
 | [],nb,c,x,h=>by
  unfold sx at h
  split at h
  ·simp at h
  ·simp at h; omega
 | b ::s,nb,c,x,h=>by
  unfold sx at h
  split at h
  ·simp only [List.mem_cons] at h
   rcases h with h | h | h
   ·omega
   ·omega
   ·exact E3 s 0 0 x h
  ·split at h
   ·simp only [List.mem_cons] at h
    rcases h with h | h
    ·omega
    ·exact E3 s 4 _ x h
   ·simp only [List.mem_cons] at h
    rcases h with h | h
    ·omega
    ·exact E3 s 2 _ x h
theorem sgB_lt {j:Nat} (h:j < 64):s7 j < 128:=by
 rw [UInt8.lt_iff_toNat_lt,s7,eW]
 have hl:xe j < 128:=by unfold xe; split <;> (try split) <;> (try split) <;> (try split) <;> omega
 rw [aO (show xe j < 2 ^ 8 by omega)]; exact hl
theorem Ii (s:aw):vu (kB s)=true:=QN fun c hc=>by
 obtain ⟨x,hx,rfl⟩:=List.mem_map.1 hc
 exact sgB_lt (E3 s 0 0 x hx)
end Go.Ab
