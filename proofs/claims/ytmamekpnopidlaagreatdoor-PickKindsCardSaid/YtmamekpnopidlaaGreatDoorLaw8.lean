/- What functions of the program, and of the library, answer. Conditions: none. -/
import Derived.Test.YtmamekpnopidlaaGreatDoorLaw7
set_option linter.unusedVariables false
set_option linter.unusedSimpArgs false
set_option linter.defProp false
set_option linter.unnecessarySimpa false
namespace Go.Ab
set_option maxHeartbeats 1000000
def T11Fd:=J @F64_2.eq_1 (J @F64_19.eq_1 (J @F64_20.eq_1 (@F64.eq_1)))
set_option maxRecDepth 100000
def lim:Nat:=1073741824
theorem Lay.rowOf {α:Type} (L:Lay α) (σ:Store) (l:List α) (c:Option Nat):rowOf σ L.sz (.vsl (l.map L.f) c)=some (L.cells l):=by
 have h:(l.map L.f).all (fun e=>e.cells.length == L.sz)=true:=by
  rw [List.all_eq_true]
  intro x hx
  obtain ⟨a,_,rfl⟩:=List.mem_map.1 hx
  simp [L.len a]
 have e:(l.map L.f).flatMap AV.cells=L.cells l:=by simp [Lay.cells,List.flatMap_map]
 show (if (l.map L.f).all (fun e=>e.cells.length == L.sz)=true then some ((l.map L.f).flatMap AV.cells) else none)=_
 rw [if_pos h,e]
def Gr {α:Type} (L:Lay α) (σ:Store) (v:AV) (l:List α):Prop:=
 (v= .nils∧l= [])∨(∃b,v= .sl b 0 l.length L.sz none∧Own L σ (some b) l)∨v= .vsl (l.map L.f) (some l.length)
section
variable {α:Type} {L:Lay α} {σ:Store} {v:AV} {l:List α}
theorem Gr.nil (L:Lay α) (σ:Store):Gr L σ .nils []:= .inl ⟨rfl,rfl⟩
theorem Gr.lit (L:Lay α) (σ:Store) (l:List α):Gr L σ (.vsl (l.map L.f) (some l.length)) l:= .inr (.inr rfl)
theorem Gr.own {b:Nat} (h:Own L σ (some b) l):Gr L σ (.sl b 0 l.length L.sz none) l:= .inr (.inl ⟨b,rfl,h⟩)
theorem Gr.lenL (h:Gr L σ v l):lenL v=some (.int .i64 l.length):=by
 rcases h with ⟨rfl,rfl⟩ | ⟨b,rfl,h⟩ | rfl
 ·rfl
 ·rfl
 ·rw [lenL_vsl,List.length_map]
theorem Gr.rb (h:Gr L σ v l): ∃v',Go.Ab.rb σ rbDepth v=some v'∧v'.er= .vsl (l.map L.f) none:=by
 rcases h with ⟨rfl,rfl⟩ | ⟨b,rfl,h⟩ | rfl
 ·exact ⟨_,rfl,by simp only [AV.er]; rfl⟩
 ·exact Own.rb (ob:=some b) h
 ·refine ⟨_,rb_closed' (by simp only [AV.closed]; exact closedL_map fun a _=>L.closed a),?_⟩
  simp only [AV.er,L.erMap]
theorem Gr.rbE (h:Gr L σ v l):Go.Ab.rbE σ v=some (.vsl (l.map L.f) none):=by
 obtain ⟨v',h1,h2⟩:=h.rb
 unfold Go.Ab.rbE
 rw [h1,Option.map_some,h2]
theorem Gr.call1 {st:Bool} {f:Nat} {args:List AV} {r:AV} (h:Gr L σ v l) (ha:closedL args=true) (hc:cR f (.vsl (l.map L.f) none ::erL args)=some r) (hr:r.flat=true) :
  callP ipU gU st (.fn f [] []) (v ::args) σ=some (r,σ):=by
 obtain ⟨v',h1,h2⟩:=h.rb
 refine callP_flat (args':=v' ::args) rfl ?_ ?_ hr
 ·simp only [mapO,h1,mapO_closed' ha]
 ·simp only [erL,h2,AV.er]; exact hc
def grNext {α:Type} (L:Lay α) (σ:Store) (v:AV) (l m:List α):Store:=match v with
 | .sl b .. =>(σ.set b .dead).alloc (L.cells l ++L.cells m)
 | _=>σ.alloc (L.cells l ++L.cells m)
theorem Gr.app {m:List α} {bytes:Nat} (h:Gr L σ v l) (hb:0 < bytes) (hm:(l.length+m.length)*bytes≤maxBytes) (hk:0 < m.length) :
  appendTo σ L.sz bytes v (L.cells m) m.length=some (.sl σ.next 0 (l ++m).length L.sz none,grNext L σ v l m):=by
 have c1:=L.cells_len m
 have c2:=L.cells_one m
 have c3:=L.pos
 rcases h with ⟨rfl,rfl⟩ | ⟨b,rfl,h⟩ | rfl
 ·unfold appendTo
  simp only [lenOf]
  rw [if_pos ⟨c3,hb,by simpa using hm,c1,c2⟩,if_neg (by omega)]
  simp [grNext,Lay.cells]
 ·obtain ⟨h1,h2,h3,h4⟩:=h
  unfold appendTo
  simp only [lenOf]
  rw [if_pos ⟨c3,hb,hm,c1,c2⟩,if_pos trivial]
  have:σ.owned b=some (L.cells l):=by simp [Store.owned,h1]
  rw [this]
  simp only
  rw [if_neg (by omega),if_pos (by omega)]
  simp [grNext]
 ·unfold appendTo
  simp only [lenOf,List.length_map]
  rw [if_pos ⟨c3,hb,hm,c1,c2⟩,if_neg (by omega),if_pos trivial,L.rowOf]
  simp [grNext]
theorem Gr.next {m:List α} (h:Gr L σ v l) (hk:0 < m.length):Own L (grNext L σ v l m) (some σ.next) (l ++m):=by
 have e:L.cells (l ++m)=L.cells l ++L.cells m:=by simp [Lay.cells]
 have hl:=L.cells_len (l ++m)
 have hlen:0 < (l ++m).length:=by simp; omega
 rcases h with ⟨rfl,rfl⟩ | ⟨b,rfl,h⟩ | rfl
 ·exact ⟨by simp only [grNext]; rw [←e]; exact get_alloc_next,hl,by simp [grNext,next_alloc],hlen⟩
 ·exact ⟨by simp only [grNext]; rw [←e]; exact get_alloc_next (σ:=σ.set b .dead),hl,by simp [grNext,next_alloc,next_set],hlen⟩
 ·exact ⟨by simp only [grNext]; rw [←e]; exact get_alloc_next,hl,by simp [grNext,next_alloc],hlen⟩
theorem Gr.push {a:α} {bytes:Nat} (h:Gr L σ v l) (hb:0 < bytes) (hm:(l.length+1)*bytes≤maxBytes) :
  appendTo σ L.sz bytes v (L.f a).cells 1=some (.sl σ.next 0 (l ++ [a]).length L.sz none,grNext L σ v l [a]):=by
 have:=Gr.app (m:= [a]) h hb (by simpa using hm) (by simp)
 simpa [Lay.cells] using this
theorem grNext_next (L:Lay α) (σ:Store) (v:AV) (l m:List α):(grNext L σ v l m).next=σ.next+1:=by
 unfold grNext; split <;> rfl
theorem Gr.frame {σ':Store} (h:Gr L σ v l) (hg: ∀b,b < σ.next→σ'.get b=σ.get b) (hn:σ.next≤σ'.next):Gr L σ' v l:=by
 rcases h with h | ⟨b,rfl,h⟩ | h
 ·exact .inl h
 ·exact .inr (.inl ⟨b,rfl,h.frame (hg b h.lt) hn⟩)
 ·exact .inr (.inr h)
theorem Gr.alloc (h:Gr L σ v l) (cs:List AV):Gr L (σ.alloc cs) v l:=h.frame (fun _ hb=>get_alloc hb) (by simp [next_alloc])
theorem Gr.newset (h:Gr L σ v l) (cs cs':List AV):Gr L { next:=σ.next+1,m:=(σ.next, .own cs) ::(σ.next, .own cs') ::σ.m } v l:=
 h.frame (fun b hb=>by
  show look ((σ.next,Blk.own cs) ::(σ.next, .own cs') ::σ.m) b=look σ.m b
  simp only [look]; rw [if_neg (by omega),if_neg (by omega)]) (by simp)
theorem grNext_get {m:List α} (h:Gr L σ v l) {b:Nat} (hb:b < σ.next) (hne: ∀len sz c,v≠ .sl b 0 len sz c):(grNext L σ v l m).get b=σ.get b:=by
 unfold grNext
 split
 ·rename_i b' off len sz c
  have hoff:off=0:=by
   rcases h with ⟨h,_⟩ | ⟨b2,h,_⟩ | h
   ·simp at h
   ·simp at h; exact h.2.1
   ·simp at h
  subst hoff
  rw [get_alloc (by rw [next_set]; exact hb),get_set (by rintro rfl; exact hne len sz c rfl)]
 ·exact get_alloc hb
end
theorem r_indexS (l:List Bs) (x:Bs) (hlen:l.length < big):cR 64 [.vsl (l.map .str) none, .str x]=some (.int .i64 (firstFrom (fun s=>x == s) l 0)):=by
 unfold big at hlen
 refine cR_of (F:=F64) rfl ?_
 simp only [F64_2,F64_19,F64,ex_loop,EXA,seval,VX]
 refine ex_while (S:=Nat) (fun j=> [(0, .vsl (l.map .str) none),(1, .str x),(7, .int .i64 l.length),(8, .int .i64 (j:Int))]) (fun _=> .empty) (fun j=>l.length - j) (fun j=>firstFrom (fun s=>x == s) l j=firstFrom (fun s=>x == s) l 0) ?_ 0 rfl
 intro b j hj ih
 by_cases hlt:j < l.length
 ·obtain ⟨y,hy⟩:=get_lt hlt
  have hidx:=idx_map (f:=AV.str) (sz:=1) (c:=none) hy rfl
  have hcond:=dlt hlt
  simp only [T11Fd,EXA,seval,VX,readAt_some,hcond,hidx]
  split
  ·rename_i hp
   rw [←hj,firstFrom_hit hy hp]
  ·rename_i hp
   refine ih (j+1) _ _ (by omega) ?_ ?_ rfl
   ·rw [←firstFrom_miss hy (by simpa using hp)]; exact hj
   ·rw [wsucc hlt (by omega)]
    simp only [EXA,seval]
 ·have hcond:=dge (Nat.not_lt.1 hlt)
  simp only [T11Fd,EXA,seval,VX,hcond]
  rw [←hj,firstFrom_end (by omega)]
def hasS (l:List Bs) (x:Bs):Bool:=l.any fun s=>x == s
theorem r_containsS (l:List Bs) (x:Bs) (hlen:l.length < big):cR 45 [.vsl (l.map .str) none, .str x]=some (.bool (hasS l x)):=by
 refine cR_of (F:=F45) rfl ?_
 simp only [F45,EXA,seval,VX,r_indexS l x hlen,firstFrom_ge,hasS]
end Go.Ab
namespace Go.Ab
set_option maxHeartbeats 1000000
set_option maxRecDepth 100000
def Grown (σ σ':Store):Prop:=σ.next≤σ'.next∧∀b,b < σ.next→σ'.get b=σ.get b
theorem Grown.refl (σ:Store):Grown σ σ:=⟨Nat.le_refl _,fun _ _=>rfl⟩
theorem Grown.alloc (σ:Store) (cs:List AV):Grown σ (σ.alloc cs):=⟨by simp [next_alloc],fun _ hb=>get_alloc hb⟩
theorem both_of {f:Nat} {σ:Store} (n:Nat) (h1:scall ipU (run ipU gU n) (.fn f [] []) [.nils] .empty=some (.nils, .empty)) (h2:scall ipU (run ipU gU n) (.fn f [] []) [.e0] .empty=some (.vsl [] (some 0), .empty)) :
  both ipU gU (.fn f [] []) σ=true:=by
 refine both_some.2 ⟨n,?_⟩
 have e1:pcall ipU (run ipU gU n) false true (.fn f [] []) [.nils] σ=some (.nils,σ):=by
  unfold pcall
  rw [rb_closed' rfl,mapO_closed' rfl]
  simp only [AV.er,erL,Bool.false_eq_true,if_false,h1]
  rfl
 have e2:pcall ipU (run ipU gU n) false true (.fn f [] []) [.e0] σ=some (.vsl [] (some 0),σ):=by
  unfold pcall
  rw [rb_closed' rfl,mapO_closed' rfl]
  simp only [AV.er,erL,Bool.false_eq_true,if_false,h2]
  rfl
 unfold bothWays
 rw [e1,e2]
 rfl
theorem app00 {σ:Store} {sz bytes n:Nat} {new:List AV} (hs:0 < sz) (hb:0 < bytes) (hm:n*bytes≤maxBytes) (hl:new.length=n*sz) (ho:new.all AV.one=true) (hn:0 < n) :
  appendTo σ sz bytes (.vsl [] (some 0)) new n=some (.sl σ.next 0 n sz none,σ.alloc new):=by
 unfold appendTo
 simp only [lenOf,List.length_nil,Nat.zero_add]
 rw [if_pos ⟨hs,hb,hm,hl,ho⟩,if_neg (by omega),if_pos trivial]
 rfl
theorem lenOf_vsl (l:List AV) (c:Option Nat):lenOf (.vsl l c)=some l.length:=rfl
section
variable {α:Type} {L:Lay α}
end
theorem Gr.rbD {α:Type} {L:Lay α} {σ:Store} {v:AV} {l:List α} (h:Gr L σ v l) (d:Nat): ∃v',Go.Ab.rb σ (d+1) v=some v'∧v'.er= .vsl (l.map L.f) none:=by
 rcases h with ⟨rfl,rfl⟩ | ⟨b,rfl,h⟩ | rfl
 ·exact ⟨_,rfl,by simp only [AV.er]; rfl⟩
 ·obtain ⟨h1,h2,h3,h4⟩:=h
  refine ⟨_,rb_sl (by simp [Store.cells,h1]) h2 L.pos (L.cells_closed l) (one_notAgg (L.cells_one l)),?_⟩
  rw [L.chunks]; simp only [AV.er,L.erMap]
 ·refine ⟨_,rb_closed' (by simp only [AV.closed]; exact closedL_map fun a _=>L.closed a),?_⟩
  simp only [AV.er,L.erMap]
theorem Gr.plain {α:Type} {L:Lay α} {σ:Store} {v:AV} {l:List α} (h:Gr L σ v l):v.known=true∧v.one=true∧v.cells= [v]∧v.notAgg=true:=by
 rcases h with ⟨rfl,_⟩ | ⟨b,rfl,_⟩ | rfl <;> exact ⟨rfl,rfl,rfl,rfl⟩
def RbL (σ:Store) (d:Nat) (cs cs':List AV):Prop:=∃m,mapO (rb σ d) cs=some m∧erL m=cs'
theorem RbL.nil (σ:Store) (d:Nat):RbL σ d [] []:=⟨[],rfl,by simp only [erL]⟩
theorem RbL.clo {σ:Store} {d:Nat} {x:AV} {cs cs':List AV} (hx:x.closed=true) (h:RbL σ d cs cs'):RbL σ d (x ::cs) (x.er ::cs'):=by
 obtain ⟨m,h1,h2⟩:=h
 exact ⟨x ::m,by simp only [mapO,rb_closed' hx,h1],by simp only [erL,h2]⟩
theorem RbL.gr {α:Type} {L:Lay α} {σ:Store} {d:Nat} {v:AV} {l:List α} {cs cs':List AV} (hv:Gr L σ v l) (h:RbL σ (d+1) cs cs'):RbL σ (d+1) (v ::cs) (.vsl (l.map L.f) none ::cs'):=by
 obtain ⟨m,h1,h2⟩:=h
 obtain ⟨v',h3,h4⟩:=hv.rbD d
 exact ⟨v' ::m,by simp only [mapO,h3,h1],by simp only [erL,h2,h4]⟩
theorem RbL.agg {σ:Store} {cs cs':List AV} (h:RbL σ 23 cs cs'):rbE σ (.agg cs)=some (.agg cs'):=by
 obtain ⟨m,h1,h2⟩:=h
 unfold rbE
 by_cases hc:(AV.agg cs).closed=true
 ·have:m=cs:=by
   have hm:=mapO_closed' (σ:=σ) (d:=23) (show closedL cs=true by simpa [AV.closed] using hc)
   rw [h1] at hm
   exact Option.some.inj hm
  subst this
  rw [rb_closed' hc,Option.map_some,AV.er,h2]
 ·have e:rb σ rbDepth (.agg cs)=some (.agg m):=by
   show rb σ (23+1) (.agg cs)=_
   rw [rb,if_neg hc,h1]
  rw [e,Option.map_some,AV.er,h2]
theorem look_get {σ:Store} {b:Nat} {x:Blk} (h:σ.get b=some x):look σ.m b=some x:=h
end Go.Ab
namespace Go.Ab
set_option maxHeartbeats 1000000
def N1Fb:=J @F53_2.eq_1 (J @F53_19.eq_1 (J @F53_20.eq_1 (@F53.eq_1)))
set_option maxRecDepth 100000
def sEq (x y:Slt):Bool:=x.type == y.type && x.key == y.key
theorem Slt.eta (x:Slt):(⟨x.type,x.key⟩ :Slt)=x:=rfl
theorem eqs_slt (x y:Slt) (ng:Bool):eqsOf [.str, .str] ng (sltE x) (sltE y)=some (.bool (if ng then !(sEq x y) else sEq x y)):=by
 have h:eqCells [.str, .str] [.str x.type, .str x.key] [.str y.type, .str y.key]=some (sEq x y):=by
  simp only [eqCells,sEq]
  cases x.type == y.type <;> cases x.key == y.key <;> rfl
 simp only [eqsOf,sltE,List.length_cons,List.length_nil,and_self,if_true,h,Option.map_some]
theorem idx_slt {l:List Slt} {j:Nat} {s:Slt} {c:Option Nat} (h:l[j]? =some s):idxOf 2 none (.vsl (l.map sltE) c) (.int .i64 (j:Int))=some (.vptr [.str s.type, .str s.key] 0):=idx_map (f:=sltE) h rfl
theorem r_indexSlt (l:List Slt) (x:Slt) (hlen:l.length < big):cR 53 [.vsl (l.map sltE) none,sltE x]=some (.int .i64 (firstFrom (sEq x) l 0)):=by
 unfold big at hlen
 refine cR_of (F:=F53) rfl ?_
 simp only [F53_2,F53_19,F53,ex_loop,EXA,seval,VX]
 refine ex_while (S:=Nat) (fun j=> [(0, .vsl (l.map sltE) none),(3, .vptr [.str x.type, .str x.key] 0),(7, .int .i64 l.length),(8, .int .i64 (j:Int))]) (fun _=> .empty) (fun j=>l.length - j) (fun j=>firstFrom (sEq x) l j=firstFrom (sEq x) l 0) ?_ 0 rfl
 intro b j hj ih
 by_cases hlt:j < l.length
 ·obtain ⟨y,hy⟩:=get_lt hlt
  have hidx:=idx_slt (c:=none) hy
  have hcond:=dlt hlt
  simp only [N1Fb,EXA,seval,VX,readAt_some,hcond,hidx,Slt.eta,eqs_slt]
  split
  ·rename_i hp
   rw [←hj,firstFrom_hit hy (by simpa using hp)]
  ·rename_i hp
   refine ih (j+1) _ _ (by omega) ?_ ?_ rfl
   ·rw [←firstFrom_miss hy (by simpa using hp)]; exact hj
   ·rw [wsucc hlt (by omega)]
    simp only [EXA,seval]
 ·have hcond:=dge (Nat.not_lt.1 hlt)
  simp only [N1Fb,EXA,seval,VX,hcond]
  rw [←hj,firstFrom_end (by omega)]
def hasT (l:List Slt) (x:Slt):Bool:=l.any (sEq x)
theorem r_containsT (l:List Slt) (x:Slt) (hlen:l.length < big):cR 37 [.vsl (l.map sltE) none,sltE x]=some (.bool (hasT l x)):=by
 refine cR_of (F:=F37) rfl ?_
 simp only [F37,EXA,seval,VX,readAt_some,Slt.eta,r_indexSlt l x hlen,firstFrom_ge,hasT]
end Go.Ab
namespace Go.Ab
set_option maxHeartbeats 1000000
set_option maxRecDepth 100000
def Ev.slot (e:Ev):Slt:=⟨e.type,e.key⟩
end Go.Ab
namespace Go.Ab
set_option maxHeartbeats 1000000
set_option maxRecDepth 100000
def Ev.zero:Ev:=⟨V.mk 0 0 [] [] [], [], [], [], [], [],false,0,0, [], [],V.mk 0 0 [] [] []⟩
end Go.Ab
namespace Go.Ab
set_option maxHeartbeats 1000000
def N4Fa:= @F27.eq_1
def N4Fb:=J @F5_21.eq_1 (J @F5_29.eq_1 (J @F5_37.eq_1 (J @F5_38.eq_1 (J @F5_39.eq_1 (J @F5_40.eq_1 (J @F5_41.eq_1 (J @F5_42.eq_1 (J @F5_43.eq_1 (J @F5_44.eq_1 (J @F5_45.eq_1 (@F5.eq_1)))))))))))
def N4Fc:=J @F5_21.eq_1 (J @F5_29.eq_1 (J @F5_37.eq_1 (J @F5_38.eq_1 (J @F5_40.eq_1 (J @F5_41.eq_1 (J @F5_42.eq_1 (J @F5_43.eq_1 (J @F5_44.eq_1 (J @F5_45.eq_1 (@F5.eq_1))))))))))
def N4Fd:=J @F5_21.eq_1 (J @F5_29.eq_1 (J @F5_37.eq_1 (J @F5_38.eq_1 (J @F5_39.eq_1 (J @F5_40.eq_1 (J @F5_42.eq_1 (J @F5_43.eq_1 (J @F5_44.eq_1 (J @F5_45.eq_1 (@F5.eq_1))))))))))
def N4Fe:=J @F5_21.eq_1 (J @F5_29.eq_1 (J @F5_37.eq_1 (J @F5_38.eq_1 (J @F5_39.eq_1 (J @F5_40.eq_1 (J @F5_41.eq_1 (J @F5_42.eq_1 (J @F5_44.eq_1 (J @F5_45.eq_1 (@F5.eq_1))))))))))
def N4Ff:=J @F5_21.eq_1 (J @F5_29.eq_1 (J @F5_37.eq_1 (J @F5_38.eq_1 (J @F5_39.eq_1 (J @F5_40.eq_1 (J @F5_41.eq_1 (J @F5_42.eq_1 (J @F5_43.eq_1 (J @F5_44.eq_1 (@F5.eq_1))))))))))
set_option maxRecDepth 100000
def addT (l:List Slt) (s:Slt):List Slt:=if hasT l s then l else l ++ [s]
def NSt (σ:Store) (b:Nat) (l:List Slt):Prop:=∃v,look σ.m b=some (.own [v])∧Gr LSlt σ v l∧b < σ.next∧(∀len sz c,v≠ .sl b 0 len sz c)
theorem c_more (σ:Store) (b:Nat) (l:List Slt) (s:Slt) (h:NSt σ b l) (hl:l.length < lim): ∃σ',callS ipU gU (.fn 27 [] [.ptr b 0]) [sltE s] σ=some (.tup [],σ')∧NSt σ' b (addT l s):=by
 unfold lim at hl
 obtain ⟨v,h1,h2,h3,h4⟩:=h
 have hcall:callP ipU gU false (.fn 37 [] []) [v,sltE s] σ=some (.bool (hasT l s),σ):=h2.call1 (by simp only [closedL,sltE_closed,Bool.and_self]) (by simp only [erL,sltE_er]; exact r_containsT l s (by unfold big; omega)) rfl
 cases hh:hasT l s with
 | true=>
  rw [hh] at hcall
  refine ⟨σ,?_,v,h1,by simpa [addT,hh] using h2,h3,h4⟩
  refine callS_of (F:=F27) rfl (first:= []) (caps:= [.ptr b 0]) ?_
  simp only [N4Fa,EXA,seval,VX,readAt_some,h1,Slt.eta,hcall]
 | false=>
  rw [hh] at hcall
  have happ:appendTo σ 2 32 v [.str s.type, .str s.key] 1=some _:=h2.push (a:=s) (bytes:=32) (by omega) (by unfold maxBytes; omega)
  have hget:look (grNext LSlt σ v l [s]).m b=some (.own [v]):=by
   have:=grNext_get (m:= [s]) h2 h3 h4
   exact this.trans h1
  have hnx:=grNext_next LSlt σ v l [s]
  have hgn:=h2.next (m:= [s]) (by simp)
  have hlo:lenOf (.vsl [sltE s] (some 1))=some 1:=rfl
  have hro: ∀σ',rowOf σ' 2 (.vsl [sltE s] (some 1))=some [.str s.type, .str s.key]:=fun _=>rfl
  refine ⟨{ next:=(grNext LSlt σ v l [s]).next,m:=(b, .own [.sl σ.next 0 (l ++ [s]).length 2 none]) ::(grNext LSlt σ v l [s]).m },?_, .sl σ.next 0 (l ++ [s]).length 2 none,by simp [look],?_,?_,?_⟩
  ·refine callS_of (F:=F27) rfl (first:= []) (caps:= [.ptr b 0]) ?_
   simp only [N4Fa,EXA,seval,VX,readAt_some,h1,Slt.eta,hcall,hlo,hro,happ,hget]
   rfl
  ·have e:addT l s=l ++ [s]:=by simp [addT,hh]
   rw [e]
   exact Gr.own (L:=LSlt) (hgn.frame (by show look ((b,_) ::_) σ.next=look _ σ.next; simp only [look]; rw [if_neg (by omega)]) (Nat.le_refl _))
  ·show b < (grNext LSlt σ v l [s]).next; omega
  ·intro len sz c hv
   simp only [AV.sl.injEq] at hv
   omega
abbrev kCreate:Bs:= [109,46,114,111,111,109,46,99,114,101,97,116,101]
abbrev kPower:Bs:= [109,46,114,111,111,109,46,112,111,119,101,114,95,108,101,118,101,108,115]
abbrev kMember:Bs:= [109,46,114,111,111,109,46,109,101,109,98,101,114]
abbrev kJoins:Bs:= [109,46,114,111,111,109,46,106,111,105,110,95,114,117,108,101,115]
abbrev kThirdInv:Bs:= [109,46,114,111,111,109,46,116,104,105,114,100,95,112,97,114,116,121,95,105,110,118,105,116,101]
abbrev kJoin:Bs:= [106,111,105,110]
abbrev kInvite:Bs:= [105,110,118,105,116,101]
abbrev kKnock:Bs:= [107,110,111,99,107]
def addIf (c:Bool) (l:List Slt) (s:Slt):List Slt:=if c then addT l s else l
def base3 (e:Ev):List Slt:= [⟨kCreate, []⟩,⟨kPower, []⟩,⟨kMember,e.sender⟩]
def needs (e:Ev):List Slt:=
 if e.type == kCreate then [] else if !(e.type == kMember) then base3 e else
 let l1:=addT (base3 e) ⟨kMember,e.key⟩
 let to:=membershipV e.content
 let l2:=addIf (to == kJoin || (to == kInvite || to == kKnock)) l1 ⟨kJoins, []⟩
 let l3:=addIf ((thirdV e.content).2.2 && to == kInvite) l2 ⟨kThirdInv,(thirdV e.content).1⟩
 addIf ((authV e.content).2 && to == kJoin) l3 ⟨kMember,(authV e.content).1⟩
theorem addT_len (l:List Slt) (s:Slt):(addT l s).length≤l.length+1:=by
 unfold addT; split <;> simp
theorem NSt.rbE {σ:Store} {b:Nat} {l:List Slt} (h:NSt σ b l): ∃v,look σ.m b=some (.own [v])∧rbE σ v=some (.vsl (l.map sltE) none):=by
 obtain ⟨v,h1,h2,_⟩:=h
 exact ⟨v,h1,h2.rbE⟩
def fr4 (e:Ev) (m:Bs):Fr:= [(1, .vptr (evE e).cells 0),(3, .ptr 0 0),(4, .fn 27 [] [.ptr 0 0]),(5, .str m)]
theorem nd_end {σ:Store} {l:List Slt} {r:AV} (h:NSt σ 0 l) (hr:r= .vsl (l.map sltE) none) :
  Ex ipU gU [.code F5_39] [(3, .ptr 0 0)] σ fun fr' σ1=>(resAll fr' σ1 F5.res).bind (rbE σ1)=some r:=by
 obtain ⟨v,h1,h2⟩:=h.rbE
 subst hr
 simp only [N4Fb,EXA,seval,VX,readAt_some,h1,h2]
theorem nd_auth {e:Ev} {m:Bs} {σ:Store} {l:List Slt} {r:AV} (hb:e.content.sz < big) (h:NSt σ 0 l) (hl:l.length < 100)
  (hr:r= .vsl ((addIf ((authV e.content).2 && m == kJoin) l ⟨kMember,(authV e.content).1⟩).map sltE) none) :
  Ex ipU gU [.code F5_41] (fr4 e m) σ fun fr' σ1=>(resAll fr' σ1 F5.res).bind (rbE σ1)=some r:=by
 have h30:=r_auth e.content hb
 unfold fr4
 simp only [N4Fc,EXA,seval,VX,readAt_some,h30]
 cases hk:(authV e.content).2 with
 | false=>
  simp only [hk,Bool.false_and,addIf,Bool.false_eq_true,if_false] at hr
  simp only [N4Fc,EXA,seval,VX,readAt_some]
  exact nd_end h hr
 | true=>
  cases hj:m == kJoin with
  | false=>
   simp only [hk,hj,Bool.and_false,addIf,Bool.false_eq_true,if_false] at hr
   simp only [N4Fc,EXA,seval,VX,readAt_some,hj]
   exact nd_end h hr
  | true=>
   simp only [hk,hj,Bool.and_self,addIf,if_true] at hr
   obtain ⟨σ1,q1,n1⟩:=c_more σ 0 l ⟨kMember,(authV e.content).1⟩ h (by unfold lim; omega)
   simp only [N4Fc,EXA,seval,VX,readAt_some,hj,q1]
   exact nd_end n1 hr
theorem nd_third {e:Ev} {m:Bs} {σ:Store} {l:List Slt} {r:AV} (hb:e.content.sz < big) (h:NSt σ 0 l) (hl:l.length < 99)
  (hr:r= .vsl ((addIf ((authV e.content).2 && m == kJoin) (addIf ((thirdV e.content).2.2 && m == kInvite) l ⟨kThirdInv,(thirdV e.content).1⟩) ⟨kMember,(authV e.content).1⟩).map sltE) none) :
  Ex ipU gU [.code F5_43] (fr4 e m) σ fun fr' σ1=>(resAll fr' σ1 F5.res).bind (rbE σ1)=some r:=by
 have h29:=r_third e.content hb
 unfold fr4
 simp only [N4Fd,EXA,seval,VX,readAt_some,h29]
 have hl2:=addT_len l ⟨kThirdInv,(thirdV e.content).1⟩
 cases hk:(thirdV e.content).2.2 with
 | false=>
  simp only [hk,Bool.false_and,addIf,Bool.false_eq_true,if_false] at hr
  simp only [N4Fd,EXA,seval,VX,readAt_some]
  exact nd_auth hb h (by omega) hr
 | true=>
  cases hj:m == kInvite with
  | false=>
   simp only [hk,hj,Bool.and_false,addIf,Bool.false_eq_true,if_false] at hr
   simp only [N4Fd,EXA,seval,VX,readAt_some,hj]
   exact nd_auth hb h (by omega) hr
  | true=>
   simp only [hk,hj,Bool.and_self,addIf,if_true] at hr
   obtain ⟨σ1,q1,n1⟩:=c_more σ 0 l ⟨kThirdInv,(thirdV e.content).1⟩ h (by unfold lim; omega)
   simp only [N4Fd,EXA,seval,VX,readAt_some,hj,q1]
   exact nd_auth hb n1 (by omega) hr
theorem nd_join {e:Ev} {m:Bs} {σ:Store} {l:List Slt} {r:AV} (hb:e.content.sz < big) (h:NSt σ 0 l) (hl:l.length < 98)
  (hr:r= .vsl ((addIf ((authV e.content).2 && m == kJoin) (addIf ((thirdV e.content).2.2 && m == kInvite) (addIf (m == kJoin || (m == kInvite || m == kKnock)) l ⟨kJoins, []⟩) ⟨kThirdInv,(thirdV e.content).1⟩) ⟨kMember,(authV e.content).1⟩).map sltE) none) :
  Ex ipU gU [.code F5_45] (fr4 e m) σ fun fr' σ1=>(resAll fr' σ1 F5.res).bind (rbE σ1)=some r:=by
 unfold fr4
 have hl2:=addT_len l ⟨kJoins, []⟩
 obtain ⟨σ1,q1,n1⟩:=c_more σ 0 l ⟨kJoins, []⟩ h (by unfold lim; omega)
 cases hj:m == kJoin with
 | true=>
  simp only [hj,Bool.true_or,addIf,if_true] at hr
  simp only [N4Fe,EXA,seval,VX,readAt_some,hj,q1]
  exact nd_third hb n1 (by omega) (by simp only [hj,addIf]; exact hr)
 | false=>
 cases hi:m == kInvite with
 | true=>
  simp only [hj,hi,Bool.true_or,Bool.or_true,addIf,if_true] at hr
  simp only [N4Fe,EXA,seval,VX,readAt_some,hj,hi,q1]
  exact nd_third hb n1 (by omega) (by simp only [hj,hi,addIf]; exact hr)
 | false=>
 cases hk:m == kKnock with
 | true=>
  simp only [hj,hi,hk,Bool.or_true,addIf,if_true] at hr
  simp only [N4Fe,EXA,seval,VX,readAt_some,hj,hi,hk,q1]
  exact nd_third hb n1 (by omega) (by simp only [hj,hi,addIf]; exact hr)
 | false=>
  simp only [hj,hi,hk,Bool.or_self,addIf,Bool.false_eq_true,if_false] at hr
  simp only [N4Fe,EXA,seval,VX,readAt_some,hj,hi,hk]
  exact nd_third hb h (by omega) (by simp only [hj,hi,addIf]; exact hr)
theorem r_needs (e:Ev) (hb:e.content.sz < big):cR 5 [evE e]=some (.vsl ((needs e).map sltE) none):=by
 have h28:=r_membership e.content hb
 refine cR_of (F:=F5) rfl ?_
 obtain ⟨r,hr⟩ : ∃r,r=AV.vsl ((needs e).map sltE) none:=⟨_,rfl⟩
 rw [←hr]
 unfold needs at hr
 cases hc:e.type == kCreate with
 | true=>
  simp only [hc,if_true,List.map_nil] at hr
  simp only [N4Fb,EXA,seval,VX,readAt_some,hc,hr]
 | false=>
 cases hm: !(e.type == kMember) with
 | true=>
  simp only [hc,hm,if_true,Bool.false_eq_true,if_false] at hr
  simp only [N4Fb,EXA,seval,VX,readAt_some,hc,hm,hr]
  rfl
 | false=>
 simp only [hc,hm,Bool.false_eq_true,if_false] at hr
 simp only [N4Ff,EXA,seval,VX,readAt_some,hc,hm]
 obtain ⟨σ1,q1,n1⟩:=c_more ⟨1, [(0, .own [.vsl ((base3 e).map sltE) (some 3)]),(0, .own [.nils])]⟩ 0 (base3 e) ⟨kMember,e.key⟩ ⟨_,rfl,Gr.lit LSlt _ (base3 e),by simp,fun len sz c h=>by simp at h⟩ (by simp [base3,lim])
 have l1:=addT_len (base3 e) ⟨kMember,e.key⟩
 have l0:(base3 e).length=3:=rfl
 generalize addT (base3 e) ⟨kMember,e.key⟩=t1 at n1 l1 hr
 simp only [base3,List.map_cons,List.map_nil] at q1
 simp only [N4Ff,EXA,seval,VX,readAt_some,q1,h28]
 exact nd_join hb n1 (by omega) hr
end Go.Ab
namespace Go.Ab
set_option maxHeartbeats 1000000
set_option maxRecDepth 100000
end Go.Ab
namespace Go.Ab
set_option maxHeartbeats 1000000
set_option maxRecDepth 100000
def fitsF (ns:List Slt):List Slt→List Ev→Bool
 | _, []=>true
 | had,x ::r=>if x.isState && (!hasT had x.slot && hasT ns x.slot) then fitsF ns (had ++ [x.slot]) r else false
def fits (e:Ev) (auth:List Ev):Bool:=fitsF (needs e) [] auth
end Go.Ab
namespace Go.Ab
set_option maxHeartbeats 1000000
set_option maxRecDepth 100000
abbrev W (n:Int):Int:=IntKind.wrap .i64 n
mutual
def wt:V→Int→Int→Int
 | .mk _ _ s l m,d,t=>if decide (d > 70)=true then W (t+1) else wtM m d t (wtL l d t (W (1+(s.length:Int))))
def wtL:List V→Int→Int→Int→Int
 | [],_,_,a=>a
 | v ::r,d,t,a=>if decide (a≤t)=true then wtL r d t (W (a+wt v (W (d+1)) t)) else a
def wtM:List (Bs×V)→Int→Int→Int→Int
 | [],_,_,a=>a
 | (k,v) ::r,d,t,a=>if decide (a≤t)=true then wtM r d t (W (a+W ((k.length:Int)+wt v (W (d+1)) t))) else a
end
end Go.Ab
