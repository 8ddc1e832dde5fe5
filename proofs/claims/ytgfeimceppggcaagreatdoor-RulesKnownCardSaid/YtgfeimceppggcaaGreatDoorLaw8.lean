/- What functions of the program, and of the library, answer. Conditions: none. -/
import Derived.Test.YtgfeimceppggcaaGreatDoorLaw7
set_option linter.unusedVariables false
set_option linter.unusedSimpArgs false
set_option linter.defProp false
set_option linter.unnecessarySimpa false
namespace Go.Ab
set_option maxHeartbeats 1000000
def T10Fc:= @F29.eq_1
def T10Fd:= @F30.eq_1
def T10Fe:= @F42.eq_1
def T10Ff:= @F44.eq_1
def T10Fh:= @F67.eq_1
set_option maxRecDepth 100000
abbrev kThird:Bs:= [116,104,105,114,100,95,112,97,114,116,121,95,105,110,118,105,116,101]
abbrev kSigned:Bs:= [115,105,103,110,101,100]
abbrev kToken:Bs:= [116,111,107,101,110]
abbrev kMxid:Bs:= [109,120,105,100]
abbrev kAuthd:Bs:= [106,111,105,110,95,97,117,116,104,111,114,105,115,101,100,95,118,105,97,95,117,115,101,114,115,95,115,101,114,118,101,114]
abbrev kType:Bs:= [116,121,112,101]
abbrev kRoomId:Bs:= [114,111,111,109,95,105,100]
abbrev kMRM:Bs:= [109,46,114,111,111,109,95,109,101,109,98,101,114,115,104,105,112]
abbrev kAllow:Bs:= [97,108,108,111,119]
abbrev kMembership:Bs:= [109,101,109,98,101,114,115,104,105,112]
theorem V.zero_sz:V.zero.sz=1:=rfl
theorem said_sz (v:V):(said v).sz≤v.sz:=by
 unfold said
 split
 ·exact Nat.le_refl _
 ·rw [V.zero_sz]; exact v.sz_pos
theorem getV_sz (v:V) (k:Bs):(getV v k).1.sz≤v.sz:=by
 unfold getV
 split
 ·rename_i x _ hx
  have:=szM_mem (List.mem_of_getElem? hx)
  have:=v.sz_eq
  simp only; omega
 ·simp only; rw [V.zero_sz]; exact v.sz_pos
theorem m_len_sz (v:V):v.m.length≤v.sz:=by have:=v.sz_eq; have:=szM_len v.m; omega
theorem l_len_sz (v:V):v.l.length≤v.sz:=by have:=v.sz_eq; have:=szL_len v.l; omega
theorem s_len_sz (v:V):v.s.length≤v.sz:=by have:=v.sz_eq; omega
theorem textAt_len (v:V) (k:Bs):(textAt v k).1.length≤v.sz:=by
 unfold textAt
 split
 ·have:=s_len_sz (getV v k).1; have:=getV_sz v k; simp only; omega
 ·simp
theorem r_textAt (v:V) (k:Bs) (hb:v.sz < big):cR 46 [v.enc, .str k]=some (.tup [.str (textAt v k).1, .bool (textAt v k).2]):=r_TextAt v k (by have:=m_len_sz v; omega)
theorem r_get (v:V) (k:Bs) (hb:v.sz < big):cR 63 [v.enc, .str k]=some (.tup [(getV v k).1.enc, .bool (getV v k).2]):=r_Get v k (by have:=m_len_sz v; omega)
def itemsV (v:V) (k:Bs):List V:=if (getV v k).1.kind=4 then (getV v k).1.l else []
theorem r_items (v:V) (k:Bs) (hb:v.sz < big):cR 44 [v.enc, .str k]=some (.vsl ((itemsV v k).map V.enc) none):=by
 refine cR_of (F:=F44) rfl ?_
 have hg:=r_get v k hb
 unfold itemsV
 generalize getV v k=g at hg ⊢
 by_cases h4:g.1.kind=4
 ·have q:(g.1.kind != 4)=false:=by simp [h4]
  simp only [T10Ff,EXA,seval,VX,readAt_some,hg,q,h4]
 ·have q:(g.1.kind != 4)=true:=by simp [h4]
  simp only [T10Ff,EXA,seval,VX,readAt_some,hg,q,h4]
def tableV (v:V) (k:Bs):V×Bool:=if (getV v k).2 && (getV v k).1.kind == 5 then ((getV v k).1,true) else (V.zero,false)
theorem tableV_sz (v:V) (k:Bs):(tableV v k).1.sz≤v.sz:=by
 unfold tableV
 split
 ·exact getV_sz v k
 ·simp only; rw [V.zero_sz]; exact v.sz_pos
theorem r_tableAt (v:V) (k:Bs) (hb:v.sz < big):cR 67 [v.enc, .str k]=some (.tup [(tableV v k).1.enc, .bool (tableV v k).2]):=by
 refine cR_of (F:=F67) rfl ?_
 have hg:=r_get v k hb
 unfold tableV
 generalize getV v k=g at hg ⊢
 obtain ⟨x,ok⟩:=g
 simp only at hg ⊢
 cases ok
 ·simp only [T10Fh,EXA,seval,VX,readAt_some,hg,Bool.false_and,V.zero]
 ·by_cases h5:x.kind=5
  ·have q:(x.kind != 5)=false:=by simp [h5]
   have q2:(x.kind == 5)=true:=by simp [h5]
   simp only [T10Fh,EXA,seval,VX,readAt_some,hg,q,q2]
  ·have q:(x.kind != 5)=true:=by simp [h5]
   have q2:(x.kind == 5)=false:=by simp [h5]
   simp only [T10Fh,EXA,seval,VX,readAt_some,hg,q,q2,V.zero]
def membershipV (c:V):Bs:=(textAt (said c) kMembership).1
def authV (c:V):Bs×Bool:=if (partsB (textAt (said c) kAuthd).1 64).2.2=true then ((textAt (said c) kAuthd).1,true) else ([],false)
theorem r_auth (c:V) (hb:c.sz < big):cR 30 [c.enc]=some (.tup [.str (authV c).1, .bool (authV c).2]):=by
 have h1:=r_said c hb
 have hz:=said_sz c
 have h2:=r_textAt (said c) kAuthd (by omega)
 have h3:=r_User (textAt (said c) kAuthd).1 (by have:=textAt_len (said c) kAuthd; omega)
 refine cR_of (F:=F30) rfl ?_
 unfold authV
 cases hp:(partsB (textAt (said c) kAuthd).1 64).2.2
 ·rw [hp] at h3
  simp only [T10Fd,EXA,seval,VX,readAt_some,h1,h2,h3,hp]
 ·rw [hp] at h3
  simp only [T10Fd,EXA,seval,VX,readAt_some,h1,h2,h3,hp]
def signedV (c:V):V×Bool:=((tableV (tableV (said c) kThird).1 kSigned).1,(tableV (tableV (said c) kThird).1 kSigned).2 && ((textAt (tableV (tableV (said c) kThird).1 kSigned).1 kToken).2 && (textAt (tableV (tableV (said c) kThird).1 kSigned).1 kMxid).2))
theorem signedV_sz (c:V):(signedV c).1.sz≤c.sz:=by
 have h1:=said_sz c
 have h2:=tableV_sz (said c) kThird
 have h3:=tableV_sz (tableV (said c) kThird).1 kSigned
 unfold signedV
 simp only; omega
theorem r_signed (c:V) (hb:c.sz < big):cR 54 [c.enc]=some (.tup [(signedV c).1.enc, .bool (signedV c).2]):=by
 have h1:=r_said c hb
 have z1:=said_sz c
 have h2:=r_tableAt (said c) kThird (by omega)
 have z2:=tableV_sz (said c) kThird
 unfold signedV
 generalize (tableV (said c) kThird)=t1 at h2 z2 ⊢
 have h3:=r_tableAt t1.1 kSigned (by omega)
 have z3:=tableV_sz t1.1 kSigned
 generalize (tableV t1.1 kSigned)=t2 at h3 z3 ⊢
 have h4:=r_textAt t2.1 kToken (by omega)
 have h5:=r_textAt t2.1 kMxid (by omega)
 generalize textAt t2.1 kToken=a at h4 ⊢
 generalize textAt t2.1 kMxid=b at h5 ⊢
 obtain ⟨x,ok⟩:=t2
 obtain ⟨a1,a2⟩:=a
 obtain ⟨b1,b2⟩:=b
 simp only at h3 h4 h5 ⊢
 refine cR_of (F:=F54) rfl ?_
 cases ok <;> cases a2 <;> cases b2 <;> simp only [F54,EXA,seval,VX,readAt_some,h1,h2,h3,h4,h5,Bool.false_and,Bool.and_false]
def thirdV (c:V):Bs×Bs×Bool:=if (signedV c).2=true then ((textAt (signedV c).1 kToken).1,(textAt (signedV c).1 kMxid).1,true) else ([], [],false)
theorem r_third (c:V) (hb:c.sz < big):cR 29 [c.enc]=some (.tup [.str (thirdV c).1, .str (thirdV c).2.1, .bool (thirdV c).2.2]):=by
 have h1:=r_signed c hb
 have z1:=signedV_sz c
 unfold thirdV
 generalize signedV c=t at h1 z1 ⊢
 obtain ⟨x,ok⟩:=t
 simp only at h1 z1 ⊢
 have h2:=r_textAt x kToken (by omega)
 have h3:=r_textAt x kMxid (by omega)
 refine cR_of (F:=F29) rfl ?_
 cases ok
 ·simp only [T10Fc,EXA,seval,VX,readAt_some,h1]
 ·simp only [T10Fc,EXA,seval,VX,readAt_some,h1,h2,h3]
def roomV (c:V):Bs×Bool:=if (textAt c kType).1=kMRM∧(partsB (textAt c kRoomId).1 33).2.2=true then ((textAt c kRoomId).1,true) else ([],false)
theorem r_room (c:V) (hb:c.sz < big):cR 42 [c.enc]=some (.tup [.str (roomV c).1, .bool (roomV c).2]):=by
 have h2:=r_textAt c kType hb
 have h3:=r_textAt c kRoomId hb
 have h4:=r_Room (textAt c kRoomId).1 (by have:=textAt_len c kRoomId; omega)
 unfold roomV
 generalize textAt c kType=a at h2 ⊢
 generalize textAt c kRoomId=b at h3 h4 ⊢
 generalize partsB b.1 33=p at h4 ⊢
 obtain ⟨a1,a2⟩:=a
 obtain ⟨b1,b2⟩:=b
 obtain ⟨p1,p2,p3⟩:=p
 simp only at h2 h3 h4 ⊢
 refine cR_of (F:=F42) rfl ?_
 by_cases hk:a1=kMRM
 ·have q:(!(a1 == kMRM))=false:=by simp [hk]
  have qT:(a1=kMRM)=True:=eq_true hk
  cases p3
  ·simp only [T10Fe,EXA,seval,VX,readAt_some,h2,h3,h4,q,qT,and_false]
  ·simp only [T10Fe,EXA,seval,VX,readAt_some,h2,h3,h4,q,qT]
 ·have q:(!(a1 == kMRM))=true:=by simp [hk]
  simp only [T10Fe,EXA,seval,VX,readAt_some,h2,h3,h4,q,hk,false_and]
end Go.Ab
namespace Go.Ab
set_option maxHeartbeats 1000000
def T11Fa:=J @F22_4.eq_1 (J @F22_23.eq_1 (J @F22_24.eq_1 (@F22.eq_1)))
def T11Fd:=J @F64_2.eq_1 (J @F64_19.eq_1 (J @F64_20.eq_1 (@F64.eq_1)))
set_option maxRecDepth 100000
def lim:Nat:=1073741824
theorem Lay.rowOf {α:Type} (L:Lay α) (σ:Store) (l:List α) (c:Option Nat):rowOf σ L.sz (.vsl (l.map L.f) c)=some (L.cells l):=by
 have h:(l.map L.f).all (fun e=>e.cells.length == L.sz)=true:=by
  rw [List.all_eq_true]
  intro x hx
  obtain ⟨a,_,rfl⟩:=List.mem_map.1 hx
  simp [L.len a]
 have e:(l.map L.f).flatMap AV.cells=L.cells l:=by simp [Lay.cells,List.flatMap_map]
 show (if (l.map L.f).all (fun e=>e.cells.length == L.sz)=true then some ((l.map L.f).flatMap AV.cells) else none)=_
 rw [if_pos h,e]
def Gr {α:Type} (L:Lay α) (σ:Store) (v:AV) (l:List α):Prop:=
 (v= .nils∧l= [])∨(∃b,v= .sl b 0 l.length L.sz none∧Own L σ (some b) l)∨v= .vsl (l.map L.f) (some l.length)
section
variable {α:Type} {L:Lay α} {σ:Store} {v:AV} {l:List α}
theorem Gr.nil (L:Lay α) (σ:Store):Gr L σ .nils []:= .inl ⟨rfl,rfl⟩
theorem Gr.nil0 (L:Lay α) (σ:Store):Gr L σ (.vsl [] (some 0)) []:= .inr (.inr rfl)
theorem Gr.lit (L:Lay α) (σ:Store) (l:List α):Gr L σ (.vsl (l.map L.f) (some l.length)) l:= .inr (.inr rfl)
theorem Gr.own {b:Nat} (h:Own L σ (some b) l):Gr L σ (.sl b 0 l.length L.sz none) l:= .inr (.inl ⟨b,rfl,h⟩)
theorem Gr.lenL (h:Gr L σ v l):lenL v=some (.int .i64 l.length):=by
 rcases h with ⟨rfl,rfl⟩ | ⟨b,rfl,h⟩ | rfl
 ·rfl
 ·rfl
 ·rw [lenL_vsl,List.length_map]
theorem Gr.rb (h:Gr L σ v l): ∃v',Go.Ab.rb σ rbDepth v=some v'∧v'.er= .vsl (l.map L.f) none:=by
 rcases h with ⟨rfl,rfl⟩ | ⟨b,rfl,h⟩ | rfl
 ·exact ⟨_,rfl,by simp only [AV.er]; rfl⟩
 ·exact Own.rb (ob:=some b) h
 ·refine ⟨_,rb_closed' (by simp only [AV.closed]; exact closedL_map fun a _=>L.closed a),?_⟩
  simp only [AV.er,L.erMap]
theorem Gr.rbE (h:Gr L σ v l):Go.Ab.rbE σ v=some (.vsl (l.map L.f) none):=by
 obtain ⟨v',h1,h2⟩:=h.rb
 unfold Go.Ab.rbE
 rw [h1,Option.map_some,h2]
theorem Gr.call1 {st:Bool} {f:Nat} {args:List AV} {r:AV} (h:Gr L σ v l) (ha:closedL args=true) (hc:cR f (.vsl (l.map L.f) none ::erL args)=some r) (hr:r.flat=true) :
  callP ipU gU st (.fn f [] []) (v ::args) σ=some (r,σ):=by
 obtain ⟨v',h1,h2⟩:=h.rb
 refine callP_flat (args':=v' ::args) rfl ?_ ?_ hr
 ·simp only [mapO,h1,mapO_closed' ha]
 ·simp only [erL,h2,AV.er]; exact hc
def grNext {α:Type} (L:Lay α) (σ:Store) (v:AV) (l m:List α):Store:=match v with
 | .sl b .. =>(σ.set b .dead).alloc (L.cells l ++L.cells m)
 | _=>σ.alloc (L.cells l ++L.cells m)
theorem Gr.app {m:List α} {bytes:Nat} (h:Gr L σ v l) (hb:0 < bytes) (hm:(l.length+m.length)*bytes≤maxBytes) (hk:0 < m.length) :
  appendTo σ L.sz bytes v (L.cells m) m.length=some (.sl σ.next 0 (l ++m).length L.sz none,grNext L σ v l m):=by
 have c1:=L.cells_len m
 have c2:=L.cells_one m
 have c3:=L.pos
 rcases h with ⟨rfl,rfl⟩ | ⟨b,rfl,h⟩ | rfl
 ·unfold appendTo
  simp only [lenOf]
  rw [if_pos ⟨c3,hb,by simpa using hm,c1,c2⟩,if_neg (by omega)]
  simp [grNext,Lay.cells]
 ·obtain ⟨h1,h2,h3,h4⟩:=h
  unfold appendTo
  simp only [lenOf]
  rw [if_pos ⟨c3,hb,hm,c1,c2⟩,if_pos trivial]
  have:σ.owned b=some (L.cells l):=by simp [Store.owned,h1]
  rw [this]
  simp only
  rw [if_neg (by omega),if_pos (by omega)]
  simp [grNext]
 ·unfold appendTo
  simp only [lenOf,List.length_map]
  rw [if_pos ⟨c3,hb,hm,c1,c2⟩,if_neg (by omega),if_pos trivial,L.rowOf]
  simp [grNext]
theorem Gr.next {m:List α} (h:Gr L σ v l) (hk:0 < m.length):Own L (grNext L σ v l m) (some σ.next) (l ++m):=by
 have e:L.cells (l ++m)=L.cells l ++L.cells m:=by simp [Lay.cells]
 have hl:=L.cells_len (l ++m)
 have hlen:0 < (l ++m).length:=by simp; omega
 rcases h with ⟨rfl,rfl⟩ | ⟨b,rfl,h⟩ | rfl
 ·exact ⟨by simp only [grNext]; rw [←e]; exact get_alloc_next,hl,by simp [grNext,next_alloc],hlen⟩
 ·exact ⟨by simp only [grNext]; rw [←e]; exact get_alloc_next (σ:=σ.set b .dead),hl,by simp [grNext,next_alloc,next_set],hlen⟩
 ·exact ⟨by simp only [grNext]; rw [←e]; exact get_alloc_next,hl,by simp [grNext,next_alloc],hlen⟩
theorem Gr.push {a:α} {bytes:Nat} (h:Gr L σ v l) (hb:0 < bytes) (hm:(l.length+1)*bytes≤maxBytes) :
  appendTo σ L.sz bytes v (L.f a).cells 1=some (.sl σ.next 0 (l ++ [a]).length L.sz none,grNext L σ v l [a]):=by
 have:=Gr.app (m:= [a]) h hb (by simpa using hm) (by simp)
 simpa [Lay.cells] using this
theorem grNext_next (L:Lay α) (σ:Store) (v:AV) (l m:List α):(grNext L σ v l m).next=σ.next+1:=by
 unfold grNext; split <;> rfl
theorem Gr.frame {σ':Store} (h:Gr L σ v l) (hg: ∀b,b < σ.next→σ'.get b=σ.get b) (hn:σ.next≤σ'.next):Gr L σ' v l:=by
 rcases h with h | ⟨b,rfl,h⟩ | h
 ·exact .inl h
 ·exact .inr (.inl ⟨b,rfl,h.frame (hg b h.lt) hn⟩)
 ·exact .inr (.inr h)
theorem Gr.alloc (h:Gr L σ v l) (cs:List AV):Gr L (σ.alloc cs) v l:=h.frame (fun _ hb=>get_alloc hb) (by simp [next_alloc])
theorem Gr.newset (h:Gr L σ v l) (cs cs':List AV):Gr L { next:=σ.next+1,m:=(σ.next, .own cs) ::(σ.next, .own cs') ::σ.m } v l:=
 h.frame (fun b hb=>by
  show look ((σ.next,Blk.own cs) ::(σ.next, .own cs') ::σ.m) b=look σ.m b
  simp only [look]; rw [if_neg (by omega),if_neg (by omega)]) (by simp)
theorem grNext_get {m:List α} (h:Gr L σ v l) {b:Nat} (hb:b < σ.next) (hne: ∀len sz c,v≠ .sl b 0 len sz c):(grNext L σ v l m).get b=σ.get b:=by
 unfold grNext
 split
 ·rename_i b' off len sz c
  have hoff:off=0:=by
   rcases h with ⟨h,_⟩ | ⟨b2,h,_⟩ | h
   ·simp at h
   ·simp at h; exact h.2.1
   ·simp at h
  subst hoff
  rw [get_alloc (by rw [next_set]; exact hb),get_set (by rintro rfl; exact hne len sz c rfl)]
 ·exact get_alloc hb
end
theorem r_indexS (l:List Bs) (x:Bs) (hlen:l.length < big):cR 64 [.vsl (l.map .str) none, .str x]=some (.int .i64 (firstFrom (fun s=>x == s) l 0)):=by
 unfold big at hlen
 refine cR_of (F:=F64) rfl ?_
 simp only [F64_2,F64_19,F64,ex_loop,EXA,seval,VX]
 refine ex_while (S:=Nat) (fun j=> [(0, .vsl (l.map .str) none),(1, .str x),(7, .int .i64 l.length),(8, .int .i64 (j:Int))]) (fun _=> .empty) (fun j=>l.length - j) (fun j=>firstFrom (fun s=>x == s) l j=firstFrom (fun s=>x == s) l 0) ?_ 0 rfl
 intro b j hj ih
 by_cases hlt:j < l.length
 ·obtain ⟨y,hy⟩:=get_lt hlt
  have hidx:=idx_map (f:=AV.str) (sz:=1) (c:=none) hy rfl
  have hcond:=dlt hlt
  simp only [T11Fd,EXA,seval,VX,readAt_some,hcond,hidx]
  split
  ·rename_i hp
   rw [←hj,firstFrom_hit hy hp]
  ·rename_i hp
   refine ih (j+1) _ _ (by omega) ?_ ?_ rfl
   ·rw [←firstFrom_miss hy (by simpa using hp)]; exact hj
   ·rw [wsucc hlt (by omega)]
    simp only [EXA,seval]
 ·have hcond:=dge (Nat.not_lt.1 hlt)
  simp only [T11Fd,EXA,seval,VX,hcond]
  rw [←hj,firstFrom_end (by omega)]
def hasS (l:List Bs) (x:Bs):Bool:=l.any fun s=>x == s
theorem r_containsS (l:List Bs) (x:Bs) (hlen:l.length < big):cR 45 [.vsl (l.map .str) none, .str x]=some (.bool (hasS l x)):=by
 refine cR_of (F:=F45) rfl ?_
 simp only [F45,EXA,seval,VX,r_indexS l x hlen,firstFrom_ge,hasS]
def allowsL:List Bs→List V→List Bs
 | acc, []=>acc
 | acc,x ::r=>if (roomV x).2=true∧hasS acc (roomV x).1=false then allowsL (acc ++ [(roomV x).1]) r else allowsL acc r
def allowsV (c:V):List Bs:=allowsL [] (itemsV (said c) kAllow)
theorem itemsV_sz (v:V) (k:Bs): ∀x∈itemsV v k,x.sz≤v.sz:=by
 intro x hx
 unfold itemsV at hx
 split at hx
 ·have:=szL_mem hx; have:=(getV v k).1.sz_eq; have:=getV_sz v k; omega
 ·simp at hx
theorem itemsV_len (v:V) (k:Bs):(itemsV v k).length≤v.sz:=by
 unfold itemsV
 split
 ·have:=l_len_sz (getV v k).1; have:=getV_sz v k; omega
 ·simp
theorem r_allows (c:V) (hb:c.sz < lim):cR 22 [c.enc]=some (.vsl ((allowsV c).map .str) none):=by
 unfold lim at hb
 have hb':c.sz < big:=by unfold big; omega
 have h1:=r_said c hb'
 have z1:=said_sz c
 have h2:=r_items (said c) kAllow (by unfold big; omega)
 have z2:=itemsV_sz (said c) kAllow
 have z3:=itemsV_len (said c) kAllow
 refine cR_of (F:=F22) rfl ?_
 unfold allowsV
 generalize itemsV (said c) kAllow=l at h2 z2 z3 ⊢
 simp only [F22_4,F22_23,F22,ex_loop,EXA,seval,VX,readAt_some,h1,h2]
 refine ex_whileI (S:=Nat×List Bs×AV) (fun p=> [(3, .fn 42 [] []),(4,p.2.2),(11, .vsl (l.map V.enc) none),(12, .int .i64 l.length),(13, .int .i64 (p.1:Int))]) (fun p=>l.length - p.1)
  (fun p σ=>Gr LStr σ p.2.2 p.2.1∧p.2.1.length≤p.1∧allowsL p.2.1 (l.drop p.1)=allowsL [] l) ?_ (0, [], .nils) _ ⟨Gr.nil LStr _,by simp,rfl⟩
 rintro b ⟨j,acc,v⟩ σ ⟨hg,hlen,hj⟩ ih
 simp only at hg hlen hj ih ⊢
 by_cases hlt:j < l.length
 ·obtain ⟨x,hx⟩:=get_lt hlt
  have hidx:=idx_map (f:=V.enc) (sz:=5) (c:=none) hx (by simp [V.enc_cells])
  have hcond:=dlt hlt
  have hr:=r_room x (by have:=z2 x (List.mem_of_getElem? hx); unfold big; omega)
  rw [drop_cons hx,allowsL] at hj
  have hw:=wsucc hlt (by omega)
  have hn:=hg.newset
  cases hok:(roomV x).2
  ·rw [hok] at hr
   simp only [hok,Bool.false_eq_true,false_and,if_false] at hj
   simp only [T11Fa,EXA,seval,VX,readAt_some,hcond,hidx,hr,hw]
   exact ih (j+1,acc,v) _ _ (by simp; omega) ⟨hn _ _,by simp; omega,hj⟩ (by simp only [EXA,seval])
  ·rw [hok] at hr
   have hcall: ∀cs cs',callP ipU gU false (.fn 45 [] []) [v, .str (roomV x).1] _=some (.bool (hasS acc (roomV x).1),_):=fun cs cs'=>(hn cs cs').call1 rfl (by simp only [erL,AV.er]; exact r_containsS acc _ (by unfold big; omega)) rfl
   cases hh:hasS acc (roomV x).1
   ·simp only [hok,hh,and_self,if_true] at hj
    rw [hh] at hcall
    have happ: ∀cs cs',appendTo _ 1 16 v [.str (roomV x).1] 1=some _:=fun cs cs'=>(hn cs cs').push (a:=(roomV x).1) (bytes:=16) (by omega) (by unfold maxBytes; omega)
    have hlo:lenOf (.vsl [.str (roomV x).1] (some 1))=some 1:=rfl
    have hro: ∀σ',rowOf σ' 1 (.vsl [.str (roomV x).1] (some 1))=some [.str (roomV x).1]:=fun _=>rfl
    simp only [T11Fa,EXA,seval,VX,readAt_some,hcond,hidx,hr,hcall,happ,hlo,hro,hw]
    exact ih (j+1,acc ++ [(roomV x).1],_) _ _ (by simp; omega) ⟨Gr.own ((hn _ _).next (by simp)),by simp; omega,hj⟩ (by simp only [EXA,seval]; rfl)
   ·simp only [hok,hh,Bool.true_eq_false,and_false,if_false] at hj
    rw [hh] at hcall
    simp only [T11Fa,EXA,seval,VX,readAt_some,hcond,hidx,hr,hcall,hw]
    exact ih (j+1,acc,v) _ _ (by simp; omega) ⟨hn _ _,by simp; omega,hj⟩ (by simp only [EXA,seval])
 ·have hcond:=dge (Nat.not_lt.1 hlt)
  rw [List.drop_eq_nil_of_le (by omega),allowsL] at hj
  have hrb:=hg.rbE
  simp only [T11Fa,EXA,seval,VX,hcond,hrb,←hj]
  rfl
end Go.Ab
namespace Go.Ab
set_option maxHeartbeats 1000000
set_option maxRecDepth 100000
def Grown (σ σ':Store):Prop:=σ.next≤σ'.next∧∀b,b < σ.next→σ'.get b=σ.get b
theorem Grown.refl (σ:Store):Grown σ σ:=⟨Nat.le_refl _,fun _ _=>rfl⟩
theorem Grown.alloc (σ:Store) (cs:List AV):Grown σ (σ.alloc cs):=⟨by simp [next_alloc],fun _ hb=>get_alloc hb⟩
def Fresh (σ:Store) (v:AV):Prop:=∀b o len sz c,v= .sl b o len sz c→σ.next≤b
theorem both_of {f:Nat} {σ:Store} (n:Nat) (h1:scall ipU (run ipU gU n) (.fn f [] []) [.nils] .empty=some (.nils, .empty)) (h2:scall ipU (run ipU gU n) (.fn f [] []) [.e0] .empty=some (.vsl [] (some 0), .empty)) :
  both ipU gU (.fn f [] []) σ=true:=by
 refine both_some.2 ⟨n,?_⟩
 have e1:pcall ipU (run ipU gU n) false true (.fn f [] []) [.nils] σ=some (.nils,σ):=by
  unfold pcall
  rw [rb_closed' rfl,mapO_closed' rfl]
  simp only [AV.er,erL,Bool.false_eq_true,if_false,h1]
  rfl
 have e2:pcall ipU (run ipU gU n) false true (.fn f [] []) [.e0] σ=some (.vsl [] (some 0),σ):=by
  unfold pcall
  rw [rb_closed' rfl,mapO_closed' rfl]
  simp only [AV.er,erL,Bool.false_eq_true,if_false,h2]
  rfl
 unfold bothWays
 rw [e1,e2]
 rfl
theorem app00 {σ:Store} {sz bytes n:Nat} {new:List AV} (hs:0 < sz) (hb:0 < bytes) (hm:n*bytes≤maxBytes) (hl:new.length=n*sz) (ho:new.all AV.one=true) (hn:0 < n) :
  appendTo σ sz bytes (.vsl [] (some 0)) new n=some (.sl σ.next 0 n sz none,σ.alloc new):=by
 unfold appendTo
 simp only [lenOf,List.length_nil,Nat.zero_add]
 rw [if_pos ⟨hs,hb,hm,hl,ho⟩,if_neg (by omega),if_pos trivial]
 rfl
theorem lenOf_vsl (l:List AV) (c:Option Nat):lenOf (.vsl l c)=some l.length:=rfl
section
variable {α:Type} {L:Lay α}
theorem Gr.cloned (σ:Store) {l:List α} (h:0 < l.length):Gr L (σ.alloc (L.cells l)) (.sl σ.next 0 l.length L.sz none) l:=
 Gr.own ⟨get_alloc_next,L.cells_len l,by simp [next_alloc],h⟩
end
theorem Gr.rbD {α:Type} {L:Lay α} {σ:Store} {v:AV} {l:List α} (h:Gr L σ v l) (d:Nat): ∃v',Go.Ab.rb σ (d+1) v=some v'∧v'.er= .vsl (l.map L.f) none:=by
 rcases h with ⟨rfl,rfl⟩ | ⟨b,rfl,h⟩ | rfl
 ·exact ⟨_,rfl,by simp only [AV.er]; rfl⟩
 ·obtain ⟨h1,h2,h3,h4⟩:=h
  refine ⟨_,rb_sl (by simp [Store.cells,h1]) h2 L.pos (L.cells_closed l) (one_notAgg (L.cells_one l)),?_⟩
  rw [L.chunks]; simp only [AV.er,L.erMap]
 ·refine ⟨_,rb_closed' (by simp only [AV.closed]; exact closedL_map fun a _=>L.closed a),?_⟩
  simp only [AV.er,L.erMap]
theorem Gr.plain {α:Type} {L:Lay α} {σ:Store} {v:AV} {l:List α} (h:Gr L σ v l):v.known=true∧v.one=true∧v.cells= [v]∧v.notAgg=true:=by
 rcases h with ⟨rfl,_⟩ | ⟨b,rfl,_⟩ | rfl <;> exact ⟨rfl,rfl,rfl,rfl⟩
def RbL (σ:Store) (d:Nat) (cs cs':List AV):Prop:=∃m,mapO (rb σ d) cs=some m∧erL m=cs'
theorem RbL.nil (σ:Store) (d:Nat):RbL σ d [] []:=⟨[],rfl,by simp only [erL]⟩
theorem RbL.clo {σ:Store} {d:Nat} {x:AV} {cs cs':List AV} (hx:x.closed=true) (h:RbL σ d cs cs'):RbL σ d (x ::cs) (x.er ::cs'):=by
 obtain ⟨m,h1,h2⟩:=h
 exact ⟨x ::m,by simp only [mapO,rb_closed' hx,h1],by simp only [erL,h2]⟩
theorem RbL.gr {α:Type} {L:Lay α} {σ:Store} {d:Nat} {v:AV} {l:List α} {cs cs':List AV} (hv:Gr L σ v l) (h:RbL σ (d+1) cs cs'):RbL σ (d+1) (v ::cs) (.vsl (l.map L.f) none ::cs'):=by
 obtain ⟨m,h1,h2⟩:=h
 obtain ⟨v',h3,h4⟩:=hv.rbD d
 exact ⟨v' ::m,by simp only [mapO,h3,h1],by simp only [erL,h2,h4]⟩
theorem RbL.agg {σ:Store} {cs cs':List AV} (h:RbL σ 23 cs cs'):rbE σ (.agg cs)=some (.agg cs'):=by
 obtain ⟨m,h1,h2⟩:=h
 unfold rbE
 by_cases hc:(AV.agg cs).closed=true
 ·have:m=cs:=by
   have hm:=mapO_closed' (σ:=σ) (d:=23) (show closedL cs=true by simpa [AV.closed] using hc)
   rw [h1] at hm
   exact Option.some.inj hm
  subst this
  rw [rb_closed' hc,Option.map_some,AV.er,h2]
 ·have e:rb σ rbDepth (.agg cs)=some (.agg m):=by
   show rb σ (23+1) (.agg cs)=_
   rw [rb,if_neg hc,h1]
  rw [e,Option.map_some,AV.er,h2]
theorem look_get {σ:Store} {b:Nat} {x:Blk} (h:σ.get b=some x):look σ.m b=some x:=h
theorem c_cloneV (l:List V) (c:Option Nat) (σ:Store) (hb:l.length < lim): ∃v σ',callM ipU gU .split (.fn 41 [] []) [.vsl (l.map V.enc) c] σ=some (v,σ')∧Gr LV σ' v l∧Grown σ σ'∧Fresh σ v:=by
 unfold lim at hb
 cases l with
 | nil=>
  refine ⟨.vsl [] (some 0),σ,?_,Gr.nil0 _ _,Grown.refl _,fun b o len sz c h=>by simp at h⟩
  have hb2:both ipU gU (.fn 41 [] []) σ=true:=both_of 100 (by kernel_rfl) (by kernel_rfl)
  simp only [callM,List.map_nil,noItems,if_true,hb2]
 | cons x l=>
  have hro: ∀σ',rowOf σ' 5 (.vsl ((x ::l).map V.enc) c)=some (LV.cells (x ::l)):=fun σ'=>LV.rowOf σ' (x ::l) c
  have ha:appendTo σ 5 80 (.vsl [] (some 0)) (LV.cells (x ::l)) (l.length+1)=some (.sl σ.next 0 (l.length+1) 5 none,σ.alloc (LV.cells (x ::l))):=
   app00 (by omega) (by omega) (by unfold maxBytes; simp at hb; omega) (LV.cells_len (x ::l)) (LV.cells_one _) (by omega)
  refine ⟨_,σ.alloc (LV.cells (x ::l)),?_,Gr.cloned (L:=LV) σ (l:=x ::l) (by simp),Grown.alloc _ _,fun b o len sz c h=>by simp at h; omega⟩
  have hn:noItems [.vsl ((x ::l).map V.enc) c]=false:=rfl
  simp only [callM,hn,Bool.false_eq_true,if_false]
  refine callS_of (F:=F41) rfl (first:= []) (caps:= []) ?_
  simp only [List.map_cons] at hro
  simp only [F41,EXA,seval,VX,lenOf_vsl,hro,ha]
  simp [Store.alloc,LV]
theorem r_List (l:List V) (hb:l.length < lim):cR 21 [.vsl (l.map V.enc) none]=some (V.mk 4 0 [] l []).enc:=by
 refine cR_of (F:=F21) rfl ?_
 simp only [F21,EXA,seval,VX]
 obtain ⟨v,σ',h1,hg,hgr,hfr⟩:=c_cloneV l none ⟨1, [(0, .own [.int .i64 0, .int .i64 0, .str [], .nils, .nils])]⟩ hb
 obtain ⟨p1,p2,p3,p4⟩:=hg.plain
 have hlk:=look_get (hgr.2 0 (by simp))
 have hg2:Gr LV { next:=σ'.next,m:=(0, .own [.int .i64 4, .int .i64 0, .str [],v, .nils]) ::σ'.m } v l:=by
  rcases hg with h | ⟨b,rfl,h⟩ | h
  ·exact .inl h
  ·have hb1:=hfr b _ _ _ _ rfl
   exact Gr.own (h.frame (by show look ((0,_) ::σ'.m) b=_; simp only [look]; rw [if_neg (by simp at hb1; omega)]; rfl) (Nat.le_refl _))
  ·exact .inr (.inr h)
 have hrb:=RbL.agg (RbL.clo (x:= .int .i64 4) rfl (RbL.clo (x:= .int .i64 0) rfl (RbL.clo (x:= .str []) rfl (RbL.gr hg2 (RbL.clo (x:= .nils) rfl (RbL.nil _ 23))))))
 simp only [EXA,seval,VX,h1,p1,p2,p3,p4,hlk,readAt_some,hrb]
 exact V.fold2 4 0 [] l
end Go.Ab
namespace Go.Ab
set_option maxHeartbeats 1000000
set_option maxRecDepth 100000
def sEq (x y:Slt):Bool:=x.type == y.type && x.key == y.key
theorem Slt.eta (x:Slt):(⟨x.type,x.key⟩ :Slt)=x:=rfl
def hasT (l:List Slt) (x:Slt):Bool:=l.any (sEq x)
end Go.Ab
namespace Go.Ab
set_option maxHeartbeats 1000000
set_option maxRecDepth 100000
def Ev.slot (e:Ev):Slt:=⟨e.type,e.key⟩
end Go.Ab
namespace Go.Ab
set_option maxHeartbeats 1000000
set_option maxRecDepth 100000
def Ev.zero:Ev:=⟨V.mk 0 0 [] [] [], [], [], [], [], [],false,0,0, [], [],V.mk 0 0 [] [] []⟩
end Go.Ab
namespace Go.Ab
set_option maxHeartbeats 1000000
set_option maxRecDepth 100000
def addT (l:List Slt) (s:Slt):List Slt:=if hasT l s then l else l ++ [s]
def NSt (σ:Store) (b:Nat) (l:List Slt):Prop:=∃v,look σ.m b=some (.own [v])∧Gr LSlt σ v l∧b < σ.next∧(∀len sz c,v≠ .sl b 0 len sz c)
abbrev kCreate:Bs:= [109,46,114,111,111,109,46,99,114,101,97,116,101]
abbrev kPower:Bs:= [109,46,114,111,111,109,46,112,111,119,101,114,95,108,101,118,101,108,115]
abbrev kMember:Bs:= [109,46,114,111,111,109,46,109,101,109,98,101,114]
abbrev kJoins:Bs:= [109,46,114,111,111,109,46,106,111,105,110,95,114,117,108,101,115]
abbrev kThirdInv:Bs:= [109,46,114,111,111,109,46,116,104,105,114,100,95,112,97,114,116,121,95,105,110,118,105,116,101]
abbrev kJoin:Bs:= [106,111,105,110]
abbrev kInvite:Bs:= [105,110,118,105,116,101]
abbrev kKnock:Bs:= [107,110,111,99,107]
def addIf (c:Bool) (l:List Slt) (s:Slt):List Slt:=if c then addT l s else l
def base3 (e:Ev):List Slt:= [⟨kCreate, []⟩,⟨kPower, []⟩,⟨kMember,e.sender⟩]
def needs (e:Ev):List Slt:=
 if e.type == kCreate then [] else if !(e.type == kMember) then base3 e else
 let l1:=addT (base3 e) ⟨kMember,e.key⟩
 let to:=membershipV e.content
 let l2:=addIf (to == kJoin || (to == kInvite || to == kKnock)) l1 ⟨kJoins, []⟩
 let l3:=addIf ((thirdV e.content).2.2 && to == kInvite) l2 ⟨kThirdInv,(thirdV e.content).1⟩
 addIf ((authV e.content).2 && to == kJoin) l3 ⟨kMember,(authV e.content).1⟩
theorem NSt.rbE {σ:Store} {b:Nat} {l:List Slt} (h:NSt σ b l): ∃v,look σ.m b=some (.own [v])∧rbE σ v=some (.vsl (l.map sltE) none):=by
 obtain ⟨v,h1,h2,_⟩:=h
 exact ⟨v,h1,h2.rbE⟩
def fr4 (e:Ev) (m:Bs):Fr:= [(1, .vptr (evE e).cells 0),(3, .ptr 0 0),(4, .fn 27 [] [.ptr 0 0]),(5, .str m)]
end Go.Ab
namespace Go.Ab
set_option maxHeartbeats 1000000
set_option maxRecDepth 100000
theorem callR_first (id:Nat) (first args caps:List AV):callR ipU gU (.fn id first caps) args=callR ipU gU (.fn id [] []) (first ++args ++caps):=by
 have e: ∀n,scall ipU (run ipU gU n) (.fn id first caps) args .empty=scall ipU (run ipU gU n) (.fn id [] []) (first ++args ++caps) .empty:=fun n=>by
  simp only [scall,List.nil_append,List.append_nil]
 have h:callS ipU gU (.fn id first caps) args .empty=callS ipU gU (.fn id [] []) (first ++args ++caps) .empty:=by
  apply Option.ext
  intro x
  constructor
  ·intro hx
   obtain ⟨n,hn⟩:=callS_some.1 hx
   exact callS_some.2 ⟨n,by rw [←e]; exact hn⟩
  ·intro hx
   obtain ⟨n,hn⟩:=callS_some.1 hx
   exact callS_some.2 ⟨n,by rw [e]; exact hn⟩
 unfold callR
 rw [h]
end Go.Ab
namespace Go.Ab
set_option maxHeartbeats 1000000
set_option maxRecDepth 100000
def fitsF (ns:List Slt):List Slt→List Ev→Bool
 | _, []=>true
 | had,x ::r=>if x.isState && (!hasT had x.slot && hasT ns x.slot) then fitsF ns (had ++ [x.slot]) r else false
def fits (e:Ev) (auth:List Ev):Bool:=fitsF (needs e) [] auth
end Go.Ab
namespace Go.Ab
set_option maxHeartbeats 1000000
set_option maxRecDepth 100000
abbrev W (n:Int):Int:=IntKind.wrap .i64 n
mutual
def wt:V→Int→Int→Int
 | .mk _ _ s l m,d,t=>if decide (d > 70)=true then W (t+1) else wtM m d t (wtL l d t (W (1+(s.length:Int))))
def wtL:List V→Int→Int→Int→Int
 | [],_,_,a=>a
 | v ::r,d,t,a=>if decide (a≤t)=true then wtL r d t (W (a+wt v (W (d+1)) t)) else a
def wtM:List (Bs×V)→Int→Int→Int→Int
 | [],_,_,a=>a
 | (k,v) ::r,d,t,a=>if decide (a≤t)=true then wtM r d t (W (a+W ((k.length:Int)+wt v (W (d+1)) t))) else a
end
end Go.Ab
