/- The abstract machine, said as rules for rewriting. Conditions: none. -/
import Derived.Test.YtgfeimceppggcaaGreatDoorMach
import Derived.Test.YtgfeimceppggcaaGreatDoorRun
set_option linter.unusedVariables false
set_option linter.unusedSimpArgs false
set_option linter.defProp false
set_option linter.unnecessarySimpa false
namespace Go.Ab
def ob {α:Type} (o:Option α) (K:α->Prop):Prop:=match o with
 | some v=>K v
 | none=>False
@[simp] theorem Ma {α:Type} (v:α) (K:α->Prop):ob (some v) K↔K v:=Iff.rfl
@[simp] theorem Mb {α:Type} (K:α->Prop):ob none K↔False:=Iff.rfl
section
variable (ip:Nat->Option au) (G:Nat->ai)
def Ex (k:List Item) (fr:Fr) (σ:ag) (Q:Fr->ag->Prop):Prop:=∃n fr' σ',run ip G n k fr σ=some (fr',σ')/\Q fr' σ'
open Classical in
noncomputable def cj (f:AV) (args:ai) (σ:ag):Option (AV×ag):=
 if h: ∃x n,dd ip (run ip G n) f args σ=some x then some h.choose else none
noncomputable def dx (f:AV) (args:ai):Option AV:=(cj ip G f args .empty).bind fun x=>rbE x.2 x.1
variable {ip G}
theorem Og {n m:Nat} {f:AV} {args:ai} {σ:ag} {x y:AV×ag} (h1:dd ip (run ip G n) f args σ=some x) (h2:dd ip (run ip G m) f args σ=some y):x=y:=by
 have a:=lW (ip:=ip) (pR (ip:=ip) (G:=G) (Nat.le_max_left n m)) h1
 have b:=lW (ip:=ip) (pR (ip:=ip) (G:=G) (Nat.le_max_right n m)) h2
 rw [a] at b
 exact bT b
theorem dY {f:AV} {args:ai} {σ:ag} {x:AV×ag}:cj ip G f args σ=some x↔∃n,dd ip (run ip G n) f args σ=some x:=by
 unfold cj
 constructor
 ·intro h
  split at h
  ·rename_i hh
   simp only [ah] at h
   subst h
   exact hh.choose_spec
  ·simp at h
 ·rintro ⟨n,h⟩
  rw [dif_pos ⟨x,n,h⟩]
  have hh: ∃x n,dd ip (run ip G n) f args σ=some x:=⟨x,n,h⟩
  obtain ⟨m,hm⟩:=hh.choose_spec
  exact congrArg some (Og hm h)
theorem gi {k k':List Item} {fr fr':Fr} {σ σ':ag} {Q:Fr->ag->Prop} (h: ∀n,run ip G (n+1) k fr σ=run ip G n k' fr' σ'):Ex ip G k fr σ Q↔Ex ip G k' fr' σ' Q:=by
 constructor
 ·rintro ⟨n,a,b,h1,h2⟩
  cases n with
  | zero=>simp [run] at h1
  | succ n=>exact ⟨n,a,b,by rw [←h]; exact h1,h2⟩
 ·rintro ⟨n,a,b,h1,h2⟩
  exact ⟨n+1,a,b,by rw [h]; exact h1,h2⟩
section
variable {fr:Fr} {σ:ag} {Q:Fr->ag->Prop} {k:List Item}
theorem ex_nil:Ex ip G [] fr σ Q↔Q fr σ:=by
 constructor
 ·rintro ⟨n,a,b,h1,h2⟩
  cases n with
  | zero=>simp [run] at h1
  | succ n=>simp only [run,ah,aL] at h1; obtain ⟨rfl,rfl⟩:=h1; exact h2
 ·intro h; exact ⟨1,fr,σ,rfl,h⟩
theorem ex_ret:Ex ip G (.code .ret ::k) fr σ Q↔Q fr σ:=by
 constructor
 ·rintro ⟨n,a,b,h1,h2⟩
  cases n with
  | zero=>simp [run] at h1
  | succ n=>simp only [run,ah,aL] at h1; obtain ⟨rfl,rfl⟩:=h1; exact h2
 ·intro h; exact ⟨1,fr,σ,rfl,h⟩
theorem JQ {id:Nat}:Ex ip G (.inBlock id ::k) fr σ Q↔Ex ip G k fr σ Q:=gi fun _=>rfl
theorem aN {l:List Nat} {c:al}:Ex ip G (.inLoop l c ::k) fr σ Q↔Ex ip G (.code c :: .inLoop l c ::k) (keep l fr) σ Q:=gi fun _=>rfl
theorem ax {l:List Nat} {c:al}:Ex ip G (.code (.loop l c) ::k) fr σ Q↔Ex ip G (.code c :: .inLoop l c ::k) (keep l fr) σ Q:=gi fun _=>rfl
theorem Zl {l:List Nat} {c:al}:Ex ip G (.code (.keep l c) ::k) fr σ Q↔Ex ip G (.code c ::k) (keep l fr) σ Q:=gi fun _=>rfl
theorem T9 {l:List Nat} {c:al}:Ex ip G (.code (.frz l c) ::k) fr σ Q↔Ex ip G (.code c ::k) fr (kH fr l σ) Q:=gi fun _=>rfl
theorem Zk:Ex ip G (.code .skip ::k) fr σ Q↔Ex ip G k fr σ Q:=gi fun _=>rfl
theorem ex_seq {a b:al}:Ex ip G (.code (.seq a b) ::k) fr σ Q↔Ex ip G (.code a :: .code b ::k) fr σ Q:=gi fun _=>rfl
theorem Ua {id:Nat} {c:al}:Ex ip G (.code (.block id c) ::k) fr σ Q↔Ex ip G (.code c :: .inBlock id ::k) fr σ Q:=gi fun _=>rfl
theorem PC {ops:List a8}:Ex ip G (.code (.region ops) ::k) fr σ Q↔Ex ip G (.ops ops ::k) fr σ Q:=gi fun _=>rfl
theorem JP:Ex ip G (.ops [] ::k) fr σ Q↔Ex ip G k fr σ Q:=gi fun _=>rfl
theorem Zm {id:Nat}:Ex ip G (.code (.exit id) ::k) fr σ Q↔ob (exitTo id k) fun k'=>Ex ip G k' fr σ Q:=by
 cases h:exitTo id k with
 | none=>
  simp only [Mb,iff_false]
  rintro ⟨n,a,b,h1,h2⟩
  cases n with
  | zero=>simp [run] at h1
  | succ n=>simp [run,h] at h1
 | some k'=>
  simp only [Ma]
  exact gi fun n=>by simp [run,h]
def obB (v:AV) (K:Bool->Prop):Prop:=match v with
 | .bool b=>K b
 | _=>False
@[simp] theorem SA (b:Bool) (K:Bool->Prop):obB (.bool b) K↔K b:=Iff.rfl
theorem Zn {c:bB} {a b:al}:Ex ip G (.code (.cond c a b) ::k) fr σ Q↔obB (val G fr c) fun t=>if t=true then Ex ip G (.code a ::k) fr σ Q else Ex ip G (.code b ::k) fr σ Q:=by
 cases hv:val G fr c with
 | bool t=>
  simp only [SA]
  rw [gi (k':= .code (if t then a else b) ::k) (fr':=fr) (σ':=σ) fun n=>by simp [run,hv]]
  cases t <;> simp
 | _=>
  simp only [obB,iff_false]
  rintro ⟨n,x,y,h1,h2⟩
  cases n with
  | zero=>simp [run] at h1
  | succ n=>simp [run,hv] at h1
def Je:cG->Bool
 | .call .. =>false
 | _=>true
theorem wF {o:cG} (h:Je o=true) (r r':kN):bH ip G r o fr σ=bH ip G r' o fr σ:=by
 cases o with
 | call=>simp [Je] at h
 | buildSl own=>cases own <;> rfl
 | _=>rfl
def eff (ip:Nat->Option au) (G:Nat->ai) (o:cG) (fr:Fr) (σ:ag):Option (AV×ag):=bH ip G (fun _ _ _=>none) o fr σ
theorem dp {d:aA} {o:cG} {os:List a8} (h:Je o=true):Ex ip G (.ops (⟨d,none,o⟩ ::os) ::k) fr σ Q↔ob (eff ip G o fr σ) fun x=>Ex ip G (.ops os ::k) (fr.put d x.1) x.2 Q:=by
 cases hx:eff ip G o fr σ with
 | none=>
  simp only [Mb,iff_false]
  rintro ⟨n,x,y,h1,h2⟩
  cases n with
  | zero=>simp [run] at h1
  | succ n=>
   have:bH ip G (run ip G n) o fr σ=none:=(wF h _ _).trans hx
   simp [run,wanted,this] at h1
 | some x=>
  simp only [Ma]
  refine gi fun n=> ?_
  have:bH ip G (run ip G n) o fr σ=some x:=(wF h _ _).trans hx
  obtain ⟨v,σ'⟩:=x
  simp [run,wanted,this]
def obG (v:AV) (K:Bool->Prop) (S:Prop):Prop:=match v with
 | .bool b=>K b
 | .tup []=>S
 | _=>False
theorem Ho {d:aA} {t:Nat} {b:Bool} {o:cG} {os:List a8}:Ex ip G (.ops (⟨d,some (t,b),o⟩ ::os) ::k) fr σ Q↔
  obG (fr.get t) (fun c=>if c=b then Ex ip G (.ops (⟨d,none,o⟩ ::os) ::k) fr σ Q else Ex ip G (.ops os ::k) (fr.put d (.tup [])) σ Q) (Ex ip G (.ops os ::k) (fr.put d (.tup [])) σ Q):=by
 unfold obG
 split
 ·rename_i c hv
  show _↔if c=b then _ else _
  by_cases hcb:c=b
  ·rw [if_pos hcb]
   have hs: ∀n,run ip G (n+1) (.ops (⟨d,some (t,b),o⟩ ::os) ::k) fr σ=run ip G (n+1) (.ops (⟨d,none,o⟩ ::os) ::k) fr σ:=fun n=>by
    simp [run,wanted,hv,hcb]
   constructor
   ·rintro ⟨n,x,y,h1,h2⟩
    cases n with
    | zero=>simp [run] at h1
    | succ n=>exact ⟨n+1,x,y,by rw [←hs]; exact h1,h2⟩
   ·rintro ⟨n,x,y,h1,h2⟩
    cases n with
    | zero=>simp [run] at h1
    | succ n=>exact ⟨n+1,x,y,by rw [hs]; exact h1,h2⟩
  ·rw [if_neg hcb]
   refine gi fun n=> ?_
   have:(c == b)=false:=by simp [hcb]
   simp [run,wanted,hv,this]
 ·rename_i hv
  exact gi fun n=>by simp [run,wanted,hv]
 ·rename_i h1 h2
  simp only [iff_false]
  rintro ⟨n,x,y,h3,h4⟩
  cases n with
  | zero=>simp [run] at h3
  | succ n=>
   have:wanted (some (t,b)) fr=none:=by
    unfold wanted
    split
    ·rename_i hh; simp at hh
    ·rename_i hh
     simp only [ah,aL] at hh
     obtain ⟨rfl,rfl⟩:=hh
     split
     ·rename_i c hc; exact absurd hc (h1 c)
     ·rename_i hc; exact absurd hc h2
     ·rfl
   simp [run,this] at h3
noncomputable def gf (ip:Nat->Option au) (G:Nat->ai) (strict:Bool) (f:AV) (args:ai) (σ:ag):Option (AV×ag):=
 (rb σ bJ f).bind fun f'=>(cS (rb σ bJ) args).bind fun args'=>(dx ip G f'.er (eP args')).bind fun r=>
  if r.flat || (f.closed && ay args) then some (r,σ) else if strict then none else some (r,σ.freeze)
theorem sJ {st:Bool} {f:AV} {args:ai} {x:AV×ag}:gf ip G st f args σ=some x↔∃n,gO ip (run ip G n) true st f args σ=some x:=by
 unfold gf gO
 simp only [if_true]
 cases rb σ bJ f with
 | none=>simp
 | some f'=>
  cases cS (rb σ bJ) args with
  | none=>simp
  | some args'=>
   simp only [Option.bind_some]
   constructor
   ·intro h
    rw [Option.bind_eq_some_iff] at h
    obtain ⟨r,h1,h2⟩:=h
    unfold dx rbE at h1
    rw [Option.bind_eq_some_iff] at h1
    obtain ⟨y,h3,h4⟩:=h1
    rw [cH] at h4
    obtain ⟨r0,h4,rfl⟩:=h4
    obtain ⟨n,h5⟩:=dY.1 h3
    refine ⟨n,?_⟩
    rw [h5]
    simp only [h4]
    rw [xC] at h2
    exact h2
   ·rintro ⟨n,h⟩
    cases h5:dd ip (run ip G n) f'.er (eP args') .empty with
    | none=>rw [h5] at h; simp at h
    | some y=>
     rw [h5] at h
     have h3:=dY.2 ⟨n,h5⟩
     cases h4:rb y.2 bJ y.1 with
     | none=>simp [h4] at h
     | some r=>
      have hR:dx ip G f'.er (eP args')=some r.er:=by unfold dx rbE; rw [h3]; simp only [Option.bind_some,h4,Option.map_some]
      rw [hR]
      simp only [Option.bind_some,xC]
      simpa [h4] using h
open Classical in
noncomputable def both (ip:Nat->Option au) (G:Nat->ai) (f:AV) (σ:ag):Bool:=decide (∃n,fU ip (run ip G n) f σ=true)
theorem vF {f:AV}:both ip G f σ=true↔∃n,fU ip (run ip G n) f σ=true:=by
 unfold both; simp
noncomputable def jc (ip:Nat->Option au) (G:Nat->ai) (m:uH) (f:AV) (args:ai) (σ:ag):Option (AV×ag):=match m with
 | .shared=>cj ip G f args σ
 | .pure=>gf ip G false f args σ
 | .strict=>gf ip G true f args σ
 | .split=>if c9 args=true then (if both ip G f σ=true then some (.vsl [] (some 0),σ) else none) else cj ip G f args σ
 | .splitS=>if c9 args=true then (if both ip G f σ=true then some (.vsl [] none,σ) else none) else gf ip G true f args σ
theorem Ag {m:uH} {f:bB} {xs:List bB} {x:AV×ag}:jc ip G m (val G fr f) (xs.map (val G fr)) σ=some x↔∃n,bH ip G (run ip G n) (.call m f xs) fr σ=some x:=by
 have key: ∀(v:AV×ag),(if both ip G (val G fr f) σ=true then some v else none)=some x↔∃n,(if fU ip (run ip G n) (val G fr f) σ=true then some v else none)=some x:=by
  intro v
  constructor
  ·intro h
   split at h <;> simp only [ah,reduceCtorEq] at h
   rename_i hb
   obtain ⟨n,hn⟩:=vF.1 hb
   exact ⟨n,by rw [if_pos hn,h]⟩
  ·rintro ⟨n,h⟩
   split at h <;> simp only [ah,reduceCtorEq] at h
   rename_i hb
   rw [if_pos (vF.2 ⟨n,hb⟩),h]
 cases m with
 | shared=>exact dY
 | pure=>exact sJ
 | strict=>exact sJ
 | split=>
  simp only [jc,bH]
  by_cases hn:c9 (xs.map (val G fr))=true
  ·simp only [if_pos hn]; exact key _
  ·simp only [if_neg hn]; exact dY
 | splitS=>
  simp only [jc,bH]
  by_cases hn:c9 (xs.map (val G fr))=true
  ·simp only [if_pos hn]; exact key _
  ·simp only [if_neg hn]; exact sJ
theorem Zo {d:aA} {m:uH} {f:bB} {xs:List bB} {os:List a8} :
  Ex ip G (.ops (⟨d,none, .call m f xs⟩ ::os) ::k) fr σ Q↔ob (jc ip G m (val G fr f) (xs.map (val G fr)) σ) fun x=>Ex ip G (.ops os ::k) (fr.put d x.1) x.2 Q:=by
 constructor
 ·rintro ⟨n,a,b,h1,h2⟩
  cases n with
  | zero=>simp [run] at h1
  | succ n=>
   simp only [run,wanted] at h1
   cases hd:bH ip G (run ip G n) (.call m f xs) fr σ with
   | none=>rw [hd] at h1; simp at h1
   | some x=>
    rw [hd] at h1
    rw [Ag.2 ⟨n,hd⟩]
    exact ⟨n,a,b,h1,h2⟩
 ·intro h
  cases hc:jc ip G m (val G fr f) (xs.map (val G fr)) σ with
  | none=>rw [hc] at h; exact h.elim
  | some x=>
   rw [hc] at h
   obtain ⟨n,a,b,h1,h2⟩:=h
   obtain ⟨n',hd⟩:=Ag.1 hc
   refine ⟨max n n'+1,a,b,?_,h2⟩
   have Wb:=B9 (ip:=ip) (G:=G) (pR (ip:=ip) (G:=G) (Nat.le_max_right n n')) hd
   have Gz:=pR (ip:=ip) (G:=G) (Nat.le_max_left n n') _ _ _ _ h1
   simp only [run,wanted,Wb]
   exact Gz
theorem Ex.mono {Q':Fr->ag->Prop} (h: ∀a b,Q a b->Q' a b) (x:Ex ip G k fr σ Q):Ex ip G k fr σ Q':=by
 obtain ⟨n,a,b,h1,h2⟩:=x
 exact ⟨n,a,b,h1,h _ _ h2⟩
end
theorem cU {id:Nat} {F:au} (hF:ip id=some F) {first args caps:ai} {σ σ':ag} {r:AV}
  (h:Ex ip G [.code F.body] (fK (first ++args ++caps)) σ fun fr' σ1=>iO fr' σ1 F.res=some r/\σ1=σ'):cj ip G (.fn id first caps) args σ=some (r,σ'):=by
 obtain ⟨n,fr',σ1,h1,h2,rfl⟩:=h
 refine dY.2 ⟨n,?_⟩
 unfold dd
 simp only [hF,h1,h2]
theorem uj {id:Nat} {F:au} (hF:ip id=some F) {first args caps:ai} {r:AV}
  (h:Ex ip G [.code F.body] (fK (first ++args ++caps)) .empty fun fr' σ1=>(iO fr' σ1 F.res).bind (rbE σ1)=some r):dx ip G (.fn id first caps) args=some r:=by
 obtain ⟨n,fr',σ1,h1,h2⟩:=h
 rw [Option.bind_eq_some_iff] at h2
 obtain ⟨r0,h3,h4⟩:=h2
 have:=cU (ip:=ip) (G:=G) hF (first:=first) (args:=args) (caps:=caps) (σ:= .empty) (σ':=σ1) (r:=r0) ⟨n,fr',σ1,h1,h3,rfl⟩
 unfold dx
 rw [this]
 exact h4
theorem ck {σ:ag} {d:Nat} {v:AV} (h:v.closed=true):rb σ d v=some v:=by
 cases d <;> simp [rb,h]
theorem cP {σ:ag} {d:Nat}: ∀ {l:ai},ay l=true->cS (rb σ d) l=some l
 | [],_=>rfl
 | v ::l,h=>by
  simp only [ay,ak] at h
  simp [cS,ck h.1,cP h.2]
theorem lz {st:Bool} {f:AV} {args:ai} {σ:ag} (h1:f.closed=true) (h2:ay args=true):gf ip G st f args σ=(dx ip G f.er (eP args)).map fun r=>(r,σ):=by
 unfold gf
 rw [ck h1,cP h2]
 simp only [Option.bind_some,h1,h2,aW,Bool.or_true,if_true]
 cases dx ip G f.er (eP args) <;> rfl
theorem iz {st:Bool} {f:AV} {args args':ai} {σ:ag} {r:AV} (h1:f.closed=true) (h2:cS (rb σ bJ) args=some args') (h3:dx ip G f.er (eP args')=some r) (h4:r.flat=true):gf ip G st f args σ=some (r,σ):=by
 unfold gf
 rw [ck h1,h2]
 simp [h3,h4]
end
end Go.Ab
namespace Go.Ab
def WL (t:Nat) (v:AV):Fr->Fr
 | []=> []
 | (i,b) ::r=>if i=t then (i,v) ::r else (i,b) ::WL t v r
theorem yF {t:Nat} {v:AV}: ∀ {fr:Fr},look fr t=some v->WL t v fr=fr
 | [],h=>by simp [look] at h
 | (i,b) ::r,h=>by
  simp only [WL]
  simp only [look] at h
  by_cases hi:i=t
  ·rw [if_pos hi] at h ⊢
   simp only [ah] at h
   rw [h]
  ·rw [if_neg hi] at h ⊢
   rw [yF h]
def strip (t:Nat) (c:Bool):List a8->List a8
 | []=> []
 | o ::os=>(match o.guard with
   | none=>o
   | some (t',b)=>if t'=t then (if b=c then { o with guard:=none } else { dst:=o.dst,guard:=none,op:= .mv (.const (.tup [])) }) else o) ::
  (if o.dst=some t then os else strip t c os)
section
variable (ip:Nat->Option au) (G:Nat->ai)
def rD (o:Option AV) (d:aA) (k:List Item) (fr:Fr) (σ:ag) (Q:Fr->ag->Prop):Prop:=ob o fun v=>Ex ip G k (fr.put d v) σ Q
def Wk (o:Option (AV×ag)) (d:aA) (k:List Item) (fr:Fr) (Q:Fr->ag->Prop):Prop:=ob o fun x=>Ex ip G k (fr.put d x.1) x.2 Q
def ExG (v:AV) (t:Nat) (d:aA) (os0 os:List a8) (k:List Item) (fr:Fr) (σ:ag) (Q:Fr->ag->Prop):Prop:=
 obG v (fun c=>if c=true then Ex ip G (.ops (strip t true os0) ::k) (WL t (.bool true) fr) σ Q else Ex ip G (.ops (strip t false os0) ::k) (WL t (.bool false) fr) σ Q) (Ex ip G (.ops os ::k) (fr.put d (.tup [])) σ Q)
def ExC (v:AV) (a b:al) (k:List Item) (fr:Fr) (σ:ag) (Q:Fr->ag->Prop):Prop:=
 obB v fun c=>if c=true then Ex ip G (.code a ::k) fr σ Q else Ex ip G (.code b ::k) fr σ Q
def ExE (o:Option (List Item)) (fr:Fr) (σ:ag) (Q:Fr->ag->Prop):Prop:=ob o fun k=>Ex ip G k fr σ Q
variable {ip G} {fr:Fr} {σ:ag} {Q:Fr->ag->Prop} {k:List Item} {d:aA} {os:List a8}
theorem Uc {v:AV}:rD ip G (some v) d k fr σ Q↔Ex ip G k (fr.put d v) σ Q:=Iff.rfl
theorem Ud:rD ip G none d k fr σ Q↔False:=Iff.rfl
theorem Ue {v:AV} {σ':ag}:Wk ip G (some (v,σ')) d k fr Q↔Ex ip G k (fr.put d v) σ' Q:=Iff.rfl
theorem Uf:Wk ip G none d k fr Q↔False:=Iff.rfl
theorem Uh {c:Bool} {t:Nat} {os0:List a8}:ExG ip G (.bool c) t d os0 os k fr σ Q↔if c=true then Ex ip G (.ops (strip t true os0) ::k) (WL t (.bool true) fr) σ Q else Ex ip G (.ops (strip t false os0) ::k) (WL t (.bool false) fr) σ Q:=Iff.rfl
theorem Ug {t:Nat} {os0:List a8}:ExG ip G (.tup []) t d os0 os k fr σ Q↔Ex ip G (.ops os ::k) (fr.put d (.tup [])) σ Q:=Iff.rfl
theorem Uj {c:Bool} {a b:al}:ExC ip G (.bool c) a b k fr σ Q↔if c=true then Ex ip G (.code a ::k) fr σ Q else Ex ip G (.code b ::k) fr σ Q:=Iff.rfl
theorem Ui {k':List Item}:ExE ip G (some k') fr σ Q↔Ex ip G k' fr σ Q:=Iff.rfl
theorem y_exit {id:Nat}:Ex ip G (.code (.exit id) ::k) fr σ Q↔ExE ip G (exitTo id k) fr σ Q:=Zm
theorem y_cond {c:bB} {a b:al}:Ex ip G (.code (.cond c a b) ::k) fr σ Q↔ExC ip G (val G fr c) a b k fr σ Q:=Zn
theorem Bg {t:Nat} {c:Bool}: ∀(os:List a8) (n:Nat) (fr:Fr) (σ:ag),fr.get t= .bool c->run ip G n (.ops (strip t c os) ::k) fr σ=run ip G n (.ops os ::k) fr σ
 | [],n,fr,σ,h=>rfl
 | o ::os,0,fr,σ,h=>rfl
 | o ::os,n+1,fr,σ,h=>by
  have ih:=fun n fr σ h=>Bg (t:=t) (c:=c) os n fr σ h
  have put_ne: ∀(v:AV),o.dst≠some t->(fr.put o.dst v).get t= .bool c:=by
   intro v fV
   cases hd:o.dst with
   | none=>exact h
   | some d=>
    have:d≠t:=by rintro rfl; exact fV hd
    simp only [Fr.put,Fr.get,look,if_neg this]
    exact h
  have tail: ∀(m:Nat) (v:AV) (σ:ag),run ip G m (.ops (if o.dst=some t then os else strip t c os) ::k) (fr.put o.dst v) σ=run ip G m (.ops os ::k) (fr.put o.dst v) σ:=by
   intro m v σ
   by_cases hd:o.dst=some t
   ·rw [if_pos hd]
   ·rw [if_neg hd]; exact ih m _ σ (put_ne v hd)
  obtain ⟨d,g,op⟩:=o
  cases g with
  | none=>simp only [strip,run,wanted,tail]
  | some tb=>
   obtain ⟨t',b⟩:=tb
   simp only [strip]
   by_cases ht:t'=t
   ·subst ht
    rw [if_pos rfl]
    by_cases hb:b=c
    ·subst hb
     rw [if_pos rfl]
     simp only [run,wanted,h,tail,beq_self_eq_true]
    ·rw [if_neg hb]
     have:(c == b)=false:=by simp; exact fun h=>hb h.symm
     simp only [run,wanted,h,this,bH,aj,val,Option.map_some,tail]
   ·rw [if_neg ht]
    simp only [run,tail]
theorem Wm {t:Nat} {b:Bool} {o:cG}:Ex ip G (.ops (⟨d,some (t,b),o⟩ ::os) ::k) fr σ Q↔ExG ip G (fr.get t) t d (⟨d,some (t,b),o⟩ ::os) os k fr σ Q:=by
 cases hv:fr.get t with
 | bool c=>
  have hl:look fr t=some (.bool c):=by
   unfold Fr.get at hv
   cases hl:look fr t with
   | none=>simp [hl] at hv
   | some x=>simp [hl] at hv; rw [hv]
  have key:Ex ip G (.ops (strip t c (⟨d,some (t,b),o⟩ ::os)) ::k) fr σ Q↔Ex ip G (.ops (⟨d,some (t,b),o⟩ ::os) ::k) fr σ Q:=by
   unfold Ex
   simp only [Bg _ _ _ _ hv]
  rw [←key]
  cases c
  ·simp only [ExG,obG,bh,if_false,yF hl]
  ·simp only [ExG,obG,if_true,yF hl]
 | tup vs=>
  rw [Ho,hv]
  cases vs <;> rfl
 | _=>
  rw [Ho,hv]
  rfl
theorem y_call {m:uH} {f:bB} {xs:List bB}:Ex ip G (.ops (⟨d,none, .call m f xs⟩ ::os) ::k) fr σ Q↔Wk ip G (jc ip G m (val G fr f) (xs.map (val G fr)) σ) d (.ops os ::k) fr Q:=Zo
theorem y_no:Ex ip G (.ops (⟨d,none, .no⟩ ::os) ::k) fr σ Q↔False:=(dp rfl).trans Iff.rfl
theorem x_mv {x:bB}:Ex ip G (.ops (⟨d,none, .mv x⟩ ::os) ::k) fr σ Q↔Ex ip G (.ops os ::k) (fr.put d (val G fr x)) σ Q:=(dp rfl).trans Iff.rfl
theorem x_pick {c:bB} {a:bB} {b:bB}:Ex ip G (.ops (⟨d,none,(.pick c a b)⟩ ::os) ::k) fr σ Q↔rD ip G (aj G (.pick c a b) fr σ) d (.ops os ::k) fr σ Q:=by
 refine (dp rfl).trans ?_
 show ob ((aj G (.pick c a b) fr σ).map fun v=>(v,σ)) _↔ob _ _
 cases aj G (.pick c a b) fr σ <;> rfl
theorem Ws {z:ai} {ps:List (Nat×Nat×bB)}:Ex ip G (.ops (⟨d,none,(.build z ps)⟩ ::os) ::k) fr σ Q↔rD ip G (aj G (.build z ps) fr σ) d (.ops os ::k) fr σ Q:=by
 refine (dp rfl).trans ?_
 show ob ((aj G (.build z ps) fr σ).map fun v=>(v,σ)) _↔ob _ _
 cases aj G (.build z ps) fr σ <;> rfl
theorem QB {sz:Nat} {z:ai} {ps:List (Nat×bB)}:Ex ip G (.ops (⟨d,none,(.buildA sz z ps)⟩ ::os) ::k) fr σ Q↔rD ip G (aj G (.buildA sz z ps) fr σ) d (.ops os ::k) fr σ Q:=by
 refine (dp rfl).trans ?_
 show ob ((aj G (.buildA sz z ps) fr σ).map fun v=>(v,σ)) _↔ob _ _
 cases aj G (.buildA sz z ps) fr σ <;> rfl
theorem x_load {n:aA} {p:bB}:Ex ip G (.ops (⟨d,none,(.load n p)⟩ ::os) ::k) fr σ Q↔rD ip G (aj G (.load n p) fr σ) d (.ops os ::k) fr σ Q:=by
 refine (dp rfl).trans ?_
 show ob ((aj G (.load n p) fr σ).map fun v=>(v,σ)) _↔ob _ _
 cases aj G (.load n p) fr σ <;> rfl
theorem K3 {n:aA} {p:bB}:Ex ip G (.ops (⟨d,none,(.loadF n p)⟩ ::os) ::k) fr σ Q↔rD ip G (aj G (.loadF n p) fr σ) d (.ops os ::k) fr σ Q:=by
 refine (dp rfl).trans ?_
 show ob ((aj G (.loadF n p) fr σ).map fun v=>(v,σ)) _↔ob _ _
 cases aj G (.loadF n p) fr σ <;> rfl
theorem x_boxV {x:bB}:Ex ip G (.ops (⟨d,none,(.boxV x)⟩ ::os) ::k) fr σ Q↔rD ip G (aj G (.boxV x) fr σ) d (.ops os ::k) fr σ Q:=by
 refine (dp rfl).trans ?_
 show ob ((aj G (.boxV x) fr σ).map fun v=>(v,σ)) _↔ob _ _
 cases aj G (.boxV x) fr σ <;> rfl
theorem Wq {n:aA} {p:bB}:Ex ip G (.ops (⟨d,none,(.loadV n p)⟩ ::os) ::k) fr σ Q↔rD ip G (aj G (.loadV n p) fr σ) d (.ops os ::k) fr σ Q:=by
 refine (dp rfl).trans ?_
 show ob ((aj G (.loadV n p) fr σ).map fun v=>(v,σ)) _↔ob _ _
 cases aj G (.loadV n p) fr σ <;> rfl
theorem x_bin {op:BinOp} {x:bB} {y:bB}:Ex ip G (.ops (⟨d,none,(.bin op x y)⟩ ::os) ::k) fr σ Q↔rD ip G (aj G (.bin op x y) fr σ) d (.ops os ::k) fr σ Q:=by
 refine (dp rfl).trans ?_
 show ob ((aj G (.bin op x y) fr σ).map fun v=>(v,σ)) _↔ob _ _
 cases aj G (.bin op x y) fr σ <;> rfl
theorem x_eqb {ng:Bool} {x:bB} {y:bB}:Ex ip G (.ops (⟨d,none,(.eqb ng x y)⟩ ::os) ::k) fr σ Q↔rD ip G (aj G (.eqb ng x y) fr σ) d (.ops os ::k) fr σ Q:=by
 refine (dp rfl).trans ?_
 show ob ((aj G (.eqb ng x y) fr σ).map fun v=>(v,σ)) _↔ob _ _
 cases aj G (.eqb ng x y) fr σ <;> rfl
theorem x_eqn {nk:HV} {ng:Bool} {x:bB}:Ex ip G (.ops (⟨d,none,(.eqn nk ng x)⟩ ::os) ::k) fr σ Q↔rD ip G (aj G (.eqn nk ng x) fr σ) d (.ops os ::k) fr σ Q:=by
 refine (dp rfl).trans ?_
 show ob ((aj G (.eqn nk ng x) fr σ).map fun v=>(v,σ)) _↔ob _ _
 cases aj G (.eqn nk ng x) fr σ <;> rfl
theorem x_eqs {ks:List CK} {ng:Bool} {x:bB} {y:bB}:Ex ip G (.ops (⟨d,none,(.eqs ks ng x y)⟩ ::os) ::k) fr σ Q↔rD ip G (aj G (.eqs ks ng x y) fr σ) d (.ops os ::k) fr σ Q:=by
 refine (dp rfl).trans ?_
 show ob ((aj G (.eqs ks ng x y) fr σ).map fun v=>(v,σ)) _↔ob _ _
 cases aj G (.eqs ks ng x y) fr σ <;> rfl
theorem x_un {op:UnOp} {x:bB}:Ex ip G (.ops (⟨d,none,(.un op x)⟩ ::os) ::k) fr σ Q↔rD ip G (aj G (.un op x) fr σ) d (.ops os ::k) fr σ Q:=by
 refine (dp rfl).trans ?_
 show ob ((aj G (.un op x) fr σ).map fun v=>(v,σ)) _↔ob _ _
 cases aj G (.un op x) fr σ <;> rfl
theorem x_conv {cv:ConvK} {x:bB}:Ex ip G (.ops (⟨d,none,(.conv cv x)⟩ ::os) ::k) fr σ Q↔rD ip G (aj G (.conv cv x) fr σ) d (.ops os ::k) fr σ Q:=by
 refine (dp rfl).trans ?_
 show ob ((aj G (.conv cv x) fr σ).map fun v=>(v,σ)) _↔ob _ _
 cases aj G (.conv cv x) fr σ <;> rfl
theorem x_mkfn {f:Nat} {fs:List bB} {cs:List bB}:Ex ip G (.ops (⟨d,none,(.mkfn f fs cs)⟩ ::os) ::k) fr σ Q↔rD ip G (aj G (.mkfn f fs cs) fr σ) d (.ops os ::k) fr σ Q:=by
 refine (dp rfl).trans ?_
 show ob ((aj G (.mkfn f fs cs) fr σ).map fun v=>(v,σ)) _↔ob _ _
 cases aj G (.mkfn f fs cs) fr σ <;> rfl
theorem Wo {sz:Nat} {x:bB} {lo:Option bB} {hi:Option bB} {mx:Option bB}:Ex ip G (.ops (⟨d,none,(.slice sz x lo hi mx)⟩ ::os) ::k) fr σ Q↔rD ip G (aj G (.slice sz x lo hi mx) fr σ) d (.ops os ::k) fr σ Q:=by
 refine (dp rfl).trans ?_
 show ob ((aj G (.slice sz x lo hi mx) fr σ).map fun v=>(v,σ)) _↔ob _ _
 cases aj G (.slice sz x lo hi mx) fr σ <;> rfl
theorem Qy {x:bB} {lo:Option bB} {hi:Option bB}:Ex ip G (.ops (⟨d,none,(.sliceS x lo hi)⟩ ::os) ::k) fr σ Q↔rD ip G (aj G (.sliceS x lo hi) fr σ) d (.ops os ::k) fr σ Q:=by
 refine (dp rfl).trans ?_
 show ob ((aj G (.sliceS x lo hi) fr σ).map fun v=>(v,σ)) _↔ob _ _
 cases aj G (.sliceS x lo hi) fr σ <;> rfl
theorem Qz {n sz:Nat} {x:bB} {lo:Option bB} {hi:Option bB}:Ex ip G (.ops (⟨d,none,(.sliceA n sz x lo hi)⟩ ::os) ::k) fr σ Q↔rD ip G (aj G (.sliceA n sz x lo hi) fr σ) d (.ops os ::k) fr σ Q:=by
 refine (dp rfl).trans ?_
 show ob ((aj G (.sliceA n sz x lo hi) fr σ).map fun v=>(v,σ)) _↔ob _ _
 cases aj G (.sliceA n sz x lo hi) fr σ <;> rfl
theorem x_nilc {x:bB}:Ex ip G (.ops (⟨d,none,(.nilc x)⟩ ::os) ::k) fr σ Q↔rD ip G (aj G (.nilc x) fr σ) d (.ops os ::k) fr σ Q:=by
 refine (dp rfl).trans ?_
 show ob ((aj G (.nilc x) fr σ).map fun v=>(v,σ)) _↔ob _ _
 cases aj G (.nilc x) fr σ <;> rfl
theorem Wp {x:bB}:Ex ip G (.ops (⟨d,none,(.sdata x)⟩ ::os) ::k) fr σ Q↔rD ip G (aj G (.sdata x) fr σ) d (.ops os ::k) fr σ Q:=by
 refine (dp rfl).trans ?_
 show ob ((aj G (.sdata x) fr σ).map fun v=>(v,σ)) _↔ob _ _
 cases aj G (.sdata x) fr σ <;> rfl
theorem x_idxV {sz len:Nat} {n:aA} {x y:bB}:Ex ip G (.ops (⟨d,none,(.idxV sz len n x y)⟩ ::os) ::k) fr σ Q↔rD ip G (aj G (.idxV sz len n x y) fr σ) d (.ops os ::k) fr σ Q:=by
 refine (dp rfl).trans ?_
 show ob ((aj G (.idxV sz len n x y) fr σ).map fun v=>(v,σ)) _↔ob _ _
 cases aj G (.idxV sz len n x y) fr σ <;> rfl
theorem x_eqp {ng:Bool} {x y:bB}:Ex ip G (.ops (⟨d,none,(.eqp ng x y)⟩ ::os) ::k) fr σ Q↔rD ip G (aj G (.eqp ng x y) fr σ) d (.ops os ::k) fr σ Q:=by
 refine (dp rfl).trans ?_
 show ob ((aj G (.eqp ng x y) fr σ).map fun v=>(v,σ)) _↔ob _ _
 cases aj G (.eqp ng x y) fr σ <;> rfl
theorem x_eqa {m:Nat} {ng:Bool} {x y:bB}:Ex ip G (.ops (⟨d,none,(.eqa m ng x y)⟩ ::os) ::k) fr σ Q↔rD ip G (aj G (.eqa m ng x y) fr σ) d (.ops os ::k) fr σ Q:=by
 refine (dp rfl).trans ?_
 show ob ((aj G (.eqa m ng x y) fr σ).map fun v=>(v,σ)) _↔ob _ _
 cases aj G (.eqa m ng x y) fr σ <;> rfl
theorem x_arr {n:Nat} {x:bB}:Ex ip G (.ops (⟨d,none,(.arr n x)⟩ ::os) ::k) fr σ Q↔rD ip G (aj G (.arr n x) fr σ) d (.ops os ::k) fr σ Q:=by
 refine (dp rfl).trans ?_
 show ob ((aj G (.arr n x) fr σ).map fun v=>(v,σ)) _↔ob _ _
 cases aj G (.arr n x) fr σ <;> rfl
theorem QA {off:Nat} {x:bB}:Ex ip G (.ops (⟨d,none,(.fieldA off x)⟩ ::os) ::k) fr σ Q↔rD ip G (aj G (.fieldA off x) fr σ) d (.ops os ::k) fr σ Q:=by
 refine (dp rfl).trans ?_
 show ob ((aj G (.fieldA off x) fr σ).map fun v=>(v,σ)) _↔ob _ _
 cases aj G (.fieldA off x) fr σ <;> rfl
theorem Wr {off:Nat} {n:aA} {x:bB}:Ex ip G (.ops (⟨d,none,(.field off n x)⟩ ::os) ::k) fr σ Q↔rD ip G (aj G (.field off n x) fr σ) d (.ops os ::k) fr σ Q:=by
 refine (dp rfl).trans ?_
 show ob ((aj G (.field off n x) fr σ).map fun v=>(v,σ)) _↔ob _ _
 cases aj G (.field off n x) fr σ <;> rfl
theorem x_idxA {sz:Nat} {ar:aA} {x:bB} {i:bB}:Ex ip G (.ops (⟨d,none,(.idxA sz ar x i)⟩ ::os) ::k) fr σ Q↔rD ip G (aj G (.idxA sz ar x i) fr σ) d (.ops os ::k) fr σ Q:=by
 refine (dp rfl).trans ?_
 show ob ((aj G (.idxA sz ar x i) fr σ).map fun v=>(v,σ)) _↔ob _ _
 cases aj G (.idxA sz ar x i) fr σ <;> rfl
theorem x_idxS {x:bB} {i:bB}:Ex ip G (.ops (⟨d,none,(.idxS x i)⟩ ::os) ::k) fr σ Q↔rD ip G (aj G (.idxS x i) fr σ) d (.ops os ::k) fr σ Q:=by
 refine (dp rfl).trans ?_
 show ob ((aj G (.idxS x i) fr σ).map fun v=>(v,σ)) _↔ob _ _
 cases aj G (.idxS x i) fr σ <;> rfl
theorem NP {x:bB} {i:Nat}:Ex ip G (.ops (⟨d,none,(.extract x i)⟩ ::os) ::k) fr σ Q↔rD ip G (aj G (.extract x i) fr σ) d (.ops os ::k) fr σ Q:=by
 refine (dp rfl).trans ?_
 show ob ((aj G (.extract x i) fr σ).map fun v=>(v,σ)) _↔ob _ _
 cases aj G (.extract x i) fr σ <;> rfl
theorem x_len {st:Bool} {x:bB}:Ex ip G (.ops (⟨d,none,(.len st x)⟩ ::os) ::k) fr σ Q↔rD ip G (aj G (.len st x) fr σ) d (.ops os ::k) fr σ Q:=by
 refine (dp rfl).trans ?_
 show ob ((aj G (.len st x) fr σ).map fun v=>(v,σ)) _↔ob _ _
 cases aj G (.len st x) fr σ <;> rfl
theorem x_max2 {ng:Bool} {x:bB} {y:bB}:Ex ip G (.ops (⟨d,none,(.max2 ng x y)⟩ ::os) ::k) fr σ Q↔rD ip G (aj G (.max2 ng x y) fr σ) d (.ops os ::k) fr σ Q:=by
 refine (dp rfl).trans ?_
 show ob ((aj G (.max2 ng x y) fr σ).map fun v=>(v,σ)) _↔ob _ _
 cases aj G (.max2 ng x y) fr σ <;> rfl
theorem x_ext {ek:EN} {xs:List bB}:Ex ip G (.ops (⟨d,none,(.ext ek xs)⟩ ::os) ::k) fr σ Q↔rD ip G (aj G (.ext ek xs) fr σ) d (.ops os ::k) fr σ Q:=by
 refine (dp rfl).trans ?_
 show ob ((aj G (.ext ek xs) fr σ).map fun v=>(v,σ)) _↔ob _ _
 cases aj G (.ext ek xs) fr σ <;> rfl
theorem If {sz len:Nat} {z:ai} {ps:List (Nat×bB)}:Ex ip G (.ops (⟨d,none, .buildSl false sz len z ps⟩ ::os) ::k) fr σ Q↔rD ip G (aj G (.buildSl false sz len z ps) fr σ) d (.ops os ::k) fr σ Q:=by
 refine (dp rfl).trans ?_
 show ob ((aj G (.buildSl false sz len z ps) fr σ).map fun v=>(v,σ)) _↔ob _ _
 cases aj G (.buildSl false sz len z ps) fr σ <;> rfl
theorem x_box {x:bB}:Ex ip G (.ops (⟨d,none, .box x⟩ ::os) ::k) fr σ Q↔Wk ip G (bH ip G (fun _ _ _=>none) (.box x) fr σ) d (.ops os ::k) fr Q:=dp rfl
theorem x_new {z:ai}:Ex ip G (.ops (⟨d,none, .new z⟩ ::os) ::k) fr σ Q↔Wk ip G (bH ip G (fun _ _ _=>none) (.new z) fr σ) d (.ops os ::k) fr Q:=dp rfl
theorem Ig {sz len:Nat} {z:ai} {ps:List (Nat×bB)}:Ex ip G (.ops (⟨d,none, .buildSl true sz len z ps⟩ ::os) ::k) fr σ Q↔Wk ip G (bH ip G (fun _ _ _=>none) (.buildSl true sz len z ps) fr σ) d (.ops os ::k) fr Q:=dp rfl
theorem Qx {n:Nat} {p v:bB}:Ex ip G (.ops (⟨d,none, .storeS n p v⟩ ::os) ::k) fr σ Q↔Wk ip G (gp σ n (val G fr p) (val G fr v)) d (.ops os ::k) fr Q:=dp rfl
theorem Wn {n:Nat} {p v:bB}:Ex ip G (.ops (⟨d,none, .store n p v⟩ ::os) ::k) fr σ Q↔Wk ip G (bH ip G (fun _ _ _=>none) (.store n p v) fr σ) d (.ops os ::k) fr Q:=dp rfl
theorem x_prim {pk:Ar} {xs:List bB}:Ex ip G (.ops (⟨d,none, .prim pk xs⟩ ::os) ::k) fr σ Q↔Wk ip G (gv pk σ (xs.map (val G fr))) d (.ops os ::k) fr Q:=dp rfl
theorem QC {sz bs:Nat} {st:Bool} {x y:bB}:Ex ip G (.ops (⟨d,none, .append sz bs st x y⟩ ::os) ::k) fr σ Q↔Wk ip G (bH ip G (fun _ _ _=>none) (.append sz bs st x y) fr σ) d (.ops os ::k) fr Q:=dp rfl
end
end Go.Ab
namespace Go.Ab
section
variable {ip:Nat->Option au} {G:Nat->ai} {fr:Fr} {σ:ag}
def Sn (c a b:AV):Option AV:=match c with
 | .bool t=>some (if t=true then a else b)
 | _=>none
def boxOf (v:AV):Option AV:=if v.known=true then some (.vptr v.cells 0) else none
def Mk (n:aA) (p:AV):Option AV:=match p with
 | .vptr cs off=>df cs off n
 | _=>none
def eqbOf (neg:Bool) (x y:AV):Option AV:=match x,y with
 | .bool a, .bool b=>some (.bool (if neg then !(a == b) else a == b))
 | _,_=>none
def eqsOf (ks:List CK) (neg:Bool) (x y:AV):Option AV:=match x,y with
 | .agg a, .agg b=>if a.length=ks.length/\b.length=ks.length then (fj ks a b).map fun t=> .bool (if neg then !t else t) else none
 | _,_=>none
def intOf (k:IntKind) (x:AV):Option AV:=match x with
 | .int _ n=>some (.int k (k.wrap n))
 | .lit v=>zn k v
 | _=>none
def BX (x:AV):Option AV:=match x with
 | .int _ n=>some (.lit (.float .f64 (FloatKind.f64.nearest n)))
 | _=>none
def Rb (x:AV):Option AV:=match x with
 | .str s=>some (.str s)
 | _=>none
def Be (x:AV):Option AV:=match x with
 | .str s=>some (.vsl (af s) none)
 | _=>none
def fQ (r:Option (ai)):Option AV:=match r with
 | some cs=>(bytesOf cs).map .str
 | none=>none
def eZ (x:AV) (lo hi:Option (Option Int)):Option AV:=match x,lo,hi with
 | .str s,some l,some h=>match bounds s.length l h with
  | some (a,b)=>some (.str ((s.take b).drop a))
  | none=>none
 | _,_,_=>none
def slice3 (sz:Nat) (x:AV) (lo hi mx:Option (Option Int)):Option AV:=match lo,hi,mx with
 | some l,some h,some m=>dq sz x l h m
 | _,_,_=>none
def zU (off:Nat) (x:AV):Option AV:=match x with
 | .ptr b o=>some (.ptr b (o+off))
 | .vptr cs o=>some (.vptr cs (o+off))
 | _=>none
def MM (off:Nat) (n:aA) (x:AV):Option AV:=match x with
 | .agg cs=>df cs off n
 | _=>none
def et (x i:AV):Option AV:=match x,i with
 | .str s, .int _ i=>if 0<=i then match s[i.toNat]? with
   | some b=>some (.int .u8 b.toNat)
   | none=>none
  else none
 | _,_=>none
def B5 (x:AV) (i:Nat):Option AV:=match x with
 | .tup vs=>vs[i]?
 | _=>none
def lenS (x:AV):Option AV:=match x with
 | .str s=>some (.int .i64 s.length)
 | _=>none
def lenL (x:AV):Option AV:=match x with
 | .str _=>none
 | v=>match lenOf v with
  | some n=>some (.int .i64 n)
  | none=>none
def SH (neg:Bool) (x y:AV):Option AV:=match x,y with
 | .int k a, .int k' b=>if k=k' then some (.int k (if neg then (if b < a then b else a) else (if b > a then b else a))) else none
 | _,_=>none
theorem XK {c a b:bB}:aj G (.pick c a b) fr σ=Sn (val G fr c) (val G fr a) (val G fr b):=rfl
theorem Sm {z:ai} {ps:List (Nat×Nat×bB)}:aj G (.build z ps) fr σ=(iy z (ps.map fun (o,s,x)=>(o,s,val G fr x))).map .agg:=rfl
theorem OG {sz:Nat} {z:ai} {ps:List (Nat×bB)}:aj G (.buildA sz z ps) fr σ=(iy z (ps.map fun (i,x)=>(i*sz,sz,val G fr x))).map .agg:=rfl
theorem XP {n:aA} {p:bB}:aj G (.load n p) fr σ=fh σ (val G fr p) n:=rfl
theorem XW {x:bB}:aj G (.boxV x) fr σ=boxOf (val G fr x):=rfl
theorem FL {n:aA} {p:bB}:aj G (.loadF n p) fr σ=eE σ (val G fr p) n:=rfl
theorem BS {fr:Fr} {σ:ag}:kH fr [] σ=σ:=rfl
theorem zM {fr:Fr} {σ:ag} {t:Nat} {ts:List Nat}:kH fr (t ::ts) σ=kH fr ts (σ.freezeV (fr.get t)):=rfl
theorem TK {σ:ag} {b o:Nat}:σ.freezeV (.ptr b o)=σ.freeze1 b:=rfl
theorem MI {σ:ag} {b o l s:Nat} {c:aA}:σ.freezeV (.sl b o l s c)=σ.freeze1 b:=rfl
theorem Py {σ:ag}:σ.freezeV .nils=σ:=rfl
theorem W2 {σ:ag} {b o n:Nat}:eE σ (.ptr b o) (some (n+1))=match σ.get b with
  | some (.frz cs)=>df cs o (some (n+1))
  | _=>none:=rfl
theorem Rg {σ:ag} {b o:Nat}:eE σ (.ptr b o) none=match σ.get b with
  | some (.frz cs)=>df cs o none
  | _=>none:=rfl
theorem W1 {σ:ag} {els:ai} {c:aA}:eE σ (.vsl els c) (some 0)=some (.vsl els c):=rfl
theorem Rh {σ:ag}:eE σ .nils (some 0)=some .nils:=rfl
theorem TJ {σ:ag} {l:ai} {c:aA}:σ.freezeV (.vsl l c)=σ:=rfl
theorem frz1 {σ:ag} {b:Nat}:σ.freeze1 b=match σ.get b with
  | some (.own cs)=>σ.set b (.frz cs)
  | _=>σ:=rfl
theorem Sk {n:aA} {p:bB}:aj G (.loadV n p) fr σ=Mk n (val G fr p):=rfl
theorem po_bin {op:BinOp} {x y:bB}:aj G (.bin op x y) fr σ=bin op (val G fr x) (val G fr y):=rfl
theorem po_eqb {neg:Bool} {x y:bB}:aj G (.eqb neg x y) fr σ=eqbOf neg (val G fr x) (val G fr y):=rfl
theorem po_eqn {k:HV} {neg:Bool} {x:bB}:aj G (.eqn k neg x) fr σ=(iJ k (val G fr x)).map fun t=> .bool (if neg=true then !t else t):=rfl
theorem po_eqs {ks:List CK} {neg:Bool} {x y:bB}:aj G (.eqs ks neg x y) fr σ=eqsOf ks neg (val G fr x) (val G fr y):=rfl
theorem po_un {op:UnOp} {x:bB}:aj G (.un op x) fr σ=un op (val G fr x):=rfl
theorem po_int {k:IntKind} {x:bB}:aj G (.conv (.int k) x) fr σ=intOf k (val G fr x):=rfl
theorem po_flo {x:bB}:aj G (.conv .flo x) fr σ=BX (val G fr x):=rfl
theorem XJ {x:bB}:aj G (.conv .same x) fr σ=Rb (val G fr x):=rfl
theorem IX {x:bB}:aj G (.conv .toBytes x) fr σ=Be (val G fr x):=rfl
theorem IY {x:bB}:aj G (.conv .ofBytes x) fr σ=fQ (rowOf σ 1 (val G fr x)):=rfl
theorem XM {f:Nat} {a c:List bB}:aj G (.mkfn f a c) fr σ=some (.fn f (a.map (val G fr)) (c.map (val G fr))):=rfl
theorem Si {sz:Nat} {x:bB} {lo hi mx:Option bB}:aj G (.slice sz x lo hi mx) fr σ=slice3 sz (val G fr x) (gw (lo.map (val G fr))) (gw (hi.map (val G fr))) (gw (mx.map (val G fr))):=rfl
theorem OD {x:bB} {lo hi:Option bB}:aj G (.sliceS x lo hi) fr σ=eZ (val G fr x) (gw (lo.map (val G fr))) (gw (hi.map (val G fr))):=rfl
def Lx (σ:ag) (n sz:Nat) (x:AV) (lo hi:Option (Option Int)):Option AV:=match lo,hi with
 | some l,some h=>eQ σ n sz x l h
 | _,_=>none
theorem OE {n sz:Nat} {x:bB} {lo hi:Option bB}:aj G (.sliceA n sz x lo hi) fr σ=Lx σ n sz (val G fr x) (gw (lo.map (val G fr))) (gw (hi.map (val G fr))):=rfl
theorem po_eqp {ng:Bool} {x y:bB}:aj G (.eqp ng x y) fr σ=B7 σ ng (val G fr x) (val G fr y):=rfl
theorem po_eqa {m:Nat} {ng:Bool} {x y:bB}:aj G (.eqa m ng x y) fr σ=r9 m ng (val G fr x) (val G fr y):=rfl
theorem XL {x:bB}:aj G (.nilc x) fr σ=cy (val G fr x):=rfl
theorem Sj {x:bB}:aj G (.sdata x) fr σ=s9 (val G fr x):=rfl
theorem XS {sz len:Nat} {n:aA} {x y:bB}:aj G (.idxV sz len n x y) fr σ=zx sz len n (val G fr x) (val G fr y):=rfl
theorem po_arr {n:Nat} {x:bB}:aj G (.arr n x) fr σ=HO n (val G fr x):=rfl
theorem OF {off:Nat} {x:bB}:aj G (.fieldA off x) fr σ=zU off (val G fr x):=rfl
theorem Sl {off:Nat} {n:aA} {x:bB}:aj G (.field off n x) fr σ=MM off n (val G fr x):=rfl
theorem XU {sz:Nat} {ar:aA} {x i:bB}:aj G (.idxA sz ar x i) fr σ=idxOf sz ar (val G fr x) (val G fr i):=rfl
theorem XT {x i:bB}:aj G (.idxS x i) fr σ=et (val G fr x) (val G fr i):=rfl
theorem IZ {x:bB} {i:Nat}:aj G (.extract x i) fr σ=B5 (val G fr x) i:=rfl
theorem XQ {x:bB}:aj G (.len true x) fr σ=lenS (val G fr x):=by
 show (match val G fr x with | .str s=>if true=true then some (AV.int .i64 s.length) else none | v=>if true=true then none else _)=_
 cases val G fr x <;> rfl
theorem XR {x:bB}:aj G (.len false x) fr σ=lenL (val G fr x):=by
 show (match val G fr x with | .str s=>if false=true then some (AV.int .i64 s.length) else none | v=>if false=true then none else _)=_
 cases val G fr x <;> rfl
theorem XO {neg:Bool} {x y:bB}:aj G (.max2 neg x y) fr σ=SH neg (val G fr x) (val G fr y):=rfl
theorem po_ext {k:EN} {xs:List bB}:aj G (.ext k xs) fr σ=dm k (xs.map (val G fr)):=rfl
theorem F5 (l:ai) (c:aA):lenL (.vsl l c)=some (.int .i64 l.length):=rfl
def MW (sz len zlen:Nat) (cs:Option (ai)):Option AV:=match cs with
 | some cs=>if zlen=sz/\cs.all AV.notAgg=true then some (.vsl (chunks sz len cs) (some len)) else none
 | none=>none
theorem XV {sz:Nat} {z:ai}:aj G (.buildSl false sz 0 z []) fr σ=some (.vsl [] (some 0)):=rfl
theorem po_bsl {sz len:Nat} {z:ai} {ps:List (Nat×bB)}:aj G (.buildSl false sz (len+1) z ps) fr σ=MW sz (len+1) z.length (iy ((List.range (len+1)).flatMap fun _=>z) (ps.map fun (i,x)=>(i*sz,sz,val G fr x))):=by
 simp only [aj,MW]
 rw [if_neg aa]
 generalize iy _ _=y
 cases y <;> rfl
theorem O3:lenL .nils=some (.int .i64 0):=rfl
theorem YF:lenL .e0=some (.int .i64 0):=rfl
theorem YE (b off n sz:Nat) (c:aA):lenL (.sl b off n sz c)=some (.int .i64 n):=rfl
theorem HD:(AV.undef).cells= [(AV.undef)]:=rfl
theorem F6:(AV.undef).known=false:=rfl
theorem OR:(AV.undef).one=false:=rfl
theorem CX:(AV.undef).notAgg=true:=rfl
theorem J3 {b:Bool}:(AV.bool b).cells= [(AV.bool b)]:=rfl
theorem Js {b:Bool}:(AV.bool b).known=true:=rfl
theorem Sz {b:Bool}:(AV.bool b).one=true:=rfl
theorem FT {b:Bool}:(AV.bool b).notAgg=true:=rfl
theorem PT {k:IntKind} {n:Int}:(AV.int k n).cells= [(AV.int k n)]:=rfl
theorem O9 {k:IntKind} {n:Int}:(AV.int k n).known=true:=rfl
theorem Yh {k:IntKind} {n:Int}:(AV.int k n).one=true:=rfl
theorem Jb {k:IntKind} {n:Int}:(AV.int k n).notAgg=true:=rfl
theorem PO {s:aw}:(AV.str s).cells= [(AV.str s)]:=rfl
theorem O6 {s:aw}:(AV.str s).known=true:=rfl
theorem Ye {s:aw}:(AV.str s).one=true:=rfl
theorem I8 {s:aw}:(AV.str s).notAgg=true:=rfl
theorem PS {v:Value}:(AV.lit v).cells= [(AV.lit v)]:=rfl
theorem O8 {v:Value}:(AV.lit v).known=true:=rfl
theorem Yg {v:Value}:(AV.lit v).one=true:=rfl
theorem Ja {v:Value}:(AV.lit v).notAgg=true:=rfl
theorem UK {f:Nat} {a:ai} {c:ai}:(AV.fn f a c).cells= [(AV.fn f a c)]:=rfl
theorem SX {f:Nat} {a:ai} {c:ai}:(AV.fn f a c).known=true:=rfl
theorem one_fn {f:Nat} {a:ai} {c:ai}:(AV.fn f a c).one=true:=rfl
theorem OW {f:Nat} {a:ai} {c:ai}:(AV.fn f a c).notAgg=true:=rfl
theorem PQ {b:Nat} {o:Nat}:(AV.ptr b o).cells= [(AV.ptr b o)]:=rfl
theorem O7 {b:Nat} {o:Nat}:(AV.ptr b o).known=true:=rfl
theorem Yf {b:Nat} {o:Nat}:(AV.ptr b o).one=true:=rfl
theorem I9 {b:Nat} {o:Nat}:(AV.ptr b o).notAgg=true:=rfl
theorem J0 {cs:ai} {o:Nat}:(AV.vptr cs o).cells= [(AV.vptr cs o)]:=rfl
theorem Jq {cs:ai} {o:Nat}:(AV.vptr cs o).known=true:=rfl
theorem Sx {cs:ai} {o:Nat}:(AV.vptr cs o).one=true:=rfl
theorem FQ {cs:ai} {o:Nat}:(AV.vptr cs o).notAgg=true:=rfl
theorem UJ {b:Nat} {o:Nat} {n:Nat} {z:Nat} {c:aA}:(AV.sl b o n z c).cells= [(AV.sl b o n z c)]:=rfl
theorem SW {b:Nat} {o:Nat} {n:Nat} {z:Nat} {c:aA}:(AV.sl b o n z c).known=true:=rfl
theorem one_sl {b:Nat} {o:Nat} {n:Nat} {z:Nat} {c:aA}:(AV.sl b o n z c).one=true:=rfl
theorem OV {b:Nat} {o:Nat} {n:Nat} {z:Nat} {c:aA}:(AV.sl b o n z c).notAgg=true:=rfl
theorem PM {l:ai} {c:aA}:(AV.vsl l c).cells= [(AV.vsl l c)]:=rfl
theorem O4 {l:ai} {c:aA}:(AV.vsl l c).known=true:=rfl
theorem Yc {l:ai} {c:aA}:(AV.vsl l c).one=true:=rfl
theorem I6 {l:ai} {c:aA}:(AV.vsl l c).notAgg=true:=rfl
theorem J1:(AV.nils).cells= [(AV.nils)]:=rfl
theorem Jr:(AV.nils).known=true:=rfl
theorem Sy:(AV.nils).one=true:=rfl
theorem FR:(AV.nils).notAgg=true:=rfl
theorem UL:(AV.e0).cells= [(AV.e0)]:=rfl
theorem SY:(AV.e0).known=true:=rfl
theorem one_e0:(AV.e0).one=true:=rfl
theorem OX:(AV.e0).notAgg=true:=rfl
theorem PN {vs:ai}:(AV.tup vs).cells= [(AV.tup vs)]:=rfl
theorem O5 {vs:ai}:(AV.tup vs).known=true:=rfl
theorem Yd {vs:ai}:(AV.tup vs).one=false:=rfl
theorem I7 {vs:ai}:(AV.tup vs).notAgg=true:=rfl
theorem PU {cs:ai}:(AV.agg cs).cells=cs:=rfl
theorem Pa {cs:ai}:(AV.agg cs).known=true:=rfl
theorem Yi {cs:ai}:(AV.agg cs).one=false:=rfl
theorem Jc {cs:ai}:(AV.agg cs).notAgg=false:=rfl
theorem Fm {cs:ai} {off:Nat}:df cs off none=cs[off]? :=rfl
theorem ae {cs:ai} {off n:Nat}:df cs off (some n)=if off+n<=cs.length then some (.agg ((cs.drop off).take n)) else none:=rfl
theorem SN {α:Type} (l:List α):((l.length:Int) == 0)=l.isEmpty:=by cases l <;> simp <;> omega
theorem Yn {α:Type} (a b:α) (l:List α):(a ::b ::l)[1]? =some b:=rfl
theorem Kj (k:IntKind):(k=k)=True:=eq_self k
theorem Rq {σ:ag} {v:AV} (h:v.closed=true):rbE σ v=some v.er:=by unfold rbE; rw [ck h]; rfl
theorem Rr {σ:ag} {b:Bool}:rbE σ (.bool b)=some (.bool b):=rfl
theorem Xa {σ:ag} {k:IntKind} {n:Int}:rbE σ (.int k n)=some (.int k n):=rfl
theorem W8 {σ:ag} {s:aw}:rbE σ (.str s)=some (.str s):=rfl
theorem Zp {b:Bool}:(AV.bool b).er= .bool b:=by simp only [AV.er]
theorem kV {k:IntKind} {n:Int}:(AV.int k n).er= .int k n:=by simp only [AV.er]
theorem zW {s:aw}:(AV.str s).er= .str s:=by simp only [AV.er]
theorem Dm:AV.nils.er= .vsl [] none:=by simp only [AV.er]
theorem er_e0:AV.e0.er= .vsl [] none:=by simp only [AV.er]
theorem JT {cs:ai}:(AV.agg cs).er= .agg (eP cs):=by simp only [AV.er]
theorem er_tup {cs:ai}:(AV.tup cs).er= .tup (eP cs):=by simp only [AV.er]
theorem fW {cs:ai} {c:aA}:(AV.vsl cs c).er= .vsl (eP cs) none:=by simp only [AV.er]
theorem uc {cs:ai} {o:Nat}:(AV.vptr cs o).er= .vptr (eP cs) o:=by simp only [AV.er]
theorem Hs {f:Nat} {a c:ai}:(AV.fn f a c).er= .fn f (eP a) (eP c):=by simp only [AV.er]
theorem Un {v:Value}:(AV.lit v).er= .lit v:=by simp only [AV.er]
theorem Um:AV.undef.er= .undef:=by simp only [AV.er]
theorem dt:eP []= []:=by simp only [eP]
theorem cg {v:AV} {l:ai}:eP (v ::l)=v.er ::eP l:=by simp only [eP]
theorem UO {st:Bool} {f:AV} {args:ai} {σ:ag} (h1:f.closed=true) (h:ay args=true) :
  gf ip G st f args σ=(dx ip G f.er (eP args)).map fun r=>(r,σ):=lz h1 h
end
end Go.Ab
namespace Go.Ab
section
variable {ip:Nat->Option au} {G:Nat->ai}
theorem gT {S:Type} (F:S->Fr) (st:S->ag) (m:S->Nat) (ok:S->Prop) {L:List Nat} {body:al} {k:List Item} {Q:Fr->ag->Prop}
  (step: ∀(b:al) (s:S),ok s->(∀(s':S) (fr':Fr) (σ':ag),m s' < m s->ok s'->keep L fr'=F s'->σ'=st s'->Ex ip G (.inLoop L b ::k) fr' σ' Q)->Ex ip G (.code body :: .inLoop L b ::k) (F s) (st s) Q) :
  ∀s,ok s->Ex ip G (.code body :: .inLoop L body ::k) (F s) (st s) Q:=by
 suffices h: ∀n s,m s < n->ok s->Ex ip G (.code body :: .inLoop L body ::k) (F s) (st s) Q from fun s=>h (m s+1) s (aV _)
 intro n
 induction n with
 | zero=>intro s h; omega
 | succ n ih=>
  intro s hs Gh
  refine step body s Gh fun s' fr' σ' h1 hok' h2 h3=> ?_
  rw [aN,h2,h3]
  exact ih s' aa hok'
theorem aP {S:Type} (F:S->Fr) (m:S->Nat) (I:S->ag->Prop) {L:List Nat} {body:al} {k:List Item} {Q:Fr->ag->Prop}
  (step: ∀(b:al) (s:S) (σ:ag),I s σ->(∀(s':S) (fr':Fr) (σ':ag),m s' < m s->I s' σ'->keep L fr'=F s'->Ex ip G (.inLoop L b ::k) fr' σ' Q)->Ex ip G (.code body :: .inLoop L b ::k) (F s) σ Q) :
  ∀s σ,I s σ->Ex ip G (.code body :: .inLoop L body ::k) (F s) σ Q:=by
 suffices h: ∀n s σ,m s < n->I s σ->Ex ip G (.code body :: .inLoop L body ::k) (F s) σ Q from fun s σ=>h (m s+1) s σ (aV _)
 intro n
 induction n with
 | zero=>intro s σ h; omega
 | succ n ih=>
  intro s σ hs Gh
  refine step body s σ Gh fun s' fr' σ' h1 hok' h2=> ?_
  rw [aN,h2]
  exact ih s' σ' aa hok'
theorem mS {sz:Nat} {els:ai} {c:aA} {j:Nat} {e:AV} (h:els[j]? =some e) (hs:e.cells.length=sz):idxOf sz none (.vsl els c) (.int .i64 (j:Int))=some (.vptr e.cells 0):=by
 simp [idxOf,h,hs]
theorem NQ {j n:Nat} (h:j < n) (hn:n < 9223372036854775808):IntKind.wrap .i64 ((j:Int)+1)=((j+1:Nat):Int):=by
 have h1:(0:Int)<=(j:Int)+1:=by omega
 have h2:(j:Int)+1 < 9223372036854775808:=by omega
 simp [IntKind.wrap,IntKind.bits,IntKind.signed]
 omega
end
end Go.Ab
namespace Go.Ab
set_option maxRecDepth 100000
def EX0:=J @ex_seq (J @PC (J @Zl (J @JP (J @Wm (J @ex_ret (J @ex_nil (J @Zk (J @Ua (J @JQ (J @y_exit (J @y_cond (J @y_call (J @y_no (J @Uc (J @Ud (J @Ue (J @Uf (J @Uh (J @Ug (J @strip.eq_1 (J @strip.eq_2 (J @WL.eq_1 (J @WL.eq_2 (J @Uj (J @Ui (J @x_mv (J @x_pick (J @Ws (J @QB (J @x_load (J @x_boxV (J @Wq (J @x_bin (J @x_eqb (J @x_eqn (J @x_eqs (J @x_un (J @x_conv (J @x_mkfn (J @Wo (J @Qy (J @QA (J @Wr (J @x_idxA (J @x_idxS (J @NP (J @x_len (J @x_max2 (J @x_ext (J @x_box (J @x_new (J @Ig (J @Wn (J @QC (J @If (J @XK (J @Sm (J @OG (@XV)))))))))))))))))))))))))))))))))))))))))))))))))))))))))))
def EX1:=J @po_bsl (J @MW.eq_1 (J @MW.eq_2 (J @chunks.eq_1 (J @chunks.eq_2 (J @List.flatMap_cons.{0,0} (J @List.flatMap_nil.{0,0} (J @List.headD_cons.{0} (J @XP (J @XW (J @Sk (J @po_bin (J @po_eqb (J @po_eqn (J @po_eqs (J @po_un (J @po_int (J @XJ (J @IX (J @IY (J @XM (J @Si (J @OD (J @OF (J @Sl (J @XU (J @XT (J @IZ (J @XQ (J @XR (J @XO (J @po_ext (J @Sn.eq_1 (J @boxOf.eq_1 (J @Mk.eq_1 (J @eqbOf.eq_1 (J @eqsOf.eq_1 (J @intOf.eq_1 (J @Rb.eq_1 (J @Be.eq_1 (J @fQ.eq_1 (J @fQ.eq_2 (J @eZ.eq_1 (J @slice3.eq_1 (J @zU.eq_1 (J @zU.eq_2 (J @MM.eq_1 (J @et.eq_1 (J @B5.eq_1 (J @lenS.eq_1 (J @SH.eq_1 (J @F5 (J @YF (J @O3 (J @YE (J @dm.eq_1 (J @fj.eq_1 (J @fj.eq_2 (J @fj.eq_3 (@fj.eq_4)))))))))))))))))))))))))))))))))))))))))))))))))))))))))))
def EX2:=J @bH.eq_1 (J @bH.eq_2 (J @bH.eq_3 (J @bH.eq_4 (J @bH.eq_5 (J @bH.eq_6 (J @bH.eq_7 (J @bH.eq_8 (J @bH.eq_9 (J @val.eq_1 (J @val.eq_2 (J @val.eq_3 (J @val.eq_4 (J @Fr.get.eq_1 (J @look.eq_1 (J @look.eq_2 (J @Fr.put.eq_1 (J @Fr.put.eq_2 (J @keep.eq_1 (J @exitTo.eq_1 (J @exitTo.eq_2 (J @exitTo.eq_3 (J @Option.map_some.{0,0} (J @Option.map_none.{0,0} (J @Option.bind_some.{0,0} (J @List.map_cons.{0,0} (J @List.map_nil.{0,0} (J @Option.getD_some.{0} (J @Option.getD_none.{0} (J @Fm (J @fh.eq_1 (J @fh.eq_2 (J @List.getElem?_cons_zero.{0} (J @List.getElem?_cons_succ.{0} (J @Yn (J @List.length_cons.{0} (J @List.length_nil.{0} (J @List.nil_append.{0} (J @List.append_nil.{0} (J @List.cons_append.{0} (J @fK.eq_1 (J @List.range_succ (J @List.range_zero (J @List.zip_cons_cons.{0,0} (J @List.zip_nil_right.{0,0} (J @Nat.zero_add (J @List.take_succ_cons.{0} (J @List.take_zero.{0} (J @List.drop_succ_cons.{0} (J @List.drop_zero.{0} (J @bin.eq_1 (J @bin.eq_2 (J @fX.eq_1 (J @fX.eq_2 (J @fX.eq_3 (J @fX.eq_4 (J @fX.eq_5 (J @fX.eq_6 (J @fX.eq_7 (@fX.eq_8)))))))))))))))))))))))))))))))))))))))))))))))))))))))))))
def EX3:=J @fX.eq_9 (J @fX.eq_10 (J @fX.eq_11 (J @fX.eq_12 (J @fX.eq_13 (J @fX.eq_14 (J @fX.eq_15 (J @pd.eq_1 (J @pd.eq_2 (J @pd.eq_3 (J @pd.eq_4 (J @pd.eq_5 (J @pd.eq_6 (J @pd.eq_7 (J @qR.eq_1 (J @qR.eq_2 (J @qR.eq_3 (J @decide_true (J @decide_false (J @Bool.not_eq_true (J @bh (J @Bool.true_eq_false (J @un.eq_1 (J @un.eq_2 (J @un.eq_3 (J @iO.eq_1 (J @ph.eq_1 (J @ph.eq_2 (J @ph.eq_3 (J @Kj (J @iy.eq_1 (J @iy.eq_2 (J @splice.eq_1 (J @Option.some.injEq.{0} (J @Bool.not_true (J @Bool.not_false (J @iJ.eq_1 (J @iJ.eq_2 (J @iJ.eq_3 (J @iJ.eq_4 (J @iJ.eq_5 (J @iJ.eq_6 (J @iJ.eq_7 (J @iJ.eq_8 (J @iJ.eq_9 (J @iJ.eq_10 (J @iJ.eq_11 (J @iJ.eq_12 (J @iJ.eq_13 (J @iJ.eq_14 (J @gw.eq_1 (J @gw.eq_2 (J @or_self (J @not_true_eq_false (J @not_false_eq_true (J @gt_iff_lt.{0} (J @or_false (J @false_or (J @Nat.not_lt (@jc.eq_1)))))))))))))))))))))))))))))))))))))))))))))))))))))))))))
def EX4:=J @jc.eq_2 (J @jc.eq_3 (J @UO (J @AV.closed.eq_1 (J @AV.closed.eq_2 (J @AV.closed.eq_3 (J @AV.closed.eq_4 (J @AV.closed.eq_5 (J @AV.closed.eq_6 (J @AV.closed.eq_7 (J @AV.closed.eq_8 (J @AV.closed.eq_9 (J @AV.closed.eq_10 (J @AV.closed.eq_11 (J @AV.closed.eq_12 (J @AV.closed.eq_13 (J @AV.closed.eq_14 (J @ay.eq_1 (J @ay.eq_2 (J @aW (J @Bool.and_true (J @Bool.true_and (J @true_implies (J @false_implies (J @imp_self (J @and_true (J @true_and (J @ag.alloc.eq_1 (J @ag.cells.eq_1 (J @ag.get.eq_1 (J @ag.set.eq_1 (J @ag.owned.eq_1 (J @ag.empty.eq_1 (J @List.all_cons.{0} (J @List.all_nil.{0} (J @aD (J @Nat.add_zero (J @HD (J @F6 (J @OR (J @CX (J @J3 (J @Js (J @Sz (J @FT (J @PT (J @O9 (J @Yh (J @Jb (J @PO (J @O6 (J @Ye (J @I8 (J @PS (J @O8 (J @Yg (J @Ja (J @UK (J @SX (@one_fn)))))))))))))))))))))))))))))))))))))))))))))))))))))))))))
def EX5:=J @OW (J @PQ (J @O7 (J @Yf (J @I9 (J @J0 (J @Jq (J @Sx (J @FQ (J @UJ (J @SW (J @one_sl (J @OV (J @PM (J @O4 (J @Yc (J @I6 (J @J1 (J @Jr (J @Sy (J @FR (J @UL (J @SY (J @one_e0 (J @OX (J @PN (J @O5 (J @Yd (J @I7 (J @PU (J @Pa (J @Yi (J @Jc (J @SN (J @Rq (J @Rr (J @Xa (J @W8 (J @ak (J @and_self (J @Zp (J @kV (J @zW (J @Dm (J @er_e0 (J @JT (J @er_tup (J @fW (J @uc (J @Hs (J @Un (J @Um (J @dt (@cg)))))))))))))))))))))))))))))))))))))))))))))))))))))
def EXF:=J @T9 (J @K3 (J @FL (J @BS (J @zM (J @TK (J @MI (J @Py (J @W2 (J @Rg (J @W1 (J @Rh (J @TJ (@frz1)))))))))))))
theorem IT {sz bytes:Nat} {σ:ag} {x y:AV} {i:Int}:gv (.insert sz bytes) σ [x, .int .i64 i,y]=jJ σ sz bytes x i y:=rfl
theorem OB {sz bytes:Nat} {z:ai} {σ:ag} {n:Int}:gv (.makeSl sz bytes z) σ [.int .i64 n]=jG σ sz bytes z n:=rfl
theorem IW {sz:Nat} {z:ai} {σ:ag} {x:AV}:gv (.clear sz z) σ [x]=o8 σ sz z x:=rfl
theorem FJ {e:Nat} {σ:ag} {x:AV}:gv (.boxT e) σ [x]=if x.known=true then some (.ptr σ.next 0,(σ.alloc x.cells).addTag σ.next e) else none:=rfl
theorem FK {e sz bytes:Nat} {σ:ag} {x:AV} {s:aw}:gv (.appT e sz bytes true) σ [x, .str s]=if sz=1 then jO σ e sz bytes x (af s) s.length else none:=rfl
theorem FI {σ:ag} {n:Int}:gv .mkNZ σ [.int .i64 n]=sC σ n:=rfl
theorem IU {e n:Nat} {σ:ag} {x:AV}:gv (.cvp e n) σ [x]=Ac σ e n x:=rfl
theorem FH {e:Nat} {σ:ag} {x:AV} {n:Int}:gv (.ustr e) σ [x, .int .i64 n]=sf σ e x n:=rfl
theorem IV {sz:Nat} {σ:ag} {x y:AV}:gv (.copy sz) σ [x,y]=js σ sz x y:=rfl
def EXP:=J @x_prim (J @IT (J @OB (J @IV (J @IW (J @FJ (J @FK (J @FI (J @IU (J @Qx (J @x_eqa (J @po_eqa (J @x_eqp (J @po_eqp (J @FH (J @x_nilc (J @x_idxV (J @Wp (J @XL (J @XS (J @Sj (J @cy.eq_1 (J @cy.eq_2 (J @Qz (J @x_arr (J @OE (J @po_arr (J @po_flo (J @Lx.eq_1 (J @HO.eq_1 @HO.eq_2)))))))))))))))))))))))))))))
def az:=J EXP (J EX0 (J EX1 (J EX2 (J EX3 (J EX4 (J EX5 (J @if_true.{1} (J @if_true.{0} (J @if_false.{1} (J @if_false.{0} (J @implies_true.{0} (J @implies_true.{1} (J @forall_const.{0} (J @forall_const.{1} (@ne_eq.{1})))))))))))))))
abbrev Bs:=aw
inductive V | mk (kind n:Int) (s:Bs) (l:List V) (m:List (Bs×V))
abbrev Mem:=Bs×V
def V.kind:V->Int | .mk k _ _ _ _=>k
def V.n:V->Int | .mk _ n _ _ _=>n
def V.s:V->Bs | .mk _ _ s _ _=>s
def V.l:V->List V | .mk _ _ _ l _=>l
def V.m:V->List Mem | .mk _ _ _ _ m=>m
mutual
def V.enc:V->AV
 | .mk k n s l m=> .agg [.int .i64 k, .int .i64 n, .str s, .vsl (wY l) none, .vsl (wX m) none]
def wY:List V->ai
 | []=> []
 | v ::r=>v.enc ::wY r
def wX:List (Bs×V)->ai
 | []=> []
 | (k,v) ::r=> .agg (.str k ::v.enc.cells) ::wX r
end
def bp (x:Mem):AV:= .agg (.str x.1 ::x.2.enc.cells)
theorem uf: ∀l:List V,wY l=l.map V.enc
 | []=>by simp [wY]
 | v ::r=>by simp [wY,uf r]
theorem ue: ∀l:List Mem,wX l=l.map bp
 | []=>by simp [wX]
 | (k,v) ::r=>by simp [wX,ue r,bp]
theorem V.enc_eq (v:V):v.enc= .agg [.int .i64 v.kind, .int .i64 v.n, .str v.s, .vsl (v.l.map V.enc) none, .vsl (v.m.map bp) none]:=by
 cases v; rw [V.enc,uf,ue]; rfl
theorem V.enc_cells (v:V):v.enc.cells= [.int .i64 v.kind, .int .i64 v.n, .str v.s, .vsl (v.l.map V.enc) none, .vsl (v.m.map bp) none]:=by rw [V.enc_eq]; rfl
theorem bq (x:Mem):(bp x).cells= [.str x.1, .int .i64 x.2.kind, .int .i64 x.2.n, .str x.2.s, .vsl (x.2.l.map V.enc) none, .vsl (x.2.m.map bp) none]:=by
 rw [bp,V.enc_cells]; rfl
theorem V.eta (v:V):V.mk v.kind v.n v.s v.l v.m=v:=by cases v; rfl
theorem V.fold (k n:Int) (s:Bs) (l:List V) (m:List Mem):AV.agg [.int .i64 k, .int .i64 n, .str s, .vsl (l.map V.enc) none, .vsl (m.map bp) none]=(V.mk k n s l m).enc:=by rw [V.enc_eq]; rfl
theorem V.fold1 (k n:Int) (s:Bs) (m:List Mem):AV.agg [.int .i64 k, .int .i64 n, .str s, .vsl [] none, .vsl (m.map bp) none]=(V.mk k n s [] m).enc:=V.fold k n s [] m
theorem V.fold2 (k n:Int) (s:Bs) (l:List V):AV.agg [.int .i64 k, .int .i64 n, .str s, .vsl (l.map V.enc) none, .vsl [] none]=(V.mk k n s l []).enc:=V.fold k n s l []
theorem V.fold3 (k n:Int) (s:Bs):AV.agg [.int .i64 k, .int .i64 n, .str s, .vsl [] none, .vsl [] none]=(V.mk k n s [] []).enc:=V.fold k n s [] []
theorem qO (key:Bs) (k n:Int) (s:Bs) (l:List V) (m:List Mem):AV.agg [.str key, .int .i64 k, .int .i64 n, .str s, .vsl (l.map V.enc) none, .vsl (m.map bp) none]=bp (key,V.mk k n s l m):=by
 rw [bp,V.enc_cells]; rfl
theorem Jn (key:Bs) (k n:Int) (s:Bs) (m:List Mem):AV.agg [.str key, .int .i64 k, .int .i64 n, .str s, .vsl [] none, .vsl (m.map bp) none]=bp (key,V.mk k n s [] m):=qO key k n s [] m
theorem Jm (key:Bs) (k n:Int) (s:Bs) (l:List V):AV.agg [.str key, .int .i64 k, .int .i64 n, .str s, .vsl (l.map V.enc) none, .vsl [] none]=bp (key,V.mk k n s l []):=qO key k n s l []
theorem Jl (key:Bs) (k n:Int) (s:Bs):AV.agg [.str key, .int .i64 k, .int .i64 n, .str s, .vsl [] none, .vsl [] none]=bp (key,V.mk k n s [] []):=qO key k n s [] []
theorem Mem.eta (x:Mem):((x.1,x.2):Mem)=x:=rfl
theorem V.kind_mk (k n:Int) (s:Bs) (l:List V) (m:List Mem):(V.mk k n s l m).kind=k:=rfl
theorem V.n_mk (k n:Int) (s:Bs) (l:List V) (m:List Mem):(V.mk k n s l m).n=n:=rfl
theorem V.s_mk (k n:Int) (s:Bs) (l:List V) (m:List Mem):(V.mk k n s l m).s=s:=rfl
theorem V.l_mk (k n:Int) (s:Bs) (l:List V) (m:List Mem):(V.mk k n s l m).l=l:=rfl
theorem V.m_mk (k n:Int) (s:Bs) (l:List V) (m:List Mem):(V.mk k n s l m).m=m:=rfl
theorem en {α:Type} {f:α->AV} {l:List α} (h: ∀x∈l,(f x).closed=true):ay (l.map f)=true:=by
 induction l with
 | nil=>rfl
 | cons x l ih=>simp only [List.map_cons,ay,ak]; exact ⟨h x (by simp),ih (fun y hy=>h y (by simp [hy]))⟩
theorem nX {α:Type} {f:α->AV} {l:List α} (h: ∀x∈l,(f x).er=f x):eP (l.map f)=l.map f:=by
 induction l with
 | nil=>rfl
 | cons x l ih=>simp only [List.map_cons,eP,h x (by simp),ih (fun y hy=>h y (by simp [hy]))]
mutual
theorem V.enc_closed: ∀v:V,v.enc.closed=true
 | .mk k n s l m=>by
  have h1:=o7 l
  have h2:=o6 m
  simp only [V.enc,AV.closed,ay,Bool.and_true,h1,h2]
theorem o7: ∀l:List V,ay (wY l)=true
 | []=>by simp [wY,ay]
 | v ::r=>by simp [wY,ay,V.enc_closed v,o7 r]
theorem o6: ∀l:List (Bs×V),ay (wX l)=true
 | []=>by simp [wX,ay]
 | (k,v) ::r=>by
  have h:=V.enc_closed v
  have h2:ay v.enc.cells=true:=by
   cases v; simp only [V.enc,AV.cells,AV.closed] at h ⊢; exact h
  simp [wX,ay,AV.closed,h2,o6 r]
end
mutual
theorem V.enc_er: ∀v:V,v.enc.er=v.enc
 | .mk k n s l m=>by simp only [V.enc,AV.er,eP,z6 l,zZ m]
theorem z6: ∀l:List V,eP (wY l)=wY l
 | []=>by simp [wY,eP]
 | v ::r=>by simp [wY,eP,V.enc_er v,z6 r]
theorem zZ: ∀l:List (Bs×V),eP (wX l)=wX l
 | []=>by simp [wX,eP]
 | (k,v) ::r=>by
  have h:=V.enc_er v
  have h2:eP v.enc.cells=v.enc.cells:=by
   cases v; simp only [V.enc,AV.cells,AV.er,AV.agg.injEq] at h ⊢; exact h
  simp [wX,eP,AV.er,h2,zZ r]
end
theorem ly (l:List V):ay (l.map V.enc)=true:=by rw [←uf]; exact o7 l
theorem o5 (l:List Mem):ay (l.map bp)=true:=by rw [←ue]; exact o6 l
theorem ud (l:List V):eP (l.map V.enc)=l.map V.enc:=by rw [←uf]; exact z6 l
theorem zY (l:List Mem):eP (l.map bp)=l.map bp:=by rw [←ue]; exact zZ l
theorem V.enc_known (v:V):v.enc.known=true:=by rw [V.enc_eq]; rfl
theorem V.enc_one (v:V):v.enc.one=false:=by rw [V.enc_eq]; rfl
theorem V.enc_notAgg (v:V):v.enc.notAgg=false:=by rw [V.enc_eq]; rfl
theorem wh (x:Mem):(bp x).closed=true:=by
 have:=o5 [x]
 simpa [ay] using this
theorem Mh (x:Mem):(bp x).er=bp x:=by
 have:=zY [x]
 simpa [eP] using this
theorem Jk (x:Mem):(bp x).known=true:=rfl
theorem FZ (x:Mem):(bp x).notAgg=false:=rfl
def strs (l:List Bs):ai:=l.map .str
theorem oY (l:List Bs):ay (l.map AV.str)=true:=en fun _ _=>rfl
theorem zX (l:List Bs):eP (l.map AV.str)=l.map AV.str:=nX fun _ _=>by simp only [AV.er]
theorem Du (k:IntKind) (l:List Int):ay (l.map (AV.int k))=true:=en fun _ _=>rfl
theorem Ur (k:IntKind) (l:List Int):eP (l.map (AV.int k))=l.map (AV.int k):=nX fun _ _=>by simp only [AV.er]
structure Ev where
 v:V
 id:Bs
 room:Bs
 type:Bs
 sender:Bs
 key:Bs
 isState:Bool
 ts:Int
 depth:Int
 prev:List Bs
 auth:List Bs
 content:V
def PF (e:Ev):AV:= .agg [.int .i64 e.v.kind, .int .i64 e.v.n, .str e.v.s, .vsl (e.v.l.map V.enc) none, .vsl (e.v.m.map bp) none, .str e.id, .str e.room, .str e.type, .str e.sender, .str e.key,
 .bool e.isState, .int .i64 e.ts, .int .i64 e.depth, .vsl (e.prev.map .str) none, .vsl (e.auth.map .str) none, .int .i64 e.content.kind, .int .i64 e.content.n, .str e.content.s, .vsl (e.content.l.map V.enc) none, .vsl (e.content.m.map bp) none]
theorem PE (e:Ev):(PF e).cells= [.int .i64 e.v.kind, .int .i64 e.v.n, .str e.v.s, .vsl (e.v.l.map V.enc) none, .vsl (e.v.m.map bp) none, .str e.id, .str e.room, .str e.type, .str e.sender, .str e.key,
 .bool e.isState, .int .i64 e.ts, .int .i64 e.depth, .vsl (e.prev.map .str) none, .vsl (e.auth.map .str) none, .int .i64 e.content.kind, .int .i64 e.content.n, .str e.content.s, .vsl (e.content.l.map V.enc) none, .vsl (e.content.m.map bp) none]:=rfl
theorem zV (e:Ev):(PF e).closed=true:=by
 simp only [PF,AV.closed,ay,ly,o5,oY,aW]
theorem Ul (e:Ev):(PF e).er=PF e:=by
 simp only [PF,AV.er,eP,ud,zY,zX]
theorem PD (e:Ev):(PF e).known=true:=rfl
theorem JS (e:Ev):(PF e).notAgg=false:=rfl
theorem Uk (k n:Int) (s:Bs) (l:List V) (m:List Mem) (id room type sender key:Bs) (st:Bool) (ts depth:Int) (prev auth:List Bs) (k' n':Int) (s':Bs) (l':List V) (m':List Mem) :
  AV.agg [.int .i64 k, .int .i64 n, .str s, .vsl (l.map V.enc) none, .vsl (m.map bp) none, .str id, .str room, .str type, .str sender, .str key,
   .bool st, .int .i64 ts, .int .i64 depth, .vsl (prev.map .str) none, .vsl (auth.map .str) none, .int .i64 k', .int .i64 n', .str s', .vsl (l'.map V.enc) none, .vsl (m'.map bp) none]=
  PF ⟨V.mk k n s l m,id,room,type,sender,key,st,ts,depth,prev,auth,V.mk k' n' s' l' m'⟩:=rfl
theorem Dt (l:List Ev):ay (l.map PF)=true:=en fun e _=>zV e
theorem Uq (l:List Ev):eP (l.map PF)=l.map PF:=nX fun e _=>Ul e
structure uN where
 type:Bs
 key:Bs
 deriving DecidableEq
def uV (s:uN):AV:= .agg [.str s.type, .str s.key]
theorem It (s:uN):(uV s).cells= [.str s.type, .str s.key]:=rfl
theorem E9 (s:uN):(uV s).closed=true:=rfl
theorem Cz (s:uN):(uV s).er=uV s:=by simp only [uV,AV.er,eP]
theorem Is (s:uN):(uV s).known=true:=rfl
theorem E8 (s:uN):(uV s).notAgg=false:=rfl
theorem N6 (t k:Bs):AV.agg [.str t, .str k]=uV ⟨t,k⟩:=rfl
theorem Ds (l:List uN):ay (l.map uV)=true:=en fun _ _=>rfl
theorem Up (l:List uN):eP (l.map uV)=l.map uV:=nX fun s _=>Cz s
theorem cB {α:Type} {f:α->AV} {l:List α} {sz:Nat} {c:aA} {j:Nat} {a:α} (h:l[j]? =some a) (hs:(f a).cells.length=sz) :
  idxOf sz none (.vsl (l.map f) c) (.int .i64 (j:Int))=some (.vptr (f a).cells 0):=mS (by simp [h]) hs
mutual
def V.sz:V->Nat
 | .mk _ _ s l m=>s.length+AD l+pI m+1
def AD:List V->Nat
 | []=>0
 | v ::r=>v.sz+AD r
def pI:List (Bs×V)->Nat
 | []=>0
 | (k,v) ::r=>k.length+v.sz+pI r
end
theorem V.sz_eq (v:V):v.sz=v.s.length+AD v.l+pI v.m+1:=by cases v; rw [V.sz]; rfl
theorem V.sz_pos (v:V):1<=v.sz:=by rw [V.sz_eq]; omega
theorem oD: ∀l:List V,l.length<=AD l
 | []=>by simp [AD]
 | v ::r=>by have:=oD r; have:=v.sz_pos; simp only [AD,List.length_cons]; omega
theorem oC: ∀l:List Mem,l.length<=pI l
 | []=>by simp [pI]
 | (k,v) ::r=>by have:=oC r; have:=v.sz_pos; simp only [pI,List.length_cons]; omega
theorem jB {v:V}: ∀ {l:List V},v∈l->v.sz<=AD l
 | x ::r,h=>by
  simp only [AD]
  rcases List.mem_cons.1 h with rfl | h
  ·omega
  ·have:=jB h; omega
theorem gI {x:Mem}: ∀ {l:List Mem},x∈l->x.1.length+x.2.sz<=pI l
 | (k,v) ::r,h=>by
  simp only [pI]
  rcases List.mem_cons.1 h with rfl | h
  ·simp only; omega
  ·have:=gI h; omega
def VX:=J @V.enc_cells (J @bq (J @V.eta (J @Mem.eta (J @V.fold (J @V.fold1 (J @V.fold2 (J @V.fold3 (J @qO (J @Jn (J @Jm (J @Jl (J @V.kind_mk (J @V.n_mk (J @V.s_mk (J @V.l_mk (J @V.m_mk (J @V.enc_closed (J @V.enc_er (J @ly (J @o5 (J @ud (J @zY (J @V.enc_known (J @V.enc_one (J @V.enc_notAgg (J @wh (J @Mh (J @Jk (J @FZ (J @oY (J @zX (J @Du (J @Ur (J @PE (J @zV (J @Ul (J @PD (J @JS (J @Uk (J @Dt (J @Uq (J @It (J @E9 (J @Cz (J @Is (J @E8 (J @N6 (J @Ds (J @Up (@List.length_map.{0,0}))))))))))))))))))))))))))))))))))))))))))))))))))
def ik (sz:Nat) (ob:aA) (n:Nat):AV:=match ob with
 | none=> .nils
 | some b=> .sl b 0 n sz none
def mz (σ:ag) (sz:Nat) (ob:aA) (n:Nat) (cells:ai):Prop:=match ob with
 | none=>n=0/\cells= []
 | some b=>σ.get b=some (.own cells)/\cells.length=n*sz/\b < σ.next/\0 < n
theorem gB {σ:ag} {cs:ai} {b:Nat} (h:b < σ.next):(σ.alloc cs).get b=σ.get b:=by
 simp only [ag.alloc,ag.get,look]
 rw [if_neg aa]
theorem dW {σ:ag} {cs:ai}:(σ.alloc cs).get σ.next=some (.own cs):=by
 simp [ag.alloc,ag.get,look]
theorem xy {σ:ag} {x:jP} {b b':Nat} (h:b≠b'):(σ.set b x).get b'=σ.get b':=by
 simp only [ag.set,ag.get,look]
 rw [if_neg h]
theorem p8 {σ:ag} {x:jP} {b:Nat}:(σ.set b x).next=σ.next:=rfl
theorem eK {σ:ag} {cs:ai}:(σ.alloc cs).next=σ.next+1:=rfl
theorem vl {σ:ag} {sz n:Nat} {ob:aA} {cells:ai} (h:mz σ sz ob n cells):lenL (ik sz ob n)=some (.int .i64 n):=by
 cases ob with
 | none=>obtain ⟨rfl,_⟩:=h; rfl
 | some b=>rfl
theorem fY {σ:ag} {sz bytes n k:Nat} {ob:aA} {cells new:ai} (h:mz σ sz ob n cells) (hs:0 < sz) (hb:0 < bytes) (hm:(n+k)*bytes<=aY) (hl:new.length=k*sz) (ho:new.all AV.one=true) (hk:0 < k) :
  ∃σ',aF σ sz bytes (ik sz ob n) new k=some (ik sz (some σ.next) (n+k),σ')/\mz σ' sz (some σ.next) (n+k) (cells ++new)/\σ'.next=σ.next+1/\
   ∀b',b' < σ.next->ob≠some b'->σ'.get b'=σ.get b':=by
 cases ob with
 | none=>
  obtain ⟨rfl,rfl⟩:=h
  refine ⟨σ.alloc new,?_,⟨by simpa using dW,by simpa using hl,by simp [eK],by omega⟩,rfl,fun b' nJ _=>gB nJ⟩
  unfold aF ik
  simp only [lenOf,Nat.zero_add]
  rw [if_pos ⟨hs,hb,by simpa using hm,hl,ho⟩,if_neg aa]
 | some b=>
  obtain ⟨h1,h2,h3,h4⟩:=h
  have fV:b≠σ.next:=by omega
  refine ⟨(σ.set b .dead).alloc (cells ++new),?_,⟨?_,by simp [h2,hl,Nat.add_mul],by simp [eK,p8],by omega⟩,rfl,fun b' nJ hne'=> ?_⟩
  ·unfold aF ik
   simp only [lenOf]
   rw [if_pos ⟨hs,hb,hm,hl,ho⟩,if_pos trivial]
   have:σ.owned b=some cells:=by simp [ag.owned,h1]
   rw [this]
   simp only
   rw [if_neg aa,if_pos aa]
   rfl
  ·exact dW (σ:=σ.set b .dead)
  ·rw [gB (by rw [p8]; exact nJ),xy (by intro hh; exact hne' (by rw [hh]))]
theorem ft {l:ai}:ay l=true↔∀x∈l,x.closed=true:=by
 induction l with
 | nil=>simp [ay]
 | cons x l ih=>simp [ay,ih]
theorem LF {σ:ag} {d b n sz:Nat} {cells:ai} (h:σ.cells b=some cells) (h2:cells.length=n*sz) (hs:0 < sz) (hc:ay cells=true) (ha:cells.all AV.notAgg=true) :
  rb σ (d+1) (.sl b 0 n sz none)=some (.vsl (chunks sz n cells) none):=by
 have ht:List.take (n*sz) (List.drop 0 cells)=cells:=by simp [←h2]
 have e:rb σ (d+1) (.sl b 0 n sz none)=(match σ.cells b with
   | some cs=>
    if 0+n*sz<=cs.length/\0 < sz then
     match cS (rb σ d) ((cs.drop 0).take (n*sz)) with
     | some cs'=>if cs'.all AV.notAgg then some (.vsl (chunks sz n cs') none) else none
     | none=>none
    else none
   | none=>none):=rfl
 rw [e,h]
 simp only
 rw [if_pos ⟨by omega,hs⟩,ht,cP hc]
 simp only
 rw [if_pos ha]
theorem rb_own {σ:ag} {sz n:Nat} {ob:aA} {cells:ai} (h:mz σ sz ob n cells) (hs:0 < sz) (hc:ay cells=true) (ha:cells.all AV.notAgg=true) :
  rb σ bJ (ik sz ob n)=some (if n=0 then .nils else .vsl (chunks sz n cells) none):=by
 cases ob with
 | none=>obtain ⟨rfl,_⟩:=h; rfl
 | some b=>
  obtain ⟨h1,h2,h3,h4⟩:=h
  rw [if_neg aa]
  exact LF (d:=23) (by simp [ag.cells,h1]) h2 hs hc ha
end Go.Ab
