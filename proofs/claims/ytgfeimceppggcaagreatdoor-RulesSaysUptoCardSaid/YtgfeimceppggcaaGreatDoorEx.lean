/- The abstract machine, said as rules for rewriting. Conditions: none. -/
import Derived.Test.YtgfeimceppggcaaGreatDoorMach
import Derived.Test.YtgfeimceppggcaaGreatDoorRun
set_option linter.unusedVariables false
set_option linter.unusedSimpArgs false
set_option linter.defProp false
set_option linter.unnecessarySimpa false
namespace Go.Ab
def ob {α:Type} (o:Option α) (K:α->Prop):Prop:=match o with
 | some v=>K v
 | none=>False
@[simp] theorem JY {α:Type} (v:α) (K:α->Prop):ob (some v) K↔K v:=Iff.rfl
@[simp] theorem JZ {α:Type} (K:α->Prop):ob none K↔False:=Iff.rfl
section
variable (ip:Nat->Option aq) (G:Nat->ai)
def Ex (k:List Item) (fr:Fr) (σ:ag) (Q:Fr->ag->Prop):Prop:=∃n fr' σ',run ip G n k fr σ=some (fr',σ')/\Q fr' σ'
open Classical in
noncomputable def cf (f:AV) (args:ai) (σ:ag):Option (AV×ag):=
 if h: ∃x n,dj ip (run ip G n) f args σ=some x then some h.choose else none
noncomputable def dO (f:AV) (args:ai):Option AV:=(cf ip G f args .empty).bind fun x=>rbE x.2 x.1
variable {ip G}
theorem LQ {n m:Nat} {f:AV} {args:ai} {σ:ag} {x y:AV×ag} (h1:dj ip (run ip G n) f args σ=some x) (h2:dj ip (run ip G m) f args σ=some y):x=y:=by
 have a:=ll (ip:=ip) (o9 (ip:=ip) (G:=G) (Nat.le_max_left n m)) h1
 have b:=ll (ip:=ip) (o9 (ip:=ip) (G:=G) (Nat.le_max_right n m)) h2
 rw [a] at b
 exact br b
theorem dJ {f:AV} {args:ai} {σ:ag} {x:AV×ag}:cf ip G f args σ=some x↔∃n,dj ip (run ip G n) f args σ=some x:=by
 unfold cf
 constructor
 ·intro h
  split at h
  ·rename_i hh
   simp only [ah] at h
   subst h
   exact hh.choose_spec
  ·simp at h
 ·rintro ⟨n,h⟩
  rw [dif_pos ⟨x,n,h⟩]
  have hh: ∃x n,dj ip (run ip G n) f args σ=some x:=⟨x,n,h⟩
  obtain ⟨m,hm⟩:=hh.choose_spec
  exact congrArg some (LQ hm h)
theorem gi {k k':List Item} {fr fr':Fr} {σ σ':ag} {Q:Fr->ag->Prop} (h: ∀n,run ip G (n+1) k fr σ=run ip G n k' fr' σ'):Ex ip G k fr σ Q↔Ex ip G k' fr' σ' Q:=by
 constructor
 ·rintro ⟨n,a,b,h1,h2⟩
  cases n with
  | zero=>simp [run] at h1
  | succ n=>exact ⟨n,a,b,by rw [←h]; exact h1,h2⟩
 ·rintro ⟨n,a,b,h1,h2⟩
  exact ⟨n+1,a,b,by rw [h]; exact h1,h2⟩
section
variable {fr:Fr} {σ:ag} {Q:Fr->ag->Prop} {k:List Item}
theorem ex_nil:Ex ip G [] fr σ Q↔Q fr σ:=by
 constructor
 ·rintro ⟨n,a,b,h1,h2⟩
  cases n with
  | zero=>simp [run] at h1
  | succ n=>simp only [run,ah,aI] at h1; obtain ⟨rfl,rfl⟩:=h1; exact h2
 ·intro h; exact ⟨1,fr,σ,rfl,h⟩
theorem ex_ret:Ex ip G (.code .ret ::k) fr σ Q↔Q fr σ:=by
 constructor
 ·rintro ⟨n,a,b,h1,h2⟩
  cases n with
  | zero=>simp [run] at h1
  | succ n=>simp only [run,ah,aI] at h1; obtain ⟨rfl,rfl⟩:=h1; exact h2
 ·intro h; exact ⟨1,fr,σ,rfl,h⟩
theorem HG {id:Nat}:Ex ip G (.inBlock id ::k) fr σ Q↔Ex ip G k fr σ Q:=gi fun _=>rfl
theorem aT {l:List Nat} {c:an}:Ex ip G (.inLoop l c ::k) fr σ Q↔Ex ip G (.code c :: .inLoop l c ::k) (keep l fr) σ Q:=gi fun _=>rfl
theorem ay {l:List Nat} {c:an}:Ex ip G (.code (.loop l c) ::k) fr σ Q↔Ex ip G (.code c :: .inLoop l c ::k) (keep l fr) σ Q:=gi fun _=>rfl
theorem XC {l:List Nat} {c:an}:Ex ip G (.code (.keep l c) ::k) fr σ Q↔Ex ip G (.code c ::k) (keep l fr) σ Q:=gi fun _=>rfl
theorem ex_frz {l:List Nat} {c:an}:Ex ip G (.code (.frz l c) ::k) fr σ Q↔Ex ip G (.code c ::k) fr (ke fr l σ) Q:=gi fun _=>rfl
theorem XB:Ex ip G (.code .skip ::k) fr σ Q↔Ex ip G k fr σ Q:=gi fun _=>rfl
theorem ex_seq {a b:an}:Ex ip G (.code (.seq a b) ::k) fr σ Q↔Ex ip G (.code a :: .code b ::k) fr σ Q:=gi fun _=>rfl
theorem Sc {id:Nat} {c:an}:Ex ip G (.code (.block id c) ::k) fr σ Q↔Ex ip G (.code c :: .inBlock id ::k) fr σ Q:=gi fun _=>rfl
theorem No {ops:List aZ}:Ex ip G (.code (.region ops) ::k) fr σ Q↔Ex ip G (.ops ops ::k) fr σ Q:=gi fun _=>rfl
theorem HF:Ex ip G (.ops [] ::k) fr σ Q↔Ex ip G k fr σ Q:=gi fun _=>rfl
theorem XD {id:Nat}:Ex ip G (.code (.exit id) ::k) fr σ Q↔ob (exitTo id k) fun k'=>Ex ip G k' fr σ Q:=by
 cases h:exitTo id k with
 | none=>
  simp only [JZ,iff_false]
  rintro ⟨n,a,b,h1,h2⟩
  cases n with
  | zero=>simp [run] at h1
  | succ n=>simp [run,h] at h1
 | some k'=>
  simp only [JY]
  exact gi fun n=>by simp [run,h]
def obB (v:AV) (K:Bool->Prop):Prop:=match v with
 | .bool b=>K b
 | _=>False
@[simp] theorem Qc (b:Bool) (K:Bool->Prop):obB (.bool b) K↔K b:=Iff.rfl
theorem XE {c:bq} {a b:an}:Ex ip G (.code (.cond c a b) ::k) fr σ Q↔obB (val G fr c) fun t=>if t=true then Ex ip G (.code a ::k) fr σ Q else Ex ip G (.code b ::k) fr σ Q:=by
 cases hv:val G fr c with
 | bool t=>
  simp only [Qc]
  rw [gi (k':= .code (if t then a else b) ::k) (fr':=fr) (σ':=σ) fun n=>by simp [run,hv]]
  cases t <;> simp
 | _=>
  simp only [obB,iff_false]
  rintro ⟨n,x,y,h1,h2⟩
  cases n with
  | zero=>simp [run] at h1
  | succ n=>simp [run,hv] at h1
def G3:cB->Bool
 | .call .. =>false
 | _=>true
theorem vv {o:cB} (h:G3 o=true) (r r':kr):bz ip G r o fr σ=bz ip G r' o fr σ:=by
 cases o with
 | call=>simp [G3] at h
 | buildSl own=>cases own <;> rfl
 | _=>rfl
def eff (ip:Nat->Option aq) (G:Nat->ai) (o:cB) (fr:Fr) (σ:ag):Option (AV×ag):=bz ip G (fun _ _ _=>none) o fr σ
theorem da {d:aD} {o:cB} {os:List aZ} (h:G3 o=true):Ex ip G (.ops (⟨d,none,o⟩ ::os) ::k) fr σ Q↔ob (eff ip G o fr σ) fun x=>Ex ip G (.ops os ::k) (fr.put d x.1) x.2 Q:=by
 cases hx:eff ip G o fr σ with
 | none=>
  simp only [JZ,iff_false]
  rintro ⟨n,x,y,h1,h2⟩
  cases n with
  | zero=>simp [run] at h1
  | succ n=>
   have:bz ip G (run ip G n) o fr σ=none:=(vv h _ _).trans hx
   simp [run,wanted,this] at h1
 | some x=>
  simp only [JY]
  refine gi fun n=> ?_
  have:bz ip G (run ip G n) o fr σ=some x:=(vv h _ _).trans hx
  obtain ⟨v,σ'⟩:=x
  simp [run,wanted,this]
def obG (v:AV) (K:Bool->Prop) (S:Prop):Prop:=match v with
 | .bool b=>K b
 | .tup []=>S
 | _=>False
theorem Fh {d:aD} {t:Nat} {b:Bool} {o:cB} {os:List aZ}:Ex ip G (.ops (⟨d,some (t,b),o⟩ ::os) ::k) fr σ Q↔
  obG (fr.get t) (fun c=>if c=b then Ex ip G (.ops (⟨d,none,o⟩ ::os) ::k) fr σ Q else Ex ip G (.ops os ::k) (fr.put d (.tup [])) σ Q) (Ex ip G (.ops os ::k) (fr.put d (.tup [])) σ Q):=by
 unfold obG
 split
 ·rename_i c hv
  show _↔if c=b then _ else _
  by_cases hcb:c=b
  ·rw [if_pos hcb]
   have hs: ∀n,run ip G (n+1) (.ops (⟨d,some (t,b),o⟩ ::os) ::k) fr σ=run ip G (n+1) (.ops (⟨d,none,o⟩ ::os) ::k) fr σ:=fun n=>by
    simp [run,wanted,hv,hcb]
   constructor
   ·rintro ⟨n,x,y,h1,h2⟩
    cases n with
    | zero=>simp [run] at h1
    | succ n=>exact ⟨n+1,x,y,by rw [←hs]; exact h1,h2⟩
   ·rintro ⟨n,x,y,h1,h2⟩
    cases n with
    | zero=>simp [run] at h1
    | succ n=>exact ⟨n+1,x,y,by rw [hs]; exact h1,h2⟩
  ·rw [if_neg hcb]
   refine gi fun n=> ?_
   have:(c == b)=false:=by simp [hcb]
   simp [run,wanted,hv,this]
 ·rename_i hv
  exact gi fun n=>by simp [run,wanted,hv]
 ·rename_i h1 h2
  simp only [iff_false]
  rintro ⟨n,x,y,h3,h4⟩
  cases n with
  | zero=>simp [run] at h3
  | succ n=>
   have:wanted (some (t,b)) fr=none:=by
    unfold wanted
    split
    ·rename_i hh; simp at hh
    ·rename_i hh
     simp only [ah,aI] at hh
     obtain ⟨rfl,rfl⟩:=hh
     split
     ·rename_i c hc; exact absurd hc (h1 c)
     ·rename_i hc; exact absurd hc h2
     ·rfl
   simp [run,this] at h3
noncomputable def fZ (ip:Nat->Option aq) (G:Nat->ai) (strict:Bool) (f:AV) (args:ai) (σ:ag):Option (AV×ag):=
 (rb σ bK f).bind fun f'=>(dt (rb σ bK) args).bind fun args'=>(dO ip G f'.er (dT args')).bind fun r=>
  if r.flat || (f.closed && aB args) then some (r,σ) else if strict then none else some (r,σ.freeze)
theorem rC {st:Bool} {f:AV} {args:ai} {x:AV×ag}:fZ ip G st f args σ=some x↔∃n,gv ip (run ip G n) true st f args σ=some x:=by
 unfold fZ gv
 simp only [if_true]
 cases rb σ bK f with
 | none=>simp
 | some f'=>
  cases dt (rb σ bK) args with
  | none=>simp
  | some args'=>
   simp only [Option.bind_some]
   constructor
   ·intro h
    rw [Option.bind_eq_some_iff] at h
    obtain ⟨r,h1,h2⟩:=h
    unfold dO rbE at h1
    rw [Option.bind_eq_some_iff] at h1
    obtain ⟨y,h3,h4⟩:=h1
    rw [cp] at h4
    obtain ⟨r0,h4,rfl⟩:=h4
    obtain ⟨n,h5⟩:=dJ.1 h3
    refine ⟨n,?_⟩
    rw [h5]
    simp only [h4]
    rw [wz] at h2
    exact h2
   ·rintro ⟨n,h⟩
    cases h5:dj ip (run ip G n) f'.er (dT args') .empty with
    | none=>rw [h5] at h; simp at h
    | some y=>
     rw [h5] at h
     have h3:=dJ.2 ⟨n,h5⟩
     cases h4:rb y.2 bK y.1 with
     | none=>simp [h4] at h
     | some r=>
      have hR:dO ip G f'.er (dT args')=some r.er:=by unfold dO rbE; rw [h3]; simp only [Option.bind_some,h4,Option.map_some]
      rw [hR]
      simp only [Option.bind_some,wz]
      simpa [h4] using h
open Classical in
noncomputable def both (ip:Nat->Option aq) (G:Nat->ai) (f:AV) (σ:ag):Bool:=decide (∃n,eV ip (run ip G n) f σ=true)
theorem uE {f:AV}:both ip G f σ=true↔∃n,eV ip (run ip G n) f σ=true:=by
 unfold both; simp
noncomputable def nC (ip:Nat->Option aq) (G:Nat->ai) (m:tn) (f:AV) (args:ai) (σ:ag):Option (AV×ag):=match m with
 | .shared=>cf ip G f args σ
 | .pure=>fZ ip G false f args σ
 | .strict=>fZ ip G true f args σ
 | .split=>if dP args=true then (if both ip G f σ=true then some (.vsl [] (some 0),σ) else none) else cf ip G f args σ
 | .splitS=>if dP args=true then (if both ip G f σ=true then some (.vsl [] none,σ) else none) else fZ ip G true f args σ
theorem yT {m:tn} {f:bq} {xs:List bq} {x:AV×ag}:nC ip G m (val G fr f) (xs.map (val G fr)) σ=some x↔∃n,bz ip G (run ip G n) (.call m f xs) fr σ=some x:=by
 have key: ∀(v:AV×ag),(if both ip G (val G fr f) σ=true then some v else none)=some x↔∃n,(if eV ip (run ip G n) (val G fr f) σ=true then some v else none)=some x:=by
  intro v
  constructor
  ·intro h
   split at h <;> simp only [ah,reduceCtorEq] at h
   rename_i hb
   obtain ⟨n,hn⟩:=uE.1 hb
   exact ⟨n,by rw [if_pos hn,h]⟩
  ·rintro ⟨n,h⟩
   split at h <;> simp only [ah,reduceCtorEq] at h
   rename_i hb
   rw [if_pos (uE.2 ⟨n,hb⟩),h]
 cases m with
 | shared=>exact dJ
 | pure=>exact rC
 | strict=>exact rC
 | split=>
  simp only [nC,bz]
  by_cases hn:dP (xs.map (val G fr))=true
  ·simp only [if_pos hn]; exact key _
  ·simp only [if_neg hn]; exact dJ
 | splitS=>
  simp only [nC,bz]
  by_cases hn:dP (xs.map (val G fr))=true
  ·simp only [if_pos hn]; exact key _
  ·simp only [if_neg hn]; exact rC
theorem XF {d:aD} {m:tn} {f:bq} {xs:List bq} {os:List aZ} :
  Ex ip G (.ops (⟨d,none, .call m f xs⟩ ::os) ::k) fr σ Q↔ob (nC ip G m (val G fr f) (xs.map (val G fr)) σ) fun x=>Ex ip G (.ops os ::k) (fr.put d x.1) x.2 Q:=by
 constructor
 ·rintro ⟨n,a,b,h1,h2⟩
  cases n with
  | zero=>simp [run] at h1
  | succ n=>
   simp only [run,wanted] at h1
   cases hd:bz ip G (run ip G n) (.call m f xs) fr σ with
   | none=>rw [hd] at h1; simp at h1
   | some x=>
    rw [hd] at h1
    rw [yT.2 ⟨n,hd⟩]
    exact ⟨n,a,b,h1,h2⟩
 ·intro h
  cases hc:nC ip G m (val G fr f) (xs.map (val G fr)) σ with
  | none=>rw [hc] at h; exact h.elim
  | some x=>
   rw [hc] at h
   obtain ⟨n,a,b,h1,h2⟩:=h
   obtain ⟨n',hd⟩:=yT.1 hc
   refine ⟨max n n'+1,a,b,?_,h2⟩
   have Ug:=AF (ip:=ip) (G:=G) (o9 (ip:=ip) (G:=G) (Nat.le_max_right n n')) hd
   have E9:=o9 (ip:=ip) (G:=G) (Nat.le_max_left n n') _ _ _ _ h1
   simp only [run,wanted,Ug]
   exact E9
theorem Ex.mono {Q':Fr->ag->Prop} (h: ∀a b,Q a b->Q' a b) (x:Ex ip G k fr σ Q):Ex ip G k fr σ Q':=by
 obtain ⟨n,a,b,h1,h2⟩:=x
 exact ⟨n,a,b,h1,h _ _ h2⟩
end
theorem gy {id:Nat} {F:aq} (hF:ip id=some F) {first args caps:ai} {σ σ':ag} {r:AV}
  (h:Ex ip G [.code F.body] (eW (first ++args ++caps)) σ fun fr' σ1=>iB fr' σ1 F.res=some r/\σ1=σ'):cf ip G (.fn id first caps) args σ=some (r,σ'):=by
 obtain ⟨n,fr',σ1,h1,h2,rfl⟩:=h
 refine dJ.2 ⟨n,?_⟩
 unfold dj
 simp only [hF,h1,h2]
theorem yR {id:Nat} {F:aq} (hF:ip id=some F) {first args caps:ai} {r:AV}
  (h:Ex ip G [.code F.body] (eW (first ++args ++caps)) .empty fun fr' σ1=>(iB fr' σ1 F.res).bind (rbE σ1)=some r):dO ip G (.fn id first caps) args=some r:=by
 obtain ⟨n,fr',σ1,h1,h2⟩:=h
 rw [Option.bind_eq_some_iff] at h2
 obtain ⟨r0,h3,h4⟩:=h2
 have:=gy (ip:=ip) (G:=G) hF (first:=first) (args:=args) (caps:=caps) (σ:= .empty) (σ':=σ1) (r:=r0) ⟨n,fr',σ1,h1,h3,rfl⟩
 unfold dO
 rw [this]
 exact h4
theorem cj {σ:ag} {d:Nat} {v:AV} (h:v.closed=true):rb σ d v=some v:=by
 cases d <;> simp [rb,h]
theorem cP {σ:ag} {d:Nat}: ∀ {l:ai},aB l=true->dt (rb σ d) l=some l
 | [],_=>rfl
 | v ::l,h=>by
  simp only [aB,ak] at h
  simp [dt,cj h.1,cP h.2]
theorem sV {st:Bool} {f:AV} {args:ai} {σ:ag} (h1:f.closed=true) (h2:aB args=true):fZ ip G st f args σ=(dO ip G f.er (dT args)).map fun r=>(r,σ):=by
 unfold fZ
 rw [cj h1,cP h2]
 simp only [Option.bind_some,h1,h2,aV,Bool.or_true,if_true]
 cases dO ip G f.er (dT args) <;> rfl
theorem gl {st:Bool} {f:AV} {args args':ai} {σ:ag} {r:AV} (h1:f.closed=true) (h2:dt (rb σ bK) args=some args') (h3:dO ip G f.er (dT args')=some r) (h4:r.flat=true):fZ ip G st f args σ=some (r,σ):=by
 unfold fZ
 rw [cj h1,h2]
 simp [h3,h4]
end
end Go.Ab
namespace Go.Ab
def UM (t:Nat) (v:AV):Fr->Fr
 | []=> []
 | (i,b) ::r=>if i=t then (i,v) ::r else (i,b) ::UM t v r
theorem xA {t:Nat} {v:AV}: ∀ {fr:Fr},look fr t=some v->UM t v fr=fr
 | [],h=>by simp [look] at h
 | (i,b) ::r,h=>by
  simp only [UM]
  simp only [look] at h
  by_cases hi:i=t
  ·rw [if_pos hi] at h ⊢
   simp only [ah] at h
   rw [h]
  ·rw [if_neg hi] at h ⊢
   rw [xA h]
def strip (t:Nat) (c:Bool):List aZ->List aZ
 | []=> []
 | o ::os=>(match o.guard with
   | none=>o
   | some (t',b)=>if t'=t then (if b=c then { o with guard:=none } else { dst:=o.dst,guard:=none,op:= .mv (.const (.tup [])) }) else o) ::
  (if o.dst=some t then os else strip t c os)
section
variable (ip:Nat->Option aq) (G:Nat->ai)
def qz (o:Option AV) (d:aD) (k:List Item) (fr:Fr) (σ:ag) (Q:Fr->ag->Prop):Prop:=ob o fun v=>Ex ip G k (fr.put d v) σ Q
def Um (o:Option (AV×ag)) (d:aD) (k:List Item) (fr:Fr) (Q:Fr->ag->Prop):Prop:=ob o fun x=>Ex ip G k (fr.put d x.1) x.2 Q
def ExG (v:AV) (t:Nat) (d:aD) (ZR os:List aZ) (k:List Item) (fr:Fr) (σ:ag) (Q:Fr->ag->Prop):Prop:=
 obG v (fun c=>if c=true then Ex ip G (.ops (strip t true ZR) ::k) (UM t (.bool true) fr) σ Q else Ex ip G (.ops (strip t false ZR) ::k) (UM t (.bool false) fr) σ Q) (Ex ip G (.ops os ::k) (fr.put d (.tup [])) σ Q)
def ExC (v:AV) (a b:an) (k:List Item) (fr:Fr) (σ:ag) (Q:Fr->ag->Prop):Prop:=
 obB v fun c=>if c=true then Ex ip G (.code a ::k) fr σ Q else Ex ip G (.code b ::k) fr σ Q
def ExE (o:Option (List Item)) (fr:Fr) (σ:ag) (Q:Fr->ag->Prop):Prop:=ob o fun k=>Ex ip G k fr σ Q
variable {ip G} {fr:Fr} {σ:ag} {Q:Fr->ag->Prop} {k:List Item} {d:aD} {os:List aZ}
theorem Sd {v:AV}:qz ip G (some v) d k fr σ Q↔Ex ip G k (fr.put d v) σ Q:=Iff.rfl
theorem Se:qz ip G none d k fr σ Q↔False:=Iff.rfl
theorem Sf {v:AV} {σ':ag}:Um ip G (some (v,σ')) d k fr Q↔Ex ip G k (fr.put d v) σ' Q:=Iff.rfl
theorem Sg:Um ip G none d k fr Q↔False:=Iff.rfl
theorem Si {c:Bool} {t:Nat} {ZR:List aZ}:ExG ip G (.bool c) t d ZR os k fr σ Q↔if c=true then Ex ip G (.ops (strip t true ZR) ::k) (UM t (.bool true) fr) σ Q else Ex ip G (.ops (strip t false ZR) ::k) (UM t (.bool false) fr) σ Q:=Iff.rfl
theorem Sh {t:Nat} {ZR:List aZ}:ExG ip G (.tup []) t d ZR os k fr σ Q↔Ex ip G (.ops os ::k) (fr.put d (.tup [])) σ Q:=Iff.rfl
theorem Sk {c:Bool} {a b:an}:ExC ip G (.bool c) a b k fr σ Q↔if c=true then Ex ip G (.code a ::k) fr σ Q else Ex ip G (.code b ::k) fr σ Q:=Iff.rfl
theorem Sj {k':List Item}:ExE ip G (some k') fr σ Q↔Ex ip G k' fr σ Q:=Iff.rfl
theorem y_exit {id:Nat}:Ex ip G (.code (.exit id) ::k) fr σ Q↔ExE ip G (exitTo id k) fr σ Q:=XD
theorem y_cond {c:bq} {a b:an}:Ex ip G (.code (.cond c a b) ::k) fr σ Q↔ExC ip G (val G fr c) a b k fr σ Q:=XE
theorem zP {t:Nat} {c:Bool}: ∀(os:List aZ) (n:Nat) (fr:Fr) (σ:ag),fr.get t= .bool c->run ip G n (.ops (strip t c os) ::k) fr σ=run ip G n (.ops os ::k) fr σ
 | [],n,fr,σ,h=>rfl
 | o ::os,0,fr,σ,h=>rfl
 | o ::os,n+1,fr,σ,h=>by
  have ih:=fun n fr σ h=>zP (t:=t) (c:=c) os n fr σ h
  have put_ne: ∀(v:AV),o.dst≠some t->(fr.put o.dst v).get t= .bool c:=by
   intro v fX
   cases hd:o.dst with
   | none=>exact h
   | some d=>
    have:d≠t:=by rintro rfl; exact fX hd
    simp only [Fr.put,Fr.get,look,if_neg this]
    exact h
  have tail: ∀(m:Nat) (v:AV) (σ:ag),run ip G m (.ops (if o.dst=some t then os else strip t c os) ::k) (fr.put o.dst v) σ=run ip G m (.ops os ::k) (fr.put o.dst v) σ:=by
   intro m v σ
   by_cases hd:o.dst=some t
   ·rw [if_pos hd]
   ·rw [if_neg hd]; exact ih m _ σ (put_ne v hd)
  obtain ⟨d,g,op⟩:=o
  cases g with
  | none=>simp only [strip,run,wanted,tail]
  | some tb=>
   obtain ⟨t',b⟩:=tb
   simp only [strip]
   by_cases ht:t'=t
   ·subst ht
    rw [if_pos rfl]
    by_cases hb:b=c
    ·subst hb
     rw [if_pos rfl]
     simp only [run,wanted,h,tail,beq_self_eq_true]
    ·rw [if_neg hb]
     have:(c == b)=false:=by simp; exact fun h=>hb h.symm
     simp only [run,wanted,h,this,bz,aj,val,Option.map_some,tail]
   ·rw [if_neg ht]
    simp only [run,tail]
theorem Uo {t:Nat} {b:Bool} {o:cB}:Ex ip G (.ops (⟨d,some (t,b),o⟩ ::os) ::k) fr σ Q↔ExG ip G (fr.get t) t d (⟨d,some (t,b),o⟩ ::os) os k fr σ Q:=by
 cases hv:fr.get t with
 | bool c=>
  have hl:look fr t=some (.bool c):=by
   unfold Fr.get at hv
   cases hl:look fr t with
   | none=>simp [hl] at hv
   | some x=>simp [hl] at hv; rw [hv]
  have key:Ex ip G (.ops (strip t c (⟨d,some (t,b),o⟩ ::os)) ::k) fr σ Q↔Ex ip G (.ops (⟨d,some (t,b),o⟩ ::os) ::k) fr σ Q:=by
   unfold Ex
   simp only [zP _ _ _ _ hv]
  rw [←key]
  cases c
  ·simp only [ExG,obG,aX,if_false,xA hl]
  ·simp only [ExG,obG,if_true,xA hl]
 | tup vs=>
  rw [Fh,hv]
  cases vs <;> rfl
 | _=>
  rw [Fh,hv]
  rfl
theorem y_call {m:tn} {f:bq} {xs:List bq}:Ex ip G (.ops (⟨d,none, .call m f xs⟩ ::os) ::k) fr σ Q↔Um ip G (nC ip G m (val G fr f) (xs.map (val G fr)) σ) d (.ops os ::k) fr Q:=XF
theorem y_no:Ex ip G (.ops (⟨d,none, .no⟩ ::os) ::k) fr σ Q↔False:=(da rfl).trans Iff.rfl
theorem x_mv {x:bq}:Ex ip G (.ops (⟨d,none, .mv x⟩ ::os) ::k) fr σ Q↔Ex ip G (.ops os ::k) (fr.put d (val G fr x)) σ Q:=(da rfl).trans Iff.rfl
theorem x_pick {c:bq} {a:bq} {b:bq}:Ex ip G (.ops (⟨d,none,(.pick c a b)⟩ ::os) ::k) fr σ Q↔qz ip G (aj G (.pick c a b) fr σ) d (.ops os ::k) fr σ Q:=by
 refine (da rfl).trans ?_
 show ob ((aj G (.pick c a b) fr σ).map fun v=>(v,σ)) _↔ob _ _
 cases aj G (.pick c a b) fr σ <;> rfl
theorem Uv {z:ai} {ps:List (Nat×Nat×bq)}:Ex ip G (.ops (⟨d,none,(.build z ps)⟩ ::os) ::k) fr σ Q↔qz ip G (aj G (.build z ps) fr σ) d (.ops os ::k) fr σ Q:=by
 refine (da rfl).trans ?_
 show ob ((aj G (.build z ps) fr σ).map fun v=>(v,σ)) _↔ob _ _
 cases aj G (.build z ps) fr σ <;> rfl
theorem Ow {sz:Nat} {z:ai} {ps:List (Nat×bq)}:Ex ip G (.ops (⟨d,none,(.buildA sz z ps)⟩ ::os) ::k) fr σ Q↔qz ip G (aj G (.buildA sz z ps) fr σ) d (.ops os ::k) fr σ Q:=by
 refine (da rfl).trans ?_
 show ob ((aj G (.buildA sz z ps) fr σ).map fun v=>(v,σ)) _↔ob _ _
 cases aj G (.buildA sz z ps) fr σ <;> rfl
theorem x_load {n:aD} {p:bq}:Ex ip G (.ops (⟨d,none,(.load n p)⟩ ::os) ::k) fr σ Q↔qz ip G (aj G (.load n p) fr σ) d (.ops os ::k) fr σ Q:=by
 refine (da rfl).trans ?_
 show ob ((aj G (.load n p) fr σ).map fun v=>(v,σ)) _↔ob _ _
 cases aj G (.load n p) fr σ <;> rfl
theorem Ut {n:aD} {p:bq}:Ex ip G (.ops (⟨d,none,(.loadF n p)⟩ ::os) ::k) fr σ Q↔qz ip G (aj G (.loadF n p) fr σ) d (.ops os ::k) fr σ Q:=by
 refine (da rfl).trans ?_
 show ob ((aj G (.loadF n p) fr σ).map fun v=>(v,σ)) _↔ob _ _
 cases aj G (.loadF n p) fr σ <;> rfl
theorem x_boxV {x:bq}:Ex ip G (.ops (⟨d,none,(.boxV x)⟩ ::os) ::k) fr σ Q↔qz ip G (aj G (.boxV x) fr σ) d (.ops os ::k) fr σ Q:=by
 refine (da rfl).trans ?_
 show ob ((aj G (.boxV x) fr σ).map fun v=>(v,σ)) _↔ob _ _
 cases aj G (.boxV x) fr σ <;> rfl
theorem Us {n:aD} {p:bq}:Ex ip G (.ops (⟨d,none,(.loadV n p)⟩ ::os) ::k) fr σ Q↔qz ip G (aj G (.loadV n p) fr σ) d (.ops os ::k) fr σ Q:=by
 refine (da rfl).trans ?_
 show ob ((aj G (.loadV n p) fr σ).map fun v=>(v,σ)) _↔ob _ _
 cases aj G (.loadV n p) fr σ <;> rfl
theorem x_bin {op:BinOp} {x:bq} {y:bq}:Ex ip G (.ops (⟨d,none,(.bin op x y)⟩ ::os) ::k) fr σ Q↔qz ip G (aj G (.bin op x y) fr σ) d (.ops os ::k) fr σ Q:=by
 refine (da rfl).trans ?_
 show ob ((aj G (.bin op x y) fr σ).map fun v=>(v,σ)) _↔ob _ _
 cases aj G (.bin op x y) fr σ <;> rfl
theorem x_eqb {ng:Bool} {x:bq} {y:bq}:Ex ip G (.ops (⟨d,none,(.eqb ng x y)⟩ ::os) ::k) fr σ Q↔qz ip G (aj G (.eqb ng x y) fr σ) d (.ops os ::k) fr σ Q:=by
 refine (da rfl).trans ?_
 show ob ((aj G (.eqb ng x y) fr σ).map fun v=>(v,σ)) _↔ob _ _
 cases aj G (.eqb ng x y) fr σ <;> rfl
theorem x_eqn {nk:FN} {ng:Bool} {x:bq}:Ex ip G (.ops (⟨d,none,(.eqn nk ng x)⟩ ::os) ::k) fr σ Q↔qz ip G (aj G (.eqn nk ng x) fr σ) d (.ops os ::k) fr σ Q:=by
 refine (da rfl).trans ?_
 show ob ((aj G (.eqn nk ng x) fr σ).map fun v=>(v,σ)) _↔ob _ _
 cases aj G (.eqn nk ng x) fr σ <;> rfl
theorem x_eqs {ks:List CK} {ng:Bool} {x:bq} {y:bq}:Ex ip G (.ops (⟨d,none,(.eqs ks ng x y)⟩ ::os) ::k) fr σ Q↔qz ip G (aj G (.eqs ks ng x y) fr σ) d (.ops os ::k) fr σ Q:=by
 refine (da rfl).trans ?_
 show ob ((aj G (.eqs ks ng x y) fr σ).map fun v=>(v,σ)) _↔ob _ _
 cases aj G (.eqs ks ng x y) fr σ <;> rfl
theorem x_un {op:UnOp} {x:bq}:Ex ip G (.ops (⟨d,none,(.un op x)⟩ ::os) ::k) fr σ Q↔qz ip G (aj G (.un op x) fr σ) d (.ops os ::k) fr σ Q:=by
 refine (da rfl).trans ?_
 show ob ((aj G (.un op x) fr σ).map fun v=>(v,σ)) _↔ob _ _
 cases aj G (.un op x) fr σ <;> rfl
theorem x_conv {cv:ConvK} {x:bq}:Ex ip G (.ops (⟨d,none,(.conv cv x)⟩ ::os) ::k) fr σ Q↔qz ip G (aj G (.conv cv x) fr σ) d (.ops os ::k) fr σ Q:=by
 refine (da rfl).trans ?_
 show ob ((aj G (.conv cv x) fr σ).map fun v=>(v,σ)) _↔ob _ _
 cases aj G (.conv cv x) fr σ <;> rfl
theorem x_mkfn {f:Nat} {fs:List bq} {cs:List bq}:Ex ip G (.ops (⟨d,none,(.mkfn f fs cs)⟩ ::os) ::k) fr σ Q↔qz ip G (aj G (.mkfn f fs cs) fr σ) d (.ops os ::k) fr σ Q:=by
 refine (da rfl).trans ?_
 show ob ((aj G (.mkfn f fs cs) fr σ).map fun v=>(v,σ)) _↔ob _ _
 cases aj G (.mkfn f fs cs) fr σ <;> rfl
theorem Uq {sz:Nat} {x:bq} {lo:Option bq} {hi:Option bq} {mx:Option bq}:Ex ip G (.ops (⟨d,none,(.slice sz x lo hi mx)⟩ ::os) ::k) fr σ Q↔qz ip G (aj G (.slice sz x lo hi mx) fr σ) d (.ops os ::k) fr σ Q:=by
 refine (da rfl).trans ?_
 show ob ((aj G (.slice sz x lo hi mx) fr σ).map fun v=>(v,σ)) _↔ob _ _
 cases aj G (.slice sz x lo hi mx) fr σ <;> rfl
theorem Ot {x:bq} {lo:Option bq} {hi:Option bq}:Ex ip G (.ops (⟨d,none,(.sliceS x lo hi)⟩ ::os) ::k) fr σ Q↔qz ip G (aj G (.sliceS x lo hi) fr σ) d (.ops os ::k) fr σ Q:=by
 refine (da rfl).trans ?_
 show ob ((aj G (.sliceS x lo hi) fr σ).map fun v=>(v,σ)) _↔ob _ _
 cases aj G (.sliceS x lo hi) fr σ <;> rfl
theorem Ou {n sz:Nat} {x:bq} {lo:Option bq} {hi:Option bq}:Ex ip G (.ops (⟨d,none,(.sliceA n sz x lo hi)⟩ ::os) ::k) fr σ Q↔qz ip G (aj G (.sliceA n sz x lo hi) fr σ) d (.ops os ::k) fr σ Q:=by
 refine (da rfl).trans ?_
 show ob ((aj G (.sliceA n sz x lo hi) fr σ).map fun v=>(v,σ)) _↔ob _ _
 cases aj G (.sliceA n sz x lo hi) fr σ <;> rfl
theorem x_nilc {x:bq}:Ex ip G (.ops (⟨d,none,(.nilc x)⟩ ::os) ::k) fr σ Q↔qz ip G (aj G (.nilc x) fr σ) d (.ops os ::k) fr σ Q:=by
 refine (da rfl).trans ?_
 show ob ((aj G (.nilc x) fr σ).map fun v=>(v,σ)) _↔ob _ _
 cases aj G (.nilc x) fr σ <;> rfl
theorem Ur {x:bq}:Ex ip G (.ops (⟨d,none,(.sdata x)⟩ ::os) ::k) fr σ Q↔qz ip G (aj G (.sdata x) fr σ) d (.ops os ::k) fr σ Q:=by
 refine (da rfl).trans ?_
 show ob ((aj G (.sdata x) fr σ).map fun v=>(v,σ)) _↔ob _ _
 cases aj G (.sdata x) fr σ <;> rfl
theorem x_idxV {sz len:Nat} {n:aD} {x y:bq}:Ex ip G (.ops (⟨d,none,(.idxV sz len n x y)⟩ ::os) ::k) fr σ Q↔qz ip G (aj G (.idxV sz len n x y) fr σ) d (.ops os ::k) fr σ Q:=by
 refine (da rfl).trans ?_
 show ob ((aj G (.idxV sz len n x y) fr σ).map fun v=>(v,σ)) _↔ob _ _
 cases aj G (.idxV sz len n x y) fr σ <;> rfl
theorem x_eqp {ng:Bool} {x y:bq}:Ex ip G (.ops (⟨d,none,(.eqp ng x y)⟩ ::os) ::k) fr σ Q↔qz ip G (aj G (.eqp ng x y) fr σ) d (.ops os ::k) fr σ Q:=by
 refine (da rfl).trans ?_
 show ob ((aj G (.eqp ng x y) fr σ).map fun v=>(v,σ)) _↔ob _ _
 cases aj G (.eqp ng x y) fr σ <;> rfl
theorem x_eqa {m:Nat} {ng:Bool} {x y:bq}:Ex ip G (.ops (⟨d,none,(.eqa m ng x y)⟩ ::os) ::k) fr σ Q↔qz ip G (aj G (.eqa m ng x y) fr σ) d (.ops os ::k) fr σ Q:=by
 refine (da rfl).trans ?_
 show ob ((aj G (.eqa m ng x y) fr σ).map fun v=>(v,σ)) _↔ob _ _
 cases aj G (.eqa m ng x y) fr σ <;> rfl
theorem x_arr {n:Nat} {x:bq}:Ex ip G (.ops (⟨d,none,(.arr n x)⟩ ::os) ::k) fr σ Q↔qz ip G (aj G (.arr n x) fr σ) d (.ops os ::k) fr σ Q:=by
 refine (da rfl).trans ?_
 show ob ((aj G (.arr n x) fr σ).map fun v=>(v,σ)) _↔ob _ _
 cases aj G (.arr n x) fr σ <;> rfl
theorem Ov {off:Nat} {x:bq}:Ex ip G (.ops (⟨d,none,(.fieldA off x)⟩ ::os) ::k) fr σ Q↔qz ip G (aj G (.fieldA off x) fr σ) d (.ops os ::k) fr σ Q:=by
 refine (da rfl).trans ?_
 show ob ((aj G (.fieldA off x) fr σ).map fun v=>(v,σ)) _↔ob _ _
 cases aj G (.fieldA off x) fr σ <;> rfl
theorem Uu {off:Nat} {n:aD} {x:bq}:Ex ip G (.ops (⟨d,none,(.field off n x)⟩ ::os) ::k) fr σ Q↔qz ip G (aj G (.field off n x) fr σ) d (.ops os ::k) fr σ Q:=by
 refine (da rfl).trans ?_
 show ob ((aj G (.field off n x) fr σ).map fun v=>(v,σ)) _↔ob _ _
 cases aj G (.field off n x) fr σ <;> rfl
theorem x_idxA {sz:Nat} {ar:aD} {x:bq} {i:bq}:Ex ip G (.ops (⟨d,none,(.idxA sz ar x i)⟩ ::os) ::k) fr σ Q↔qz ip G (aj G (.idxA sz ar x i) fr σ) d (.ops os ::k) fr σ Q:=by
 refine (da rfl).trans ?_
 show ob ((aj G (.idxA sz ar x i) fr σ).map fun v=>(v,σ)) _↔ob _ _
 cases aj G (.idxA sz ar x i) fr σ <;> rfl
theorem x_idxS {x:bq} {i:bq}:Ex ip G (.ops (⟨d,none,(.idxS x i)⟩ ::os) ::k) fr σ Q↔qz ip G (aj G (.idxS x i) fr σ) d (.ops os ::k) fr σ Q:=by
 refine (da rfl).trans ?_
 show ob ((aj G (.idxS x i) fr σ).map fun v=>(v,σ)) _↔ob _ _
 cases aj G (.idxS x i) fr σ <;> rfl
theorem Lz {x:bq} {i:Nat}:Ex ip G (.ops (⟨d,none,(.extract x i)⟩ ::os) ::k) fr σ Q↔qz ip G (aj G (.extract x i) fr σ) d (.ops os ::k) fr σ Q:=by
 refine (da rfl).trans ?_
 show ob ((aj G (.extract x i) fr σ).map fun v=>(v,σ)) _↔ob _ _
 cases aj G (.extract x i) fr σ <;> rfl
theorem x_len {st:Bool} {x:bq}:Ex ip G (.ops (⟨d,none,(.len st x)⟩ ::os) ::k) fr σ Q↔qz ip G (aj G (.len st x) fr σ) d (.ops os ::k) fr σ Q:=by
 refine (da rfl).trans ?_
 show ob ((aj G (.len st x) fr σ).map fun v=>(v,σ)) _↔ob _ _
 cases aj G (.len st x) fr σ <;> rfl
theorem x_max2 {ng:Bool} {x:bq} {y:bq}:Ex ip G (.ops (⟨d,none,(.max2 ng x y)⟩ ::os) ::k) fr σ Q↔qz ip G (aj G (.max2 ng x y) fr σ) d (.ops os ::k) fr σ Q:=by
 refine (da rfl).trans ?_
 show ob ((aj G (.max2 ng x y) fr σ).map fun v=>(v,σ)) _↔ob _ _
 cases aj G (.max2 ng x y) fr σ <;> rfl
theorem x_ext {ek:Dg} {xs:List bq}:Ex ip G (.ops (⟨d,none,(.ext ek xs)⟩ ::os) ::k) fr σ Q↔qz ip G (aj G (.ext ek xs) fr σ) d (.ops os ::k) fr σ Q:=by
 refine (da rfl).trans ?_
 show ob ((aj G (.ext ek xs) fr σ).map fun v=>(v,σ)) _↔ob _ _
 cases aj G (.ext ek xs) fr σ <;> rfl
theorem F5 {sz len:Nat} {z:ai} {ps:List (Nat×bq)}:Ex ip G (.ops (⟨d,none, .buildSl false sz len z ps⟩ ::os) ::k) fr σ Q↔qz ip G (aj G (.buildSl false sz len z ps) fr σ) d (.ops os ::k) fr σ Q:=by
 refine (da rfl).trans ?_
 show ob ((aj G (.buildSl false sz len z ps) fr σ).map fun v=>(v,σ)) _↔ob _ _
 cases aj G (.buildSl false sz len z ps) fr σ <;> rfl
theorem x_box {x:bq}:Ex ip G (.ops (⟨d,none, .box x⟩ ::os) ::k) fr σ Q↔Um ip G (bz ip G (fun _ _ _=>none) (.box x) fr σ) d (.ops os ::k) fr Q:=da rfl
theorem x_new {z:ai}:Ex ip G (.ops (⟨d,none, .new z⟩ ::os) ::k) fr σ Q↔Um ip G (bz ip G (fun _ _ _=>none) (.new z) fr σ) d (.ops os ::k) fr Q:=da rfl
theorem F6 {sz len:Nat} {z:ai} {ps:List (Nat×bq)}:Ex ip G (.ops (⟨d,none, .buildSl true sz len z ps⟩ ::os) ::k) fr σ Q↔Um ip G (bz ip G (fun _ _ _=>none) (.buildSl true sz len z ps) fr σ) d (.ops os ::k) fr Q:=da rfl
theorem Oq {n:Nat} {p v:bq}:Ex ip G (.ops (⟨d,none, .storeS n p v⟩ ::os) ::k) fr σ Q↔Um ip G (fN σ n (val G fr p) (val G fr v)) d (.ops os ::k) fr Q:=da rfl
theorem Up {n:Nat} {p v:bq}:Ex ip G (.ops (⟨d,none, .store n p v⟩ ::os) ::k) fr σ Q↔Um ip G (bz ip G (fun _ _ _=>none) (.store n p v) fr σ) d (.ops os ::k) fr Q:=da rfl
theorem x_prim {pk:AT} {xs:List bq}:Ex ip G (.ops (⟨d,none, .prim pk xs⟩ ::os) ::k) fr σ Q↔Um ip G (gG pk σ (xs.map (val G fr))) d (.ops os ::k) fr Q:=da rfl
theorem Ox {sz bs:Nat} {st:Bool} {x y:bq}:Ex ip G (.ops (⟨d,none, .append sz bs st x y⟩ ::os) ::k) fr σ Q↔Um ip G (bz ip G (fun _ _ _=>none) (.append sz bs st x y) fr σ) d (.ops os ::k) fr Q:=da rfl
end
end Go.Ab
namespace Go.Ab
section
variable {ip:Nat->Option aq} {G:Nat->ai} {fr:Fr} {σ:ag}
def PY (c a b:AV):Option AV:=match c with
 | .bool t=>some (if t=true then a else b)
 | _=>none
def boxOf (v:AV):Option AV:=if v.known=true then some (.vptr v.cells 0) else none
def J7 (n:aD) (p:AV):Option AV:=match p with
 | .vptr cs off=>dG cs off n
 | _=>none
def eqbOf (neg:Bool) (x y:AV):Option AV:=match x,y with
 | .bool a, .bool b=>some (.bool (if neg then !(a == b) else a == b))
 | _,_=>none
def eqsOf (ks:List CK) (neg:Bool) (x y:AV):Option AV:=match x,y with
 | .agg a, .agg b=>if a.length=ks.length/\b.length=ks.length then (ee ks a b).map fun t=> .bool (if neg then !t else t) else none
 | _,_=>none
def intOf (k:IntKind) (x:AV):Option AV:=match x with
 | .int _ n=>some (.int k (k.wrap n))
 | .lit v=>x9 k v
 | _=>none
def Ax (x:AV):Option AV:=match x with
 | .int _ n=>some (.lit (.float .f64 (FloatKind.f64.nearest n)))
 | _=>none
def O3 (x:AV):Option AV:=match x with
 | .str s=>some (.str s)
 | _=>none
def zM (x:AV):Option AV:=match x with
 | .str s=>some (.vsl (af s) none)
 | _=>none
def gu (r:Option (ai)):Option AV:=match r with
 | some cs=>(bytesOf cs).map .str
 | none=>none
def ck (x:AV) (lo hi:Option (Option Int)):Option AV:=match x,lo,hi with
 | .str s,some l,some h=>match bounds s.length l h with
  | some (a,b)=>some (.str ((s.take b).drop a))
  | none=>none
 | _,_,_=>none
def slice3 (sz:Nat) (x:AV) (lo hi mx:Option (Option Int)):Option AV:=match lo,hi,mx with
 | some l,some h,some m=>dd sz x l h m
 | _,_,_=>none
def yE (off:Nat) (x:AV):Option AV:=match x with
 | .ptr b o=>some (.ptr b (o+off))
 | .vptr cs o=>some (.vptr cs (o+off))
 | _=>none
def Ku (off:Nat) (n:aD) (x:AV):Option AV:=match x with
 | .agg cs=>dG cs off n
 | _=>none
def cC (x i:AV):Option AV:=match x,i with
 | .str s, .int _ i=>if 0<=i then match s[i.toNat]? with
   | some b=>some (.int .u8 b.toNat)
   | none=>none
  else none
 | _,_=>none
def AB (x:AV) (i:Nat):Option AV:=match x with
 | .tup vs=>vs[i]?
 | _=>none
def lenS (x:AV):Option AV:=match x with
 | .str s=>some (.int .i64 s.length)
 | _=>none
def lenL (x:AV):Option AV:=match x with
 | .str _=>none
 | v=>match lenOf v with
  | some n=>some (.int .i64 n)
  | none=>none
def Qk (neg:Bool) (x y:AV):Option AV:=match x,y with
 | .int k a, .int k' b=>if k=k' then some (.int k (if neg then (if b < a then b else a) else (if b > a then b else a))) else none
 | _,_=>none
theorem VR {c a b:bq}:aj G (.pick c a b) fr σ=PY (val G fr c) (val G fr a) (val G fr b):=rfl
theorem PX {z:ai} {ps:List (Nat×Nat×bq)}:aj G (.build z ps) fr σ=(g9 z (ps.map fun (o,s,x)=>(o,s,val G fr x))).map .agg:=rfl
theorem Ms {sz:Nat} {z:ai} {ps:List (Nat×bq)}:aj G (.buildA sz z ps) fr σ=(g9 z (ps.map fun (i,x)=>(i*sz,sz,val G fr x))).map .agg:=rfl
theorem VV {n:aD} {p:bq}:aj G (.load n p) fr σ=ec σ (val G fr p) n:=rfl
theorem V3 {x:bq}:aj G (.boxV x) fr σ=boxOf (val G fr x):=rfl
theorem PU {n:aD} {p:bq}:aj G (.loadF n p) fr σ=eD σ (val G fr p) n:=rfl
theorem Nl {fr:Fr} {σ:ag}:ke fr [] σ=σ:=rfl
theorem Hv {fr:Fr} {σ:ag} {t:Nat} {ts:List Nat}:ke fr (t ::ts) σ=ke fr ts (σ.freezeV (fr.get t)):=rfl
theorem RR {σ:ag} {b o:Nat}:σ.freezeV (.ptr b o)=σ.freeze1 b:=rfl
theorem Xv {σ:ag} {b o l s:Nat} {c:aD}:σ.freezeV (.sl b o l s c)=σ.freeze1 b:=rfl
theorem Nk {σ:ag}:σ.freezeV .nils=σ:=rfl
theorem U6 {σ:ag} {b o n:Nat}:eD σ (.ptr b o) (some (n+1))=match σ.get b with
  | some (.frz cs)=>dG cs o (some (n+1))
  | _=>none:=rfl
theorem O6 {σ:ag} {b o:Nat}:eD σ (.ptr b o) none=match σ.get b with
  | some (.frz cs)=>dG cs o none
  | _=>none:=rfl
theorem U5 {σ:ag} {els:ai} {c:aD}:eD σ (.vsl els c) (some 0)=some (.vsl els c):=rfl
theorem O7 {σ:ag}:eD σ .nils (some 0)=some .nils:=rfl
theorem RQ {σ:ag} {l:ai} {c:aD}:σ.freezeV (.vsl l c)=σ:=rfl
theorem frz1 {σ:ag} {b:Nat}:σ.freeze1 b=match σ.get b with
  | some (.own cs)=>σ.set b (.frz cs)
  | _=>σ:=rfl
theorem PT {n:aD} {p:bq}:aj G (.loadV n p) fr σ=J7 n (val G fr p):=rfl
theorem po_bin {op:BinOp} {x y:bq}:aj G (.bin op x y) fr σ=bin op (val G fr x) (val G fr y):=rfl
theorem po_eqb {neg:Bool} {x y:bq}:aj G (.eqb neg x y) fr σ=eqbOf neg (val G fr x) (val G fr y):=rfl
theorem po_eqn {k:FN} {neg:Bool} {x:bq}:aj G (.eqn k neg x) fr σ=(ja k (val G fr x)).map fun t=> .bool (if neg=true then !t else t):=rfl
theorem po_eqs {ks:List CK} {neg:Bool} {x y:bq}:aj G (.eqs ks neg x y) fr σ=eqsOf ks neg (val G fr x) (val G fr y):=rfl
theorem po_un {op:UnOp} {x:bq}:aj G (.un op x) fr σ=un op (val G fr x):=rfl
theorem po_int {k:IntKind} {x:bq}:aj G (.conv (.int k) x) fr σ=intOf k (val G fr x):=rfl
theorem po_flo {x:bq}:aj G (.conv .flo x) fr σ=Ax (val G fr x):=rfl
theorem VQ {x:bq}:aj G (.conv .same x) fr σ=O3 (val G fr x):=rfl
theorem GJ {x:bq}:aj G (.conv .toBytes x) fr σ=zM (val G fr x):=rfl
theorem GK {x:bq}:aj G (.conv .ofBytes x) fr σ=gu (rowOf σ 1 (val G fr x)):=rfl
theorem VT {f:Nat} {a c:List bq}:aj G (.mkfn f a c) fr σ=some (.fn f (a.map (val G fr)) (c.map (val G fr))):=rfl
theorem PR {sz:Nat} {x:bq} {lo hi mx:Option bq}:aj G (.slice sz x lo hi mx) fr σ=slice3 sz (val G fr x) (fQ (lo.map (val G fr))) (fQ (hi.map (val G fr))) (fQ (mx.map (val G fr))):=rfl
theorem Mp {x:bq} {lo hi:Option bq}:aj G (.sliceS x lo hi) fr σ=ck (val G fr x) (fQ (lo.map (val G fr))) (fQ (hi.map (val G fr))):=rfl
def A6 (σ:ag) (n sz:Nat) (x:AV) (lo hi:Option (Option Int)):Option AV:=match lo,hi with
 | some l,some h=>gR σ n sz x l h
 | _,_=>none
theorem Mq {n sz:Nat} {x:bq} {lo hi:Option bq}:aj G (.sliceA n sz x lo hi) fr σ=A6 σ n sz (val G fr x) (fQ (lo.map (val G fr))) (fQ (hi.map (val G fr))):=rfl
theorem po_eqp {ng:Bool} {x y:bq}:aj G (.eqp ng x y) fr σ=AE σ ng (val G fr x) (val G fr y):=rfl
theorem po_eqa {m:Nat} {ng:Bool} {x y:bq}:aj G (.eqa m ng x y) fr σ=qP m ng (val G fr x) (val G fr y):=rfl
theorem VS {x:bq}:aj G (.nilc x) fr σ=cy (val G fr x):=rfl
theorem PS {x:bq}:aj G (.sdata x) fr σ=rW (val G fr x):=rfl
theorem VZ {sz len:Nat} {n:aD} {x y:bq}:aj G (.idxV sz len n x y) fr σ=yk sz len n (val G fr x) (val G fr y):=rfl
theorem po_arr {n:Nat} {x:bq}:aj G (.arr n x) fr σ=FE n (val G fr x):=rfl
theorem Mr {off:Nat} {x:bq}:aj G (.fieldA off x) fr σ=yE off (val G fr x):=rfl
theorem PV {off:Nat} {n:aD} {x:bq}:aj G (.field off n x) fr σ=Ku off n (val G fr x):=rfl
theorem V1 {sz:Nat} {ar:aD} {x i:bq}:aj G (.idxA sz ar x i) fr σ=idxOf sz ar (val G fr x) (val G fr i):=rfl
theorem V0 {x i:bq}:aj G (.idxS x i) fr σ=cC (val G fr x) (val G fr i):=rfl
theorem GL {x:bq} {i:Nat}:aj G (.extract x i) fr σ=AB (val G fr x) i:=rfl
theorem VW {x:bq}:aj G (.len true x) fr σ=lenS (val G fr x):=by
 show (match val G fr x with | .str s=>if true=true then some (AV.int .i64 s.length) else none | v=>if true=true then none else _)=_
 cases val G fr x <;> rfl
theorem VY {x:bq}:aj G (.len false x) fr σ=lenL (val G fr x):=by
 show (match val G fr x with | .str s=>if false=true then some (AV.int .i64 s.length) else none | v=>if false=true then none else _)=_
 cases val G fr x <;> rfl
theorem VU {neg:Bool} {x y:bq}:aj G (.max2 neg x y) fr σ=Qk neg (val G fr x) (val G fr y):=rfl
theorem po_ext {k:Dg} {xs:List bq}:aj G (.ext k xs) fr σ=c9 k (xs.map (val G fr)):=rfl
theorem EH (l:ai) (c:aD):lenL (.vsl l c)=some (.int .i64 l.length):=rfl
def KG (sz len zlen:Nat) (cs:Option (ai)):Option AV:=match cs with
 | some cs=>if zlen=sz/\cs.all AV.notAgg=true then some (.vsl (chunks sz len cs) (some len)) else none
 | none=>none
theorem V2 {sz:Nat} {z:ai}:aj G (.buildSl false sz 0 z []) fr σ=some (.vsl [] (some 0)):=rfl
theorem po_bsl {sz len:Nat} {z:ai} {ps:List (Nat×bq)}:aj G (.buildSl false sz (len+1) z ps) fr σ=KG sz (len+1) z.length (g9 ((List.range (len+1)).flatMap fun _=>z) (ps.map fun (i,x)=>(i*sz,sz,val G fr x))):=by
 simp only [aj,KG]
 rw [if_neg aa]
 generalize g9 _ _=y
 cases y <;> rfl
theorem MS:lenL .nils=some (.int .i64 0):=rfl
theorem WN:lenL .e0=some (.int .i64 0):=rfl
theorem WM (b off n sz:Nat) (c:aD):lenL (.sl b off n sz c)=some (.int .i64 n):=rfl
theorem Fw:(AV.undef).cells= [(AV.undef)]:=rfl
theorem EI:(AV.undef).known=false:=rfl
theorem MD:(AV.undef).one=false:=rfl
theorem Bp:(AV.undef).notAgg=true:=rfl
theorem HU {b:Bool}:(AV.bool b).cells= [(AV.bool b)]:=rfl
theorem Hf {b:Bool}:(AV.bool b).known=true:=rfl
theorem Qb {b:Bool}:(AV.bool b).one=true:=rfl
theorem Es {b:Bool}:(AV.bool b).notAgg=true:=rfl
theorem NH {k:IntKind} {n:Int}:(AV.int k n).cells= [(AV.int k n)]:=rfl
theorem MY {k:IntKind} {n:Int}:(AV.int k n).known=true:=rfl
theorem Wm {k:IntKind} {n:Int}:(AV.int k n).one=true:=rfl
theorem G0 {k:IntKind} {n:Int}:(AV.int k n).notAgg=true:=rfl
theorem NC {s:aG}:(AV.str s).cells= [(AV.str s)]:=rfl
theorem MV {s:aG}:(AV.str s).known=true:=rfl
theorem Wj {s:aG}:(AV.str s).one=true:=rfl
theorem GX {s:aG}:(AV.str s).notAgg=true:=rfl
theorem NG {v:Value}:(AV.lit v).cells= [(AV.lit v)]:=rfl
theorem MX {v:Value}:(AV.lit v).known=true:=rfl
theorem Wl {v:Value}:(AV.lit v).one=true:=rfl
theorem GZ {v:Value}:(AV.lit v).notAgg=true:=rfl
theorem SG {f:Nat} {a:ai} {c:ai}:(AV.fn f a c).cells= [(AV.fn f a c)]:=rfl
theorem Qy {f:Nat} {a:ai} {c:ai}:(AV.fn f a c).known=true:=rfl
theorem one_fn {f:Nat} {a:ai} {c:ai}:(AV.fn f a c).one=true:=rfl
theorem MJ {f:Nat} {a:ai} {c:ai}:(AV.fn f a c).notAgg=true:=rfl
theorem ND {b:Nat} {o:Nat}:(AV.ptr b o).cells= [(AV.ptr b o)]:=rfl
theorem MW {b:Nat} {o:Nat}:(AV.ptr b o).known=true:=rfl
theorem Wk {b:Nat} {o:Nat}:(AV.ptr b o).one=true:=rfl
theorem GY {b:Nat} {o:Nat}:(AV.ptr b o).notAgg=true:=rfl
theorem HR {cs:ai} {o:Nat}:(AV.vptr cs o).cells= [(AV.vptr cs o)]:=rfl
theorem Hd {cs:ai} {o:Nat}:(AV.vptr cs o).known=true:=rfl
theorem P9 {cs:ai} {o:Nat}:(AV.vptr cs o).one=true:=rfl
theorem Ep {cs:ai} {o:Nat}:(AV.vptr cs o).notAgg=true:=rfl
theorem SF {b:Nat} {o:Nat} {n:Nat} {z:Nat} {c:aD}:(AV.sl b o n z c).cells= [(AV.sl b o n z c)]:=rfl
theorem Qx {b:Nat} {o:Nat} {n:Nat} {z:Nat} {c:aD}:(AV.sl b o n z c).known=true:=rfl
theorem one_sl {b:Nat} {o:Nat} {n:Nat} {z:Nat} {c:aD}:(AV.sl b o n z c).one=true:=rfl
theorem MI {b:Nat} {o:Nat} {n:Nat} {z:Nat} {c:aD}:(AV.sl b o n z c).notAgg=true:=rfl
theorem NA {l:ai} {c:aD}:(AV.vsl l c).cells= [(AV.vsl l c)]:=rfl
theorem MT {l:ai} {c:aD}:(AV.vsl l c).known=true:=rfl
theorem Wh {l:ai} {c:aD}:(AV.vsl l c).one=true:=rfl
theorem GV {l:ai} {c:aD}:(AV.vsl l c).notAgg=true:=rfl
theorem HS:(AV.nils).cells= [(AV.nils)]:=rfl
theorem He:(AV.nils).known=true:=rfl
theorem Qa:(AV.nils).one=true:=rfl
theorem Er:(AV.nils).notAgg=true:=rfl
theorem SH:(AV.e0).cells= [(AV.e0)]:=rfl
theorem Qz:(AV.e0).known=true:=rfl
theorem one_e0:(AV.e0).one=true:=rfl
theorem MK:(AV.e0).notAgg=true:=rfl
theorem NB {vs:ai}:(AV.tup vs).cells= [(AV.tup vs)]:=rfl
theorem MU {vs:ai}:(AV.tup vs).known=true:=rfl
theorem Wi {vs:ai}:(AV.tup vs).one=false:=rfl
theorem GW {vs:ai}:(AV.tup vs).notAgg=true:=rfl
theorem NI {cs:ai}:(AV.agg cs).cells=cs:=rfl
theorem MZ {cs:ai}:(AV.agg cs).known=true:=rfl
theorem Wn {cs:ai}:(AV.agg cs).one=false:=rfl
theorem G1 {cs:ai}:(AV.agg cs).notAgg=false:=rfl
theorem DN {cs:ai} {off:Nat}:dG cs off none=cs[off]? :=rfl
theorem ae {cs:ai} {off n:Nat}:dG cs off (some n)=if off+n<=cs.length then some (.agg ((cs.drop off).take n)) else none:=rfl
theorem Qp {α:Type} (l:List α):((l.length:Int) == 0)=l.isEmpty:=by cases l <;> simp <;> omega
theorem Wq {α:Type} (a b:α) (l:List α):(a ::b ::l)[1]? =some b:=rfl
theorem Ig (k:IntKind):(k=k)=True:=eq_self k
theorem rbE_ok {σ:ag} {v:AV} (h:v.closed=true):rbE σ v=some v.er:=by unfold rbE; rw [cj h]; rfl
theorem Pe {σ:ag} {b:Bool}:rbE σ (.bool b)=some (.bool b):=rfl
theorem Vd {σ:ag} {k:IntKind} {n:Int}:rbE σ (.int k n)=some (.int k n):=rfl
theorem Vb {σ:ag} {s:aG}:rbE σ (.str s)=some (.str s):=rfl
theorem XG {b:Bool}:(AV.bool b).er= .bool b:=by simp only [AV.er]
theorem pF {k:IntKind} {n:Int}:(AV.int k n).er= .int k n:=by simp only [AV.er]
theorem BP {s:aG}:(AV.str s).er= .str s:=by simp only [AV.er]
theorem BQ:AV.nils.er= .vsl [] none:=by simp only [AV.er]
theorem er_e0:AV.e0.er= .vsl [] none:=by simp only [AV.er]
theorem er_agg {cs:ai}:(AV.agg cs).er= .agg (dT cs):=by simp only [AV.er]
theorem er_tup {cs:ai}:(AV.tup cs).er= .tup (dT cs):=by simp only [AV.er]
theorem jr {cs:ai} {c:aD}:(AV.vsl cs c).er= .vsl (dT cs) none:=by simp only [AV.er]
theorem Kv {cs:ai} {o:Nat}:(AV.vptr cs o).er= .vptr (dT cs) o:=by simp only [AV.er]
theorem er_fn {f:Nat} {a c:ai}:(AV.fn f a c).er= .fn f (dT a) (dT c):=by simp only [AV.er]
theorem So {v:Value}:(AV.lit v).er= .lit v:=by simp only [AV.er]
theorem Sn:AV.undef.er= .undef:=by simp only [AV.er]
theorem gM:dT []= []:=by simp only [dT]
theorem dD {v:AV} {l:ai}:dT (v ::l)=v.er ::dT l:=by simp only [dT]
theorem SK {st:Bool} {f:AV} {args:ai} {σ:ag} (h1:f.closed=true) (h:aB args=true) :
  fZ ip G st f args σ=(dO ip G f.er (dT args)).map fun r=>(r,σ):=sV h1 h
end
end Go.Ab
namespace Go.Ab
section
variable {ip:Nat->Option aq} {G:Nat->ai}
theorem dC {S:Type} (F:S->Fr) (st:S->ag) (m:S->Nat) (ok:S->Prop) {L:List Nat} {body:an} {k:List Item} {Q:Fr->ag->Prop}
  (step: ∀(b:an) (s:S),ok s->(∀(s':S) (fr':Fr) (σ':ag),m s' < m s->ok s'->keep L fr'=F s'->σ'=st s'->Ex ip G (.inLoop L b ::k) fr' σ' Q)->Ex ip G (.code body :: .inLoop L b ::k) (F s) (st s) Q) :
  ∀s,ok s->Ex ip G (.code body :: .inLoop L body ::k) (F s) (st s) Q:=by
 suffices h: ∀n s,m s < n->ok s->Ex ip G (.code body :: .inLoop L body ::k) (F s) (st s) Q from fun s=>h (m s+1) s (aR _)
 intro n
 induction n with
 | zero=>intro s h; omega
 | succ n ih=>
  intro s hs zA
  refine step body s zA fun s' fr' σ' h1 hok' h2 h3=> ?_
  rw [aT,h2,h3]
  exact ih s' aa hok'
theorem aL {S:Type} (F:S->Fr) (m:S->Nat) (I:S->ag->Prop) {L:List Nat} {body:an} {k:List Item} {Q:Fr->ag->Prop}
  (step: ∀(b:an) (s:S) (σ:ag),I s σ->(∀(s':S) (fr':Fr) (σ':ag),m s' < m s->I s' σ'->keep L fr'=F s'->Ex ip G (.inLoop L b ::k) fr' σ' Q)->Ex ip G (.code body :: .inLoop L b ::k) (F s) σ Q) :
  ∀s σ,I s σ->Ex ip G (.code body :: .inLoop L body ::k) (F s) σ Q:=by
 suffices h: ∀n s σ,m s < n->I s σ->Ex ip G (.code body :: .inLoop L body ::k) (F s) σ Q from fun s σ=>h (m s+1) s σ (aR _)
 intro n
 induction n with
 | zero=>intro s σ h; omega
 | succ n ih=>
  intro s σ hs zA
  refine step body s σ zA fun s' fr' σ' h1 hok' h2=> ?_
  rw [aT,h2]
  exact ih s' σ' aa hok'
theorem oc {sz:Nat} {els:ai} {c:aD} {j:Nat} {e:AV} (h:els[j]? =some e) (hs:e.cells.length=sz):idxOf sz none (.vsl els c) (.int .i64 (j:Int))=some (.vptr e.cells 0):=by
 simp [idxOf,h,hs]
theorem LA {j n:Nat} (h:j < n) (hn:n < 9223372036854775808):IntKind.wrap .i64 ((j:Int)+1)=((j+1:Nat):Int):=by
 have h1:(0:Int)<=(j:Int)+1:=by omega
 have h2:(j:Int)+1 < 9223372036854775808:=by omega
 simp [IntKind.wrap,IntKind.bits,IntKind.signed]
 omega
end
end Go.Ab
namespace Go.Ab
set_option maxRecDepth 100000
def EX0:=J @ex_seq (J @No (J @XC (J @HF (J @Uo (J @ex_ret (J @ex_nil (J @XB (J @Sc (J @HG (J @y_exit (J @y_cond (J @y_call (J @y_no (J @Sd (J @Se (J @Sf (J @Sg (J @Si (J @Sh (J @strip.eq_1 (J @strip.eq_2 (J @UM.eq_1 (J @UM.eq_2 (J @Sk (J @Sj (J @x_mv (J @x_pick (J @Uv (J @Ow (J @x_load (J @x_boxV (J @Us (J @x_bin (J @x_eqb (J @x_eqn (J @x_eqs (J @x_un (J @x_conv (J @x_mkfn (J @Uq (J @Ot (J @Ov (J @Uu (J @x_idxA (J @x_idxS (J @Lz (J @x_len (J @x_max2 (J @x_ext (J @x_box (J @x_new (J @F6 (J @Up (J @Ox (J @F5 (J @VR (J @PX (J @Ms (@V2)))))))))))))))))))))))))))))))))))))))))))))))))))))))))))
def EX1:=J @po_bsl (J @KG.eq_1 (J @KG.eq_2 (J @chunks.eq_1 (J @chunks.eq_2 (J @List.flatMap_cons.{0,0} (J @List.flatMap_nil.{0,0} (J @List.headD_cons.{0} (J @VV (J @V3 (J @PT (J @po_bin (J @po_eqb (J @po_eqn (J @po_eqs (J @po_un (J @po_int (J @VQ (J @GJ (J @GK (J @VT (J @PR (J @Mp (J @Mr (J @PV (J @V1 (J @V0 (J @GL (J @VW (J @VY (J @VU (J @po_ext (J @PY.eq_1 (J @boxOf.eq_1 (J @J7.eq_1 (J @eqbOf.eq_1 (J @eqsOf.eq_1 (J @intOf.eq_1 (J @O3.eq_1 (J @zM.eq_1 (J @gu.eq_1 (J @gu.eq_2 (J @ck.eq_1 (J @slice3.eq_1 (J @yE.eq_1 (J @yE.eq_2 (J @Ku.eq_1 (J @cC.eq_1 (J @AB.eq_1 (J @lenS.eq_1 (J @Qk.eq_1 (J @EH (J @WN (J @MS (J @WM (J @c9.eq_1 (J @ee.eq_1 (J @ee.eq_2 (J @ee.eq_3 (@ee.eq_4)))))))))))))))))))))))))))))))))))))))))))))))))))))))))))
def EX2:=J @bz.eq_1 (J @bz.eq_2 (J @bz.eq_3 (J @bz.eq_4 (J @bz.eq_5 (J @bz.eq_6 (J @bz.eq_7 (J @bz.eq_8 (J @bz.eq_9 (J @val.eq_1 (J @val.eq_2 (J @val.eq_3 (J @val.eq_4 (J @Fr.get.eq_1 (J @look.eq_1 (J @look.eq_2 (J @Fr.put.eq_1 (J @Fr.put.eq_2 (J @keep.eq_1 (J @exitTo.eq_1 (J @exitTo.eq_2 (J @exitTo.eq_3 (J @Option.map_some.{0,0} (J @Option.map_none.{0,0} (J @Option.bind_some.{0,0} (J @List.map_cons.{0,0} (J @List.map_nil.{0,0} (J @Option.getD_some.{0} (J @Option.getD_none.{0} (J @DN (J @ec.eq_1 (J @ec.eq_2 (J @List.getElem?_cons_zero.{0} (J @List.getElem?_cons_succ.{0} (J @Wq (J @List.length_cons.{0} (J @List.length_nil.{0} (J @List.nil_append.{0} (J @List.append_nil.{0} (J @List.cons_append.{0} (J @eW.eq_1 (J @List.range_succ (J @List.range_zero (J @List.zip_cons_cons.{0,0} (J @List.zip_nil_right.{0,0} (J @Nat.zero_add (J @List.take_succ_cons.{0} (J @List.take_zero.{0} (J @List.drop_succ_cons.{0} (J @List.drop_zero.{0} (J @bin.eq_1 (J @bin.eq_2 (J @eX.eq_1 (J @eX.eq_2 (J @eX.eq_3 (J @eX.eq_4 (J @eX.eq_5 (J @eX.eq_6 (J @eX.eq_7 (@eX.eq_8)))))))))))))))))))))))))))))))))))))))))))))))))))))))))))
def EX3:=J @eX.eq_9 (J @eX.eq_10 (J @eX.eq_11 (J @eX.eq_12 (J @eX.eq_13 (J @eX.eq_14 (J @eX.eq_15 (J @oI.eq_1 (J @oI.eq_2 (J @oI.eq_3 (J @oI.eq_4 (J @oI.eq_5 (J @oI.eq_6 (J @oI.eq_7 (J @qb.eq_1 (J @qb.eq_2 (J @qb.eq_3 (J @decide_true (J @decide_false (J @Bool.not_eq_true (J @aX (J @Bool.true_eq_false (J @un.eq_1 (J @un.eq_2 (J @un.eq_3 (J @iB.eq_1 (J @oM.eq_1 (J @oM.eq_2 (J @oM.eq_3 (J @Ig (J @g9.eq_1 (J @g9.eq_2 (J @splice.eq_1 (J @Option.some.injEq.{0} (J @Bool.not_true (J @Bool.not_false (J @ja.eq_1 (J @ja.eq_2 (J @ja.eq_3 (J @ja.eq_4 (J @ja.eq_5 (J @ja.eq_6 (J @ja.eq_7 (J @ja.eq_8 (J @ja.eq_9 (J @ja.eq_10 (J @ja.eq_11 (J @ja.eq_12 (J @ja.eq_13 (J @ja.eq_14 (J @fQ.eq_1 (J @fQ.eq_2 (J @or_self (J @not_true_eq_false (J @not_false_eq_true (J @gt_iff_lt.{0} (J @or_false (J @false_or (J @Nat.not_lt (@nC.eq_1)))))))))))))))))))))))))))))))))))))))))))))))))))))))))))
def EX4:=J @nC.eq_2 (J @nC.eq_3 (J @SK (J @AV.closed.eq_1 (J @AV.closed.eq_2 (J @AV.closed.eq_3 (J @AV.closed.eq_4 (J @AV.closed.eq_5 (J @AV.closed.eq_6 (J @AV.closed.eq_7 (J @AV.closed.eq_8 (J @AV.closed.eq_9 (J @AV.closed.eq_10 (J @AV.closed.eq_11 (J @AV.closed.eq_12 (J @AV.closed.eq_13 (J @AV.closed.eq_14 (J @aB.eq_1 (J @aB.eq_2 (J @aV (J @Bool.and_true (J @Bool.true_and (J @true_implies (J @false_implies (J @imp_self (J @and_true (J @true_and (J @ag.alloc.eq_1 (J @ag.cells.eq_1 (J @ag.get.eq_1 (J @ag.set.eq_1 (J @ag.owned.eq_1 (J @ag.empty.eq_1 (J @List.all_cons.{0} (J @List.all_nil.{0} (J @aE (J @Nat.add_zero (J @Fw (J @EI (J @MD (J @Bp (J @HU (J @Hf (J @Qb (J @Es (J @NH (J @MY (J @Wm (J @G0 (J @NC (J @MV (J @Wj (J @GX (J @NG (J @MX (J @Wl (J @GZ (J @SG (J @Qy (@one_fn)))))))))))))))))))))))))))))))))))))))))))))))))))))))))))
def EX5:=J @MJ (J @ND (J @MW (J @Wk (J @GY (J @HR (J @Hd (J @P9 (J @Ep (J @SF (J @Qx (J @one_sl (J @MI (J @NA (J @MT (J @Wh (J @GV (J @HS (J @He (J @Qa (J @Er (J @SH (J @Qz (J @one_e0 (J @MK (J @NB (J @MU (J @Wi (J @GW (J @NI (J @MZ (J @Wn (J @G1 (J @Qp (J @rbE_ok (J @Pe (J @Vd (J @Vb (J @ak (J @and_self (J @XG (J @pF (J @BP (J @BQ (J @er_e0 (J @er_agg (J @er_tup (J @jr (J @Kv (J @er_fn (J @So (J @Sn (J @gM (@dD)))))))))))))))))))))))))))))))))))))))))))))))))))))
def EXF:=J @ex_frz (J @Ut (J @PU (J @Nl (J @Hv (J @RR (J @Xv (J @Nk (J @U6 (J @O6 (J @U5 (J @O7 (J @RQ (@frz1)))))))))))))
theorem GF {sz bytes:Nat} {σ:ag} {x y:AV} {i:Int}:gG (.insert sz bytes) σ [x, .int .i64 i,y]=yh σ sz bytes x i y:=rfl
theorem Mn {sz bytes:Nat} {z:ai} {σ:ag} {n:Int}:gG (.makeSl sz bytes z) σ [.int .i64 n]=j7 σ sz bytes z n:=rfl
theorem GI {sz:Nat} {z:ai} {σ:ag} {x:AV}:gG (.clear sz z) σ [x]=oD σ sz z x:=rfl
theorem Ej {e:Nat} {σ:ag} {x:AV}:gG (.boxT e) σ [x]=if x.known=true then some (.ptr σ.next 0,(σ.alloc x.cells).addTag σ.next e) else none:=rfl
theorem Ek {e sz bytes:Nat} {σ:ag} {x:AV} {s:aG}:gG (.appT e sz bytes true) σ [x, .str s]=if sz=1 then jt σ e sz bytes x (af s) s.length else none:=rfl
theorem Ei {σ:ag} {n:Int}:gG .mkNZ σ [.int .i64 n]=rh σ n:=rfl
theorem GG {e n:Nat} {σ:ag} {x:AV}:gG (.cvp e n) σ [x]=yO σ e n x:=rfl
theorem Eh {e:Nat} {σ:ag} {x:AV} {n:Int}:gG (.ustr e) σ [x, .int .i64 n]=qS σ e x n:=rfl
theorem GH {sz:Nat} {σ:ag} {x y:AV}:gG (.copy sz) σ [x,y]=jN σ sz x y:=rfl
def EXP:=J @x_prim (J @GF (J @Mn (J @GH (J @GI (J @Ej (J @Ek (J @Ei (J @GG (J @Oq (J @x_eqa (J @po_eqa (J @x_eqp (J @po_eqp (J @Eh (J @x_nilc (J @x_idxV (J @Ur (J @VS (J @VZ (J @PS (J @cy.eq_1 (J @cy.eq_2 (J @Ou (J @x_arr (J @Mq (J @po_arr (J @po_flo (J @A6.eq_1 (J @FE.eq_1 @FE.eq_2)))))))))))))))))))))))))))))
def ax:=J EXP (J EX0 (J EX1 (J EX2 (J EX3 (J EX4 (J EX5 (J @if_true.{1} (J @if_true.{0} (J @if_false.{1} (J @if_false.{0} (J @implies_true.{0} (J @implies_true.{1} (J @forall_const.{0} (J @forall_const.{1} (@ne_eq.{1})))))))))))))))
abbrev Bs:=aG
inductive V | mk (kind n:Int) (s:Bs) (l:List V) (m:List (Bs×V))
abbrev Mem:=Bs×V
def V.kind:V->Int | .mk k _ _ _ _=>k
def V.n:V->Int | .mk _ n _ _ _=>n
def V.s:V->Bs | .mk _ _ s _ _=>s
def V.l:V->List V | .mk _ _ _ l _=>l
def V.m:V->List Mem | .mk _ _ _ _ m=>m
mutual
def V.enc:V->AV
 | .mk k n s l m=> .agg [.int .i64 k, .int .i64 n, .str s, .vsl (vQ l) none, .vsl (vP m) none]
def vQ:List V->ai
 | []=> []
 | v ::r=>v.enc ::vQ r
def vP:List (Bs×V)->ai
 | []=> []
 | (k,v) ::r=> .agg (.str k ::v.enc.cells) ::vP r
end
def bx (x:Mem):AV:= .agg (.str x.1 ::x.2.enc.cells)
theorem sR: ∀l:List V,vQ l=l.map V.enc
 | []=>by simp [vQ]
 | v ::r=>by simp [vQ,sR r]
theorem sQ: ∀l:List Mem,vP l=l.map bx
 | []=>by simp [vP]
 | (k,v) ::r=>by simp [vP,sQ r,bx]
theorem V.enc_eq (v:V):v.enc= .agg [.int .i64 v.kind, .int .i64 v.n, .str v.s, .vsl (v.l.map V.enc) none, .vsl (v.m.map bx) none]:=by
 cases v; rw [V.enc,sR,sQ]; rfl
theorem V.enc_cells (v:V):v.enc.cells= [.int .i64 v.kind, .int .i64 v.n, .str v.s, .vsl (v.l.map V.enc) none, .vsl (v.m.map bx) none]:=by rw [V.enc_eq]; rfl
theorem bJ (x:Mem):(bx x).cells= [.str x.1, .int .i64 x.2.kind, .int .i64 x.2.n, .str x.2.s, .vsl (x.2.l.map V.enc) none, .vsl (x.2.m.map bx) none]:=by
 rw [bx,V.enc_cells]; rfl
theorem V.eta (v:V):V.mk v.kind v.n v.s v.l v.m=v:=by cases v; rfl
theorem V.fold (k n:Int) (s:Bs) (l:List V) (m:List Mem):AV.agg [.int .i64 k, .int .i64 n, .str s, .vsl (l.map V.enc) none, .vsl (m.map bx) none]=(V.mk k n s l m).enc:=by rw [V.enc_eq]; rfl
theorem V.fold1 (k n:Int) (s:Bs) (m:List Mem):AV.agg [.int .i64 k, .int .i64 n, .str s, .vsl [] none, .vsl (m.map bx) none]=(V.mk k n s [] m).enc:=V.fold k n s [] m
theorem V.fold2 (k n:Int) (s:Bs) (l:List V):AV.agg [.int .i64 k, .int .i64 n, .str s, .vsl (l.map V.enc) none, .vsl [] none]=(V.mk k n s l []).enc:=V.fold k n s l []
theorem V.fold3 (k n:Int) (s:Bs):AV.agg [.int .i64 k, .int .i64 n, .str s, .vsl [] none, .vsl [] none]=(V.mk k n s [] []).enc:=V.fold k n s [] []
theorem p8 (key:Bs) (k n:Int) (s:Bs) (l:List V) (m:List Mem):AV.agg [.str key, .int .i64 k, .int .i64 n, .str s, .vsl (l.map V.enc) none, .vsl (m.map bx) none]=bx (key,V.mk k n s l m):=by
 rw [bx,V.enc_cells]; rfl
theorem Hb (key:Bs) (k n:Int) (s:Bs) (m:List Mem):AV.agg [.str key, .int .i64 k, .int .i64 n, .str s, .vsl [] none, .vsl (m.map bx) none]=bx (key,V.mk k n s [] m):=p8 key k n s [] m
theorem Ha (key:Bs) (k n:Int) (s:Bs) (l:List V):AV.agg [.str key, .int .i64 k, .int .i64 n, .str s, .vsl (l.map V.enc) none, .vsl [] none]=bx (key,V.mk k n s l []):=p8 key k n s l []
theorem G9 (key:Bs) (k n:Int) (s:Bs):AV.agg [.str key, .int .i64 k, .int .i64 n, .str s, .vsl [] none, .vsl [] none]=bx (key,V.mk k n s [] []):=p8 key k n s [] []
theorem Mem.eta (x:Mem):((x.1,x.2):Mem)=x:=rfl
theorem V.kind_mk (k n:Int) (s:Bs) (l:List V) (m:List Mem):(V.mk k n s l m).kind=k:=rfl
theorem V.n_mk (k n:Int) (s:Bs) (l:List V) (m:List Mem):(V.mk k n s l m).n=n:=rfl
theorem V.s_mk (k n:Int) (s:Bs) (l:List V) (m:List Mem):(V.mk k n s l m).s=s:=rfl
theorem V.l_mk (k n:Int) (s:Bs) (l:List V) (m:List Mem):(V.mk k n s l m).l=l:=rfl
theorem V.m_mk (k n:Int) (s:Bs) (l:List V) (m:List Mem):(V.mk k n s l m).m=m:=rfl
theorem du {α:Type} {f:α->AV} {l:List α} (h: ∀x∈l,(f x).closed=true):aB (l.map f)=true:=by
 induction l with
 | nil=>rfl
 | cons x l ih=>simp only [List.map_cons,aB,ak]; exact ⟨h x (by simp),ih (fun y hy=>h y (by simp [hy]))⟩
theorem ny {α:Type} {f:α->AV} {l:List α} (h: ∀x∈l,(f x).er=f x):dT (l.map f)=l.map f:=by
 induction l with
 | nil=>rfl
 | cons x l ih=>simp only [List.map_cons,dT,h x (by simp),ih (fun y hy=>h y (by simp [hy]))]
mutual
theorem V.enc_closed: ∀v:V,v.enc.closed=true
 | .mk k n s l m=>by
  have h1:=oC l
  have h2:=oA m
  simp only [V.enc,AV.closed,aB,Bool.and_true,h1,h2]
theorem oC: ∀l:List V,aB (vQ l)=true
 | []=>by simp [vQ,aB]
 | v ::r=>by simp [vQ,aB,V.enc_closed v,oC r]
theorem oA: ∀l:List (Bs×V),aB (vP l)=true
 | []=>by simp [vP,aB]
 | (k,v) ::r=>by
  have h:=V.enc_closed v
  have h2:aB v.enc.cells=true:=by
   cases v; simp only [V.enc,AV.cells,AV.closed] at h ⊢; exact h
  simp [vP,aB,AV.closed,h2,oA r]
end
mutual
theorem V.enc_er: ∀v:V,v.enc.er=v.enc
 | .mk k n s l m=>by simp only [V.enc,AV.er,dT,yK l,yJ m]
theorem yK: ∀l:List V,dT (vQ l)=vQ l
 | []=>by simp [vQ,dT]
 | v ::r=>by simp [vQ,dT,V.enc_er v,yK r]
theorem yJ: ∀l:List (Bs×V),dT (vP l)=vP l
 | []=>by simp [vP,dT]
 | (k,v) ::r=>by
  have h:=V.enc_er v
  have h2:dT v.enc.cells=v.enc.cells:=by
   cases v; simp only [V.enc,AV.cells,AV.er,AV.agg.injEq] at h ⊢; exact h
  simp [vP,dT,AV.er,h2,yJ r]
end
theorem oy (l:List V):aB (l.map V.enc)=true:=by rw [←sR]; exact oC l
theorem oz (l:List Mem):aB (l.map bx)=true:=by rw [←sQ]; exact oA l
theorem yH (l:List V):dT (l.map V.enc)=l.map V.enc:=by rw [←sR]; exact yK l
theorem yI (l:List Mem):dT (l.map bx)=l.map bx:=by rw [←sQ]; exact yJ l
theorem V.enc_known (v:V):v.enc.known=true:=by rw [V.enc_eq]; rfl
theorem V.enc_one (v:V):v.enc.one=false:=by rw [V.enc_eq]; rfl
theorem V.enc_notAgg (v:V):v.enc.notAgg=false:=by rw [V.enc_eq]; rfl
theorem vf (x:Mem):(bx x).closed=true:=by
 have:=oz [x]
 simpa [aB] using this
theorem J5 (x:Mem):(bx x).er=bx x:=by
 have:=yI [x]
 simpa [dT] using this
theorem G8 (x:Mem):(bx x).known=true:=rfl
theorem EA (x:Mem):(bx x).notAgg=false:=rfl
def strs (l:List Bs):ai:=l.map .str
theorem ou (l:List Bs):aB (l.map AV.str)=true:=du fun _ _=>rfl
theorem yG (l:List Bs):dT (l.map AV.str)=l.map AV.str:=ny fun _ _=>by simp only [AV.er]
theorem B5 (k:IntKind) (l:List Int):aB (l.map (AV.int k))=true:=du fun _ _=>rfl
theorem Ss (k:IntKind) (l:List Int):dT (l.map (AV.int k))=l.map (AV.int k):=ny fun _ _=>by simp only [AV.er]
structure Ev where
 v:V
 id:Bs
 room:Bs
 type:Bs
 sender:Bs
 key:Bs
 isState:Bool
 ts:Int
 depth:Int
 prev:List Bs
 auth:List Bs
 content:V
def Ns (e:Ev):AV:= .agg [.int .i64 e.v.kind, .int .i64 e.v.n, .str e.v.s, .vsl (e.v.l.map V.enc) none, .vsl (e.v.m.map bx) none, .str e.id, .str e.room, .str e.type, .str e.sender, .str e.key,
 .bool e.isState, .int .i64 e.ts, .int .i64 e.depth, .vsl (e.prev.map .str) none, .vsl (e.auth.map .str) none, .int .i64 e.content.kind, .int .i64 e.content.n, .str e.content.s, .vsl (e.content.l.map V.enc) none, .vsl (e.content.m.map bx) none]
theorem Nr (e:Ev):(Ns e).cells= [.int .i64 e.v.kind, .int .i64 e.v.n, .str e.v.s, .vsl (e.v.l.map V.enc) none, .vsl (e.v.m.map bx) none, .str e.id, .str e.room, .str e.type, .str e.sender, .str e.key,
 .bool e.isState, .int .i64 e.ts, .int .i64 e.depth, .vsl (e.prev.map .str) none, .vsl (e.auth.map .str) none, .int .i64 e.content.kind, .int .i64 e.content.n, .str e.content.s, .vsl (e.content.l.map V.enc) none, .vsl (e.content.m.map bx) none]:=rfl
theorem yF (e:Ev):(Ns e).closed=true:=by
 simp only [Ns,AV.closed,aB,oy,oz,ou,aV]
theorem Sm (e:Ev):(Ns e).er=Ns e:=by
 simp only [Ns,AV.er,dT,yH,yI,yG]
theorem Nq (e:Ev):(Ns e).known=true:=rfl
theorem HI (e:Ev):(Ns e).notAgg=false:=rfl
theorem Sl (k n:Int) (s:Bs) (l:List V) (m:List Mem) (id room type sender key:Bs) (st:Bool) (ts depth:Int) (prev auth:List Bs) (k' n':Int) (s':Bs) (l':List V) (m':List Mem) :
  AV.agg [.int .i64 k, .int .i64 n, .str s, .vsl (l.map V.enc) none, .vsl (m.map bx) none, .str id, .str room, .str type, .str sender, .str key,
   .bool st, .int .i64 ts, .int .i64 depth, .vsl (prev.map .str) none, .vsl (auth.map .str) none, .int .i64 k', .int .i64 n', .str s', .vsl (l'.map V.enc) none, .vsl (m'.map bx) none]=
  Ns ⟨V.mk k n s l m,id,room,type,sender,key,st,ts,depth,prev,auth,V.mk k' n' s' l' m'⟩:=rfl
theorem B4 (l:List Ev):aB (l.map Ns)=true:=du fun e _=>yF e
theorem Sr (l:List Ev):dT (l.map Ns)=l.map Ns:=ny fun e _=>Sm e
structure tD where
 type:Bs
 key:Bs
 deriving DecidableEq
def tM (s:tD):AV:= .agg [.str s.type, .str s.key]
theorem Gh (s:tD):(tM s).cells= [.str s.type, .str s.key]:=rfl
theorem DA (s:tD):(tM s).closed=true:=rfl
theorem A5 (s:tD):(tM s).er=tM s:=by simp only [tM,AV.er,dT]
theorem Gg (s:tD):(tM s).known=true:=rfl
theorem Dz (s:tD):(tM s).notAgg=false:=rfl
theorem LM (t k:Bs):AV.agg [.str t, .str k]=tM ⟨t,k⟩:=rfl
theorem B0 (l:List tD):aB (l.map tM)=true:=du fun _ _=>rfl
theorem Sq (l:List tD):dT (l.map tM)=l.map tM:=ny fun s _=>A5 s
theorem bV {α:Type} {f:α->AV} {l:List α} {sz:Nat} {c:aD} {j:Nat} {a:α} (h:l[j]? =some a) (hs:(f a).cells.length=sz) :
  idxOf sz none (.vsl (l.map f) c) (.int .i64 (j:Int))=some (.vptr (f a).cells 0):=oc (by simp [h]) hs
mutual
def V.sz:V->Nat
 | .mk _ _ s l m=>s.length+Di l+vU m+1
def Di:List V->Nat
 | []=>0
 | v ::r=>v.sz+Di r
def vU:List (Bs×V)->Nat
 | []=>0
 | (k,v) ::r=>k.length+v.sz+vU r
end
theorem V.sz_eq (v:V):v.sz=v.s.length+Di v.l+vU v.m+1:=by cases v; rw [V.sz]; rfl
theorem V.sz_pos (v:V):1<=v.sz:=by rw [V.sz_eq]; omega
theorem l9: ∀l:List V,l.length<=Di l
 | []=>by simp [Di]
 | v ::r=>by have:=l9 r; have:=v.sz_pos; simp only [Di,List.length_cons]; omega
theorem nS: ∀l:List Mem,l.length<=vU l
 | []=>by simp [vU]
 | (k,v) ::r=>by have:=nS r; have:=v.sz_pos; simp only [vU,List.length_cons]; omega
theorem gL {v:V}: ∀ {l:List V},v∈l->v.sz<=Di l
 | x ::r,h=>by
  simp only [Di]
  rcases List.mem_cons.1 h with rfl | h
  ·omega
  ·have:=gL h; omega
theorem eT {x:Mem}: ∀ {l:List Mem},x∈l->x.1.length+x.2.sz<=vU l
 | (k,v) ::r,h=>by
  simp only [vU]
  rcases List.mem_cons.1 h with rfl | h
  ·simp only; omega
  ·have:=eT h; omega
def VX:=J @V.enc_cells (J @bJ (J @V.eta (J @Mem.eta (J @V.fold (J @V.fold1 (J @V.fold2 (J @V.fold3 (J @p8 (J @Hb (J @Ha (J @G9 (J @V.kind_mk (J @V.n_mk (J @V.s_mk (J @V.l_mk (J @V.m_mk (J @V.enc_closed (J @V.enc_er (J @oy (J @oz (J @yH (J @yI (J @V.enc_known (J @V.enc_one (J @V.enc_notAgg (J @vf (J @J5 (J @G8 (J @EA (J @ou (J @yG (J @B5 (J @Ss (J @Nr (J @yF (J @Sm (J @Nq (J @HI (J @Sl (J @B4 (J @Sr (J @Gh (J @DA (J @A5 (J @Gg (J @Dz (J @LM (J @B0 (J @Sq (@List.length_map.{0,0}))))))))))))))))))))))))))))))))))))))))))))))))))
def iA (sz:Nat) (ob:aD) (n:Nat):AV:=match ob with
 | none=> .nils
 | some b=> .sl b 0 n sz none
def nL (σ:ag) (sz:Nat) (ob:aD) (n:Nat) (cells:ai):Prop:=match ob with
 | none=>n=0/\cells= []
 | some b=>σ.get b=some (.own cells)/\cells.length=n*sz/\b < σ.next/\0 < n
theorem gC {σ:ag} {cs:ai} {b:Nat} (h:b < σ.next):(σ.alloc cs).get b=σ.get b:=by
 simp only [ag.alloc,ag.get,look]
 rw [if_neg aa]
theorem eJ {σ:ag} {cs:ai}:(σ.alloc cs).get σ.next=some (.own cs):=by
 simp [ag.alloc,ag.get,look]
theorem wu {σ:ag} {x:jS} {b b':Nat} (h:b≠b'):(σ.set b x).get b'=σ.get b':=by
 simp only [ag.set,ag.get,look]
 rw [if_neg h]
theorem pf {σ:ag} {x:jS} {b:Nat}:(σ.set b x).next=σ.next:=rfl
theorem eH {σ:ag} {cs:ai}:(σ.alloc cs).next=σ.next+1:=rfl
theorem ue {σ:ag} {sz n:Nat} {ob:aD} {cells:ai} (h:nL σ sz ob n cells):lenL (iA sz ob n)=some (.int .i64 n):=by
 cases ob with
 | none=>obtain ⟨rfl,_⟩:=h; rfl
 | some b=>rfl
theorem gp {σ:ag} {sz bytes n k:Nat} {ob:aD} {cells new:ai} (h:nL σ sz ob n cells) (hs:0 < sz) (hb:0 < bytes) (hm:(n+k)*bytes<=bg) (hl:new.length=k*sz) (ho:new.all AV.one=true) (hk:0 < k) :
  ∃σ',aJ σ sz bytes (iA sz ob n) new k=some (iA sz (some σ.next) (n+k),σ')/\nL σ' sz (some σ.next) (n+k) (cells ++new)/\σ'.next=σ.next+1/\
   ∀b',b' < σ.next->ob≠some b'->σ'.get b'=σ.get b':=by
 cases ob with
 | none=>
  obtain ⟨rfl,rfl⟩:=h
  refine ⟨σ.alloc new,?_,⟨by simpa using eJ,by simpa using hl,by simp [eH],by omega⟩,rfl,fun b' nu _=>gC nu⟩
  unfold aJ iA
  simp only [lenOf,Nat.zero_add]
  rw [if_pos ⟨hs,hb,by simpa using hm,hl,ho⟩,if_neg aa]
 | some b=>
  obtain ⟨h1,h2,h3,h4⟩:=h
  have fX:b≠σ.next:=by omega
  refine ⟨(σ.set b .dead).alloc (cells ++new),?_,⟨?_,by simp [h2,hl,Nat.add_mul],by simp [eH,pf],by omega⟩,rfl,fun b' nu hne'=> ?_⟩
  ·unfold aJ iA
   simp only [lenOf]
   rw [if_pos ⟨hs,hb,hm,hl,ho⟩,if_pos trivial]
   have:σ.owned b=some cells:=by simp [ag.owned,h1]
   rw [this]
   simp only
   rw [if_neg aa,if_pos aa]
   rfl
  ·exact eJ (σ:=σ.set b .dead)
  ·rw [gC (by rw [pf]; exact nu),wu (by intro hh; exact hne' (by rw [hh]))]
theorem hZ {l:ai}:aB l=true↔∀x∈l,x.closed=true:=by
 induction l with
 | nil=>simp [aB]
 | cons x l ih=>simp [aB,ih]
theorem JB {σ:ag} {d b n sz:Nat} {cells:ai} (h:σ.cells b=some cells) (h2:cells.length=n*sz) (hs:0 < sz) (hc:aB cells=true) (ha:cells.all AV.notAgg=true) :
  rb σ (d+1) (.sl b 0 n sz none)=some (.vsl (chunks sz n cells) none):=by
 have ht:List.take (n*sz) (List.drop 0 cells)=cells:=by simp [←h2]
 have e:rb σ (d+1) (.sl b 0 n sz none)=(match σ.cells b with
   | some cs=>
    if 0+n*sz<=cs.length/\0 < sz then
     match dt (rb σ d) ((cs.drop 0).take (n*sz)) with
     | some cs'=>if cs'.all AV.notAgg then some (.vsl (chunks sz n cs') none) else none
     | none=>none
    else none
   | none=>none):=rfl
 rw [e,h]
 simp only
 rw [if_pos ⟨by omega,hs⟩,ht,cP hc]
 simp only
 rw [if_pos ha]
theorem rb_own {σ:ag} {sz n:Nat} {ob:aD} {cells:ai} (h:nL σ sz ob n cells) (hs:0 < sz) (hc:aB cells=true) (ha:cells.all AV.notAgg=true) :
  rb σ bK (iA sz ob n)=some (if n=0 then .nils else .vsl (chunks sz n cells) none):=by
 cases ob with
 | none=>obtain ⟨rfl,_⟩:=h; rfl
 | some b=>
  obtain ⟨h1,h2,h3,h4⟩:=h
  rw [if_neg aa]
  exact JB (d:=23) (by simp [ag.cells,h1]) h2 hs hc ha
end Go.Ab
