/- The abstract machine, said as rules for rewriting. Conditions: none. -/
import Derived.Test.YtdfjgcdkabiljaaGreatDoorMach
import Derived.Test.YtdfjgcdkabiljaaGreatDoorRun
set_option linter.unusedVariables false
set_option linter.unusedSimpArgs false
set_option linter.defProp false
set_option linter.unnecessarySimpa false
namespace Go.Ab
def ob {α:Type} (o:Option α) (K:α→Prop):Prop:=match o with
 | some v=>K v
 | none=>False
@[simp] theorem ob_some {α:Type} (v:α) (K:α→Prop):ob (some v) K↔K v:=Iff.rfl
@[simp] theorem ob_none {α:Type} (K:α→Prop):ob none K↔False:=Iff.rfl
section
variable (ip:Nat→Option IFunc) (G:Nat→List AV)
def Ex (k:List Item) (fr:Fr) (σ:Store) (Q:Fr→Store→Prop):Prop:=∃n fr' σ',run ip G n k fr σ=some (fr',σ')∧Q fr' σ'
open Classical in
noncomputable def callS (f:AV) (args:List AV) (σ:Store):Option (AV×Store):=
 if h: ∃x n,scall ip (run ip G n) f args σ=some x then some h.choose else none
noncomputable def callR (f:AV) (args:List AV):Option AV:=(callS ip G f args .empty).bind fun x=>rbE x.2 x.1
variable {ip G}
theorem scall_det {n m:Nat} {f:AV} {args:List AV} {σ:Store} {x y:AV×Store} (h1:scall ip (run ip G n) f args σ=some x) (h2:scall ip (run ip G m) f args σ=some y):x=y:=by
 have a:=scall_mono (ip:=ip) (run_mono (ip:=ip) (G:=G) (Nat.le_max_left n m)) h1
 have b:=scall_mono (ip:=ip) (run_mono (ip:=ip) (G:=G) (Nat.le_max_right n m)) h2
 rw [a] at b
 exact Option.some.inj b
theorem callS_some {f:AV} {args:List AV} {σ:Store} {x:AV×Store}:callS ip G f args σ=some x↔∃n,scall ip (run ip G n) f args σ=some x:=by
 unfold callS
 constructor
 ·intro h
  split at h
  ·rename_i hh
   simp only [Option.some.injEq] at h
   subst h
   exact hh.choose_spec
  ·simp at h
 ·rintro ⟨n,h⟩
  rw [dif_pos ⟨x,n,h⟩]
  have hh: ∃x n,scall ip (run ip G n) f args σ=some x:=⟨x,n,h⟩
  obtain ⟨m,hm⟩:=hh.choose_spec
  exact congrArg some (scall_det hm h)
theorem ex_step {k k':List Item} {fr fr':Fr} {σ σ':Store} {Q:Fr→Store→Prop} (h: ∀n,run ip G (n+1) k fr σ=run ip G n k' fr' σ'):Ex ip G k fr σ Q↔Ex ip G k' fr' σ' Q:=by
 constructor
 ·rintro ⟨n,a,b,h1,h2⟩
  cases n with
  | zero=>simp [run] at h1
  | succ n=>exact ⟨n,a,b,by rw [←h]; exact h1,h2⟩
 ·rintro ⟨n,a,b,h1,h2⟩
  exact ⟨n+1,a,b,by rw [h]; exact h1,h2⟩
section
variable {fr:Fr} {σ:Store} {Q:Fr→Store→Prop} {k:List Item}
theorem ex_nil:Ex ip G [] fr σ Q↔Q fr σ:=by
 constructor
 ·rintro ⟨n,a,b,h1,h2⟩
  cases n with
  | zero=>simp [run] at h1
  | succ n=>simp only [run,Option.some.injEq,Prod.mk.injEq] at h1; obtain ⟨rfl,rfl⟩:=h1; exact h2
 ·intro h; exact ⟨1,fr,σ,rfl,h⟩
theorem ex_ret:Ex ip G (.code .ret ::k) fr σ Q↔Q fr σ:=by
 constructor
 ·rintro ⟨n,a,b,h1,h2⟩
  cases n with
  | zero=>simp [run] at h1
  | succ n=>simp only [run,Option.some.injEq,Prod.mk.injEq] at h1; obtain ⟨rfl,rfl⟩:=h1; exact h2
 ·intro h; exact ⟨1,fr,σ,rfl,h⟩
theorem ex_inBlock {id:Nat}:Ex ip G (.inBlock id ::k) fr σ Q↔Ex ip G k fr σ Q:=ex_step fun _=>rfl
theorem ex_inLoop {l:List Nat} {c:ICode}:Ex ip G (.inLoop l c ::k) fr σ Q↔Ex ip G (.code c :: .inLoop l c ::k) (keep l fr) σ Q:=ex_step fun _=>rfl
theorem ex_loop {l:List Nat} {c:ICode}:Ex ip G (.code (.loop l c) ::k) fr σ Q↔Ex ip G (.code c :: .inLoop l c ::k) (keep l fr) σ Q:=ex_step fun _=>rfl
theorem ex_keep {l:List Nat} {c:ICode}:Ex ip G (.code (.keep l c) ::k) fr σ Q↔Ex ip G (.code c ::k) (keep l fr) σ Q:=ex_step fun _=>rfl
theorem ex_frz {l:List Nat} {c:ICode}:Ex ip G (.code (.frz l c) ::k) fr σ Q↔Ex ip G (.code c ::k) fr (freezeTs fr l σ) Q:=ex_step fun _=>rfl
theorem ex_skip:Ex ip G (.code .skip ::k) fr σ Q↔Ex ip G k fr σ Q:=ex_step fun _=>rfl
theorem ex_seq {a b:ICode}:Ex ip G (.code (.seq a b) ::k) fr σ Q↔Ex ip G (.code a :: .code b ::k) fr σ Q:=ex_step fun _=>rfl
theorem ex_block {id:Nat} {c:ICode}:Ex ip G (.code (.block id c) ::k) fr σ Q↔Ex ip G (.code c :: .inBlock id ::k) fr σ Q:=ex_step fun _=>rfl
theorem ex_region {ops:List IOper}:Ex ip G (.code (.region ops) ::k) fr σ Q↔Ex ip G (.ops ops ::k) fr σ Q:=ex_step fun _=>rfl
theorem ex_ops_nil:Ex ip G (.ops [] ::k) fr σ Q↔Ex ip G k fr σ Q:=ex_step fun _=>rfl
theorem ex_exit {id:Nat}:Ex ip G (.code (.exit id) ::k) fr σ Q↔ob (exitTo id k) fun k'=>Ex ip G k' fr σ Q:=by
 cases h:exitTo id k with
 | none=>
  simp only [ob_none,iff_false]
  rintro ⟨n,a,b,h1,h2⟩
  cases n with
  | zero=>simp [run] at h1
  | succ n=>simp [run,h] at h1
 | some k'=>
  simp only [ob_some]
  exact ex_step fun n=>by simp [run,h]
def obB (v:AV) (K:Bool→Prop):Prop:=match v with
 | .bool b=>K b
 | _=>False
@[simp] theorem obB_bool (b:Bool) (K:Bool→Prop):obB (.bool b) K↔K b:=Iff.rfl
theorem ex_cond {c:Opd} {a b:ICode}:Ex ip G (.code (.cond c a b) ::k) fr σ Q↔obB (val G fr c) fun t=>if t=true then Ex ip G (.code a ::k) fr σ Q else Ex ip G (.code b ::k) fr σ Q:=by
 cases hv:val G fr c with
 | bool t=>
  simp only [obB_bool]
  rw [ex_step (k':= .code (if t then a else b) ::k) (fr':=fr) (σ':=σ) fun n=>by simp [run,hv]]
  cases t <;> simp
 | _=>
  simp only [obB,iff_false]
  rintro ⟨n,x,y,h1,h2⟩
  cases n with
  | zero=>simp [run] at h1
  | succ n=>simp [run,hv] at h1
def noCall:IOp→Bool
 | .call .. =>false
 | _=>true
theorem doOp_noCall {o:IOp} (h:noCall o=true) (r r':Runs):doOp ip G r o fr σ=doOp ip G r' o fr σ:=by
 cases o with
 | call=>simp [noCall] at h
 | buildSl own=>cases own <;> rfl
 | _=>rfl
def eff (ip:Nat→Option IFunc) (G:Nat→List AV) (o:IOp) (fr:Fr) (σ:Store):Option (AV×Store):=doOp ip G (fun _ _ _=>none) o fr σ
theorem ex_op {d:Option Nat} {o:IOp} {os:List IOper} (h:noCall o=true):Ex ip G (.ops (⟨d,none,o⟩ ::os) ::k) fr σ Q↔ob (eff ip G o fr σ) fun x=>Ex ip G (.ops os ::k) (fr.put d x.1) x.2 Q:=by
 cases hx:eff ip G o fr σ with
 | none=>
  simp only [ob_none,iff_false]
  rintro ⟨n,x,y,h1,h2⟩
  cases n with
  | zero=>simp [run] at h1
  | succ n=>
   have:doOp ip G (run ip G n) o fr σ=none:=(doOp_noCall h _ _).trans hx
   simp [run,wanted,this] at h1
 | some x=>
  simp only [ob_some]
  refine ex_step fun n=> ?_
  have:doOp ip G (run ip G n) o fr σ=some x:=(doOp_noCall h _ _).trans hx
  obtain ⟨v,σ'⟩:=x
  simp [run,wanted,this]
def obG (v:AV) (K:Bool→Prop) (S:Prop):Prop:=match v with
 | .bool b=>K b
 | .tup []=>S
 | _=>False
theorem ex_guard {d:Option Nat} {t:Nat} {b:Bool} {o:IOp} {os:List IOper}:Ex ip G (.ops (⟨d,some (t,b),o⟩ ::os) ::k) fr σ Q↔
  obG (fr.get t) (fun c=>if c=b then Ex ip G (.ops (⟨d,none,o⟩ ::os) ::k) fr σ Q else Ex ip G (.ops os ::k) (fr.put d (.tup [])) σ Q) (Ex ip G (.ops os ::k) (fr.put d (.tup [])) σ Q):=by
 unfold obG
 split
 ·rename_i c hv
  show _↔if c=b then _ else _
  by_cases hcb:c=b
  ·rw [if_pos hcb]
   have hs: ∀n,run ip G (n+1) (.ops (⟨d,some (t,b),o⟩ ::os) ::k) fr σ=run ip G (n+1) (.ops (⟨d,none,o⟩ ::os) ::k) fr σ:=fun n=>by
    simp [run,wanted,hv,hcb]
   constructor
   ·rintro ⟨n,x,y,h1,h2⟩
    cases n with
    | zero=>simp [run] at h1
    | succ n=>exact ⟨n+1,x,y,by rw [←hs]; exact h1,h2⟩
   ·rintro ⟨n,x,y,h1,h2⟩
    cases n with
    | zero=>simp [run] at h1
    | succ n=>exact ⟨n+1,x,y,by rw [hs]; exact h1,h2⟩
  ·rw [if_neg hcb]
   refine ex_step fun n=> ?_
   have:(c == b)=false:=by simp [hcb]
   simp [run,wanted,hv,this]
 ·rename_i hv
  exact ex_step fun n=>by simp [run,wanted,hv]
 ·rename_i h1 h2
  simp only [iff_false]
  rintro ⟨n,x,y,h3,h4⟩
  cases n with
  | zero=>simp [run] at h3
  | succ n=>
   have:wanted (some (t,b)) fr=none:=by
    unfold wanted
    split
    ·rename_i hh; simp at hh
    ·rename_i hh
     simp only [Option.some.injEq,Prod.mk.injEq] at hh
     obtain ⟨rfl,rfl⟩:=hh
     split
     ·rename_i c hc; exact absurd hc (h1 c)
     ·rename_i hc; exact absurd hc h2
     ·rfl
   simp [run,this] at h3
noncomputable def callP (ip:Nat→Option IFunc) (G:Nat→List AV) (strict:Bool) (f:AV) (args:List AV) (σ:Store):Option (AV×Store):=
 (rb σ rbDepth f).bind fun f'=>(mapO (rb σ rbDepth) args).bind fun args'=>(callR ip G f'.er (erL args')).bind fun r=>
  if r.flat || (f.closed && closedL args) then some (r,σ) else if strict then none else some (r,σ.freeze)
theorem callP_some {st:Bool} {f:AV} {args:List AV} {x:AV×Store}:callP ip G st f args σ=some x↔∃n,pcall ip (run ip G n) true st f args σ=some x:=by
 unfold callP pcall
 simp only [if_true]
 cases rb σ rbDepth f with
 | none=>simp
 | some f'=>
  cases mapO (rb σ rbDepth) args with
  | none=>simp
  | some args'=>
   simp only [Option.bind_some]
   constructor
   ·intro h
    rw [Option.bind_eq_some_iff] at h
    obtain ⟨r,h1,h2⟩:=h
    unfold callR rbE at h1
    rw [Option.bind_eq_some_iff] at h1
    obtain ⟨y,h3,h4⟩:=h1
    rw [Option.map_eq_some_iff] at h4
    obtain ⟨r0,h4,rfl⟩:=h4
    obtain ⟨n,h5⟩:=callS_some.1 h3
    refine ⟨n,?_⟩
    rw [h5]
    simp only [h4]
    rw [er_flat] at h2
    exact h2
   ·rintro ⟨n,h⟩
    cases h5:scall ip (run ip G n) f'.er (erL args') .empty with
    | none=>rw [h5] at h; simp at h
    | some y=>
     rw [h5] at h
     have h3:=callS_some.2 ⟨n,h5⟩
     cases h4:rb y.2 rbDepth y.1 with
     | none=>simp [h4] at h
     | some r=>
      have hR:callR ip G f'.er (erL args')=some r.er:=by unfold callR rbE; rw [h3]; simp only [Option.bind_some,h4,Option.map_some]
      rw [hR]
      simp only [Option.bind_some,er_flat]
      simpa [h4] using h
open Classical in
noncomputable def both (ip:Nat→Option IFunc) (G:Nat→List AV) (f:AV) (σ:Store):Bool:=decide (∃n,bothWays ip (run ip G n) f σ=true)
theorem both_some {f:AV}:both ip G f σ=true↔∃n,bothWays ip (run ip G n) f σ=true:=by
 unfold both; simp
noncomputable def callM (ip:Nat→Option IFunc) (G:Nat→List AV) (m:CMode) (f:AV) (args:List AV) (σ:Store):Option (AV×Store):=match m with
 | .shared=>callS ip G f args σ
 | .pure=>callP ip G false f args σ
 | .strict=>callP ip G true f args σ
 | .split=>if noItems args=true then (if both ip G f σ=true then some (.vsl [] (some 0),σ) else none) else callS ip G f args σ
 | .splitS=>if noItems args=true then (if both ip G f σ=true then some (.vsl [] none,σ) else none) else callP ip G true f args σ
theorem callM_some {m:CMode} {f:Opd} {xs:List Opd} {x:AV×Store}:callM ip G m (val G fr f) (xs.map (val G fr)) σ=some x↔∃n,doOp ip G (run ip G n) (.call m f xs) fr σ=some x:=by
 have key: ∀(v:AV×Store),(if both ip G (val G fr f) σ=true then some v else none)=some x↔∃n,(if bothWays ip (run ip G n) (val G fr f) σ=true then some v else none)=some x:=by
  intro v
  constructor
  ·intro h
   split at h <;> simp only [Option.some.injEq,reduceCtorEq] at h
   rename_i hb
   obtain ⟨n,hn⟩:=both_some.1 hb
   exact ⟨n,by rw [if_pos hn,h]⟩
  ·rintro ⟨n,h⟩
   split at h <;> simp only [Option.some.injEq,reduceCtorEq] at h
   rename_i hb
   rw [if_pos (both_some.2 ⟨n,hb⟩),h]
 cases m with
 | shared=>exact callS_some
 | pure=>exact callP_some
 | strict=>exact callP_some
 | split=>
  simp only [callM,doOp]
  by_cases hn:noItems (xs.map (val G fr))=true
  ·simp only [if_pos hn]; exact key _
  ·simp only [if_neg hn]; exact callS_some
 | splitS=>
  simp only [callM,doOp]
  by_cases hn:noItems (xs.map (val G fr))=true
  ·simp only [if_pos hn]; exact key _
  ·simp only [if_neg hn]; exact callP_some
theorem ex_call {d:Option Nat} {m:CMode} {f:Opd} {xs:List Opd} {os:List IOper} :
  Ex ip G (.ops (⟨d,none, .call m f xs⟩ ::os) ::k) fr σ Q↔ob (callM ip G m (val G fr f) (xs.map (val G fr)) σ) fun x=>Ex ip G (.ops os ::k) (fr.put d x.1) x.2 Q:=by
 constructor
 ·rintro ⟨n,a,b,h1,h2⟩
  cases n with
  | zero=>simp [run] at h1
  | succ n=>
   simp only [run,wanted] at h1
   cases hd:doOp ip G (run ip G n) (.call m f xs) fr σ with
   | none=>rw [hd] at h1; simp at h1
   | some x=>
    rw [hd] at h1
    rw [callM_some.2 ⟨n,hd⟩]
    exact ⟨n,a,b,h1,h2⟩
 ·intro h
  cases hc:callM ip G m (val G fr f) (xs.map (val G fr)) σ with
  | none=>rw [hc] at h; exact h.elim
  | some x=>
   rw [hc] at h
   obtain ⟨n,a,b,h1,h2⟩:=h
   obtain ⟨n',hd⟩:=callM_some.1 hc
   refine ⟨max n n'+1,a,b,?_,h2⟩
   have hd':=doOp_mono (ip:=ip) (G:=G) (run_mono (ip:=ip) (G:=G) (Nat.le_max_right n n')) hd
   have h1':=run_mono (ip:=ip) (G:=G) (Nat.le_max_left n n') _ _ _ _ h1
   simp only [run,wanted,hd']
   exact h1'
theorem Ex.mono {Q':Fr→Store→Prop} (h: ∀a b,Q a b→Q' a b) (x:Ex ip G k fr σ Q):Ex ip G k fr σ Q':=by
 obtain ⟨n,a,b,h1,h2⟩:=x
 exact ⟨n,a,b,h1,h _ _ h2⟩
end
theorem callS_of {id:Nat} {F:IFunc} (hF:ip id=some F) {first args caps:List AV} {σ σ':Store} {r:AV}
  (h:Ex ip G [.code F.body] (initFr (first ++args ++caps)) σ fun fr' σ1=>resAll fr' σ1 F.res=some r∧σ1=σ'):callS ip G (.fn id first caps) args σ=some (r,σ'):=by
 obtain ⟨n,fr',σ1,h1,h2,rfl⟩:=h
 refine callS_some.2 ⟨n,?_⟩
 unfold scall
 simp only [hF,h1,h2]
theorem callR_of {id:Nat} {F:IFunc} (hF:ip id=some F) {first args caps:List AV} {r:AV}
  (h:Ex ip G [.code F.body] (initFr (first ++args ++caps)) .empty fun fr' σ1=>(resAll fr' σ1 F.res).bind (rbE σ1)=some r):callR ip G (.fn id first caps) args=some r:=by
 obtain ⟨n,fr',σ1,h1,h2⟩:=h
 rw [Option.bind_eq_some_iff] at h2
 obtain ⟨r0,h3,h4⟩:=h2
 have:=callS_of (ip:=ip) (G:=G) hF (first:=first) (args:=args) (caps:=caps) (σ:= .empty) (σ':=σ1) (r:=r0) ⟨n,fr',σ1,h1,h3,rfl⟩
 unfold callR
 rw [this]
 exact h4
theorem rb_closed' {σ:Store} {d:Nat} {v:AV} (h:v.closed=true):rb σ d v=some v:=by
 cases d <;> simp [rb,h]
theorem mapO_closed' {σ:Store} {d:Nat}: ∀ {l:List AV},closedL l=true→mapO (rb σ d) l=some l
 | [],_=>rfl
 | v ::l,h=>by
  simp only [closedL,Bool.and_eq_true] at h
  simp [mapO,rb_closed' h.1,mapO_closed' h.2]
theorem callP_closed {st:Bool} {f:AV} {args:List AV} {σ:Store} (h1:f.closed=true) (h2:closedL args=true):callP ip G st f args σ=(callR ip G f.er (erL args)).map fun r=>(r,σ):=by
 unfold callP
 rw [rb_closed' h1,mapO_closed' h2]
 simp only [Option.bind_some,h1,h2,Bool.and_self,Bool.or_true,if_true]
 cases callR ip G f.er (erL args) <;> rfl
theorem callP_flat {st:Bool} {f:AV} {args args':List AV} {σ:Store} {r:AV} (h1:f.closed=true) (h2:mapO (rb σ rbDepth) args=some args') (h3:callR ip G f.er (erL args')=some r) (h4:r.flat=true):callP ip G st f args σ=some (r,σ):=by
 unfold callP
 rw [rb_closed' h1,h2]
 simp [h3,h4]
end
end Go.Ab
namespace Go.Ab
def upd (t:Nat) (v:AV):Fr→Fr
 | []=> []
 | (i,b) ::r=>if i=t then (i,v) ::r else (i,b) ::upd t v r
theorem upd_same {t:Nat} {v:AV}: ∀ {fr:Fr},look fr t=some v→upd t v fr=fr
 | [],h=>by simp [look] at h
 | (i,b) ::r,h=>by
  simp only [upd]
  simp only [look] at h
  by_cases hi:i=t
  ·rw [if_pos hi] at h ⊢
   simp only [Option.some.injEq] at h
   rw [h]
  ·rw [if_neg hi] at h ⊢
   rw [upd_same h]
def strip (t:Nat) (c:Bool):List IOper→List IOper
 | []=> []
 | o ::os=>(match o.guard with
   | none=>o
   | some (t',b)=>if t'=t then (if b=c then { o with guard:=none } else { dst:=o.dst,guard:=none,op:= .mv (.const (.tup [])) }) else o) ::
  (if o.dst=some t then os else strip t c os)
section
variable (ip:Nat→Option IFunc) (G:Nat→List AV)
def ExV (o:Option AV) (d:Option Nat) (k:List Item) (fr:Fr) (σ:Store) (Q:Fr→Store→Prop):Prop:=ob o fun v=>Ex ip G k (fr.put d v) σ Q
def ExS (o:Option (AV×Store)) (d:Option Nat) (k:List Item) (fr:Fr) (Q:Fr→Store→Prop):Prop:=ob o fun x=>Ex ip G k (fr.put d x.1) x.2 Q
def ExG (v:AV) (t:Nat) (d:Option Nat) (os0 os:List IOper) (k:List Item) (fr:Fr) (σ:Store) (Q:Fr→Store→Prop):Prop:=
 obG v (fun c=>if c=true then Ex ip G (.ops (strip t true os0) ::k) (upd t (.bool true) fr) σ Q else Ex ip G (.ops (strip t false os0) ::k) (upd t (.bool false) fr) σ Q) (Ex ip G (.ops os ::k) (fr.put d (.tup [])) σ Q)
def ExC (v:AV) (a b:ICode) (k:List Item) (fr:Fr) (σ:Store) (Q:Fr→Store→Prop):Prop:=
 obB v fun c=>if c=true then Ex ip G (.code a ::k) fr σ Q else Ex ip G (.code b ::k) fr σ Q
def ExE (o:Option (List Item)) (fr:Fr) (σ:Store) (Q:Fr→Store→Prop):Prop:=ob o fun k=>Ex ip G k fr σ Q
variable {ip G} {fr:Fr} {σ:Store} {Q:Fr→Store→Prop} {k:List Item} {d:Option Nat} {os:List IOper}
theorem exV_some {v:AV}:ExV ip G (some v) d k fr σ Q↔Ex ip G k (fr.put d v) σ Q:=Iff.rfl
theorem exV_none:ExV ip G none d k fr σ Q↔False:=Iff.rfl
theorem exS_some {v:AV} {σ':Store}:ExS ip G (some (v,σ')) d k fr Q↔Ex ip G k (fr.put d v) σ' Q:=Iff.rfl
theorem exS_none:ExS ip G none d k fr Q↔False:=Iff.rfl
theorem exG_bool {c:Bool} {t:Nat} {os0:List IOper}:ExG ip G (.bool c) t d os0 os k fr σ Q↔if c=true then Ex ip G (.ops (strip t true os0) ::k) (upd t (.bool true) fr) σ Q else Ex ip G (.ops (strip t false os0) ::k) (upd t (.bool false) fr) σ Q:=Iff.rfl
theorem exG_skip {t:Nat} {os0:List IOper}:ExG ip G (.tup []) t d os0 os k fr σ Q↔Ex ip G (.ops os ::k) (fr.put d (.tup [])) σ Q:=Iff.rfl
theorem exC_bool {c:Bool} {a b:ICode}:ExC ip G (.bool c) a b k fr σ Q↔if c=true then Ex ip G (.code a ::k) fr σ Q else Ex ip G (.code b ::k) fr σ Q:=Iff.rfl
theorem exE_some {k':List Item}:ExE ip G (some k') fr σ Q↔Ex ip G k' fr σ Q:=Iff.rfl
theorem y_exit {id:Nat}:Ex ip G (.code (.exit id) ::k) fr σ Q↔ExE ip G (exitTo id k) fr σ Q:=ex_exit
theorem y_cond {c:Opd} {a b:ICode}:Ex ip G (.code (.cond c a b) ::k) fr σ Q↔ExC ip G (val G fr c) a b k fr σ Q:=ex_cond
theorem strip_run {t:Nat} {c:Bool}: ∀(os:List IOper) (n:Nat) (fr:Fr) (σ:Store),fr.get t= .bool c→run ip G n (.ops (strip t c os) ::k) fr σ=run ip G n (.ops os ::k) fr σ
 | [],n,fr,σ,h=>rfl
 | o ::os,0,fr,σ,h=>rfl
 | o ::os,n+1,fr,σ,h=>by
  have ih:=fun n fr σ h=>strip_run (t:=t) (c:=c) os n fr σ h
  have put_ne: ∀(v:AV),o.dst≠some t→(fr.put o.dst v).get t= .bool c:=by
   intro v hne
   cases hd:o.dst with
   | none=>exact h
   | some d=>
    have:d≠t:=by rintro rfl; exact hne hd
    simp only [Fr.put,Fr.get,look,if_neg this]
    exact h
  have tail: ∀(m:Nat) (v:AV) (σ:Store),run ip G m (.ops (if o.dst=some t then os else strip t c os) ::k) (fr.put o.dst v) σ=run ip G m (.ops os ::k) (fr.put o.dst v) σ:=by
   intro m v σ
   by_cases hd:o.dst=some t
   ·rw [if_pos hd]
   ·rw [if_neg hd]; exact ih m _ σ (put_ne v hd)
  obtain ⟨d,g,op⟩:=o
  cases g with
  | none=>simp only [strip,run,wanted,tail]
  | some tb=>
   obtain ⟨t',b⟩:=tb
   simp only [strip]
   by_cases ht:t'=t
   ·subst ht
    rw [if_pos rfl]
    by_cases hb:b=c
    ·subst hb
     rw [if_pos rfl]
     simp only [run,wanted,h,tail,beq_self_eq_true]
    ·rw [if_neg hb]
     have:(c == b)=false:=by simp; exact fun h=>hb h.symm
     simp only [run,wanted,h,this,doOp,pureOp,val,Option.map_some,tail]
   ·rw [if_neg ht]
    simp only [run,tail]
theorem y_guard {t:Nat} {b:Bool} {o:IOp}:Ex ip G (.ops (⟨d,some (t,b),o⟩ ::os) ::k) fr σ Q↔ExG ip G (fr.get t) t d (⟨d,some (t,b),o⟩ ::os) os k fr σ Q:=by
 cases hv:fr.get t with
 | bool c=>
  have hl:look fr t=some (.bool c):=by
   unfold Fr.get at hv
   cases hl:look fr t with
   | none=>simp [hl] at hv
   | some x=>simp [hl] at hv; rw [hv]
  have key:Ex ip G (.ops (strip t c (⟨d,some (t,b),o⟩ ::os)) ::k) fr σ Q↔Ex ip G (.ops (⟨d,some (t,b),o⟩ ::os) ::k) fr σ Q:=by
   unfold Ex
   simp only [strip_run _ _ _ _ hv]
  rw [←key]
  cases c
  ·simp only [ExG,obG,Bool.false_eq_true,if_false,upd_same hl]
  ·simp only [ExG,obG,if_true,upd_same hl]
 | tup vs=>
  rw [ex_guard,hv]
  cases vs <;> rfl
 | _=>
  rw [ex_guard,hv]
  rfl
theorem y_call {m:CMode} {f:Opd} {xs:List Opd}:Ex ip G (.ops (⟨d,none, .call m f xs⟩ ::os) ::k) fr σ Q↔ExS ip G (callM ip G m (val G fr f) (xs.map (val G fr)) σ) d (.ops os ::k) fr Q:=ex_call
theorem y_no:Ex ip G (.ops (⟨d,none, .no⟩ ::os) ::k) fr σ Q↔False:=(ex_op rfl).trans Iff.rfl
theorem x_mv {x:Opd}:Ex ip G (.ops (⟨d,none, .mv x⟩ ::os) ::k) fr σ Q↔Ex ip G (.ops os ::k) (fr.put d (val G fr x)) σ Q:=(ex_op rfl).trans Iff.rfl
theorem x_pick {c:Opd} {a:Opd} {b:Opd}:Ex ip G (.ops (⟨d,none,(.pick c a b)⟩ ::os) ::k) fr σ Q↔ExV ip G (pureOp G (.pick c a b) fr σ) d (.ops os ::k) fr σ Q:=by
 refine (ex_op rfl).trans ?_
 show ob ((pureOp G (.pick c a b) fr σ).map fun v=>(v,σ)) _↔ob _ _
 cases pureOp G (.pick c a b) fr σ <;> rfl
theorem x_build {z:List AV} {ps:List (Nat×Nat×Opd)}:Ex ip G (.ops (⟨d,none,(.build z ps)⟩ ::os) ::k) fr σ Q↔ExV ip G (pureOp G (.build z ps) fr σ) d (.ops os ::k) fr σ Q:=by
 refine (ex_op rfl).trans ?_
 show ob ((pureOp G (.build z ps) fr σ).map fun v=>(v,σ)) _↔ob _ _
 cases pureOp G (.build z ps) fr σ <;> rfl
theorem x_buildA {sz:Nat} {z:List AV} {ps:List (Nat×Opd)}:Ex ip G (.ops (⟨d,none,(.buildA sz z ps)⟩ ::os) ::k) fr σ Q↔ExV ip G (pureOp G (.buildA sz z ps) fr σ) d (.ops os ::k) fr σ Q:=by
 refine (ex_op rfl).trans ?_
 show ob ((pureOp G (.buildA sz z ps) fr σ).map fun v=>(v,σ)) _↔ob _ _
 cases pureOp G (.buildA sz z ps) fr σ <;> rfl
theorem x_load {n:Option Nat} {p:Opd}:Ex ip G (.ops (⟨d,none,(.load n p)⟩ ::os) ::k) fr σ Q↔ExV ip G (pureOp G (.load n p) fr σ) d (.ops os ::k) fr σ Q:=by
 refine (ex_op rfl).trans ?_
 show ob ((pureOp G (.load n p) fr σ).map fun v=>(v,σ)) _↔ob _ _
 cases pureOp G (.load n p) fr σ <;> rfl
theorem x_loadF {n:Option Nat} {p:Opd}:Ex ip G (.ops (⟨d,none,(.loadF n p)⟩ ::os) ::k) fr σ Q↔ExV ip G (pureOp G (.loadF n p) fr σ) d (.ops os ::k) fr σ Q:=by
 refine (ex_op rfl).trans ?_
 show ob ((pureOp G (.loadF n p) fr σ).map fun v=>(v,σ)) _↔ob _ _
 cases pureOp G (.loadF n p) fr σ <;> rfl
theorem x_boxV {x:Opd}:Ex ip G (.ops (⟨d,none,(.boxV x)⟩ ::os) ::k) fr σ Q↔ExV ip G (pureOp G (.boxV x) fr σ) d (.ops os ::k) fr σ Q:=by
 refine (ex_op rfl).trans ?_
 show ob ((pureOp G (.boxV x) fr σ).map fun v=>(v,σ)) _↔ob _ _
 cases pureOp G (.boxV x) fr σ <;> rfl
theorem x_loadV {n:Option Nat} {p:Opd}:Ex ip G (.ops (⟨d,none,(.loadV n p)⟩ ::os) ::k) fr σ Q↔ExV ip G (pureOp G (.loadV n p) fr σ) d (.ops os ::k) fr σ Q:=by
 refine (ex_op rfl).trans ?_
 show ob ((pureOp G (.loadV n p) fr σ).map fun v=>(v,σ)) _↔ob _ _
 cases pureOp G (.loadV n p) fr σ <;> rfl
theorem x_bin {op:BinOp} {x:Opd} {y:Opd}:Ex ip G (.ops (⟨d,none,(.bin op x y)⟩ ::os) ::k) fr σ Q↔ExV ip G (pureOp G (.bin op x y) fr σ) d (.ops os ::k) fr σ Q:=by
 refine (ex_op rfl).trans ?_
 show ob ((pureOp G (.bin op x y) fr σ).map fun v=>(v,σ)) _↔ob _ _
 cases pureOp G (.bin op x y) fr σ <;> rfl
theorem x_eqb {ng:Bool} {x:Opd} {y:Opd}:Ex ip G (.ops (⟨d,none,(.eqb ng x y)⟩ ::os) ::k) fr σ Q↔ExV ip G (pureOp G (.eqb ng x y) fr σ) d (.ops os ::k) fr σ Q:=by
 refine (ex_op rfl).trans ?_
 show ob ((pureOp G (.eqb ng x y) fr σ).map fun v=>(v,σ)) _↔ob _ _
 cases pureOp G (.eqb ng x y) fr σ <;> rfl
theorem x_eqn {nk:NilK} {ng:Bool} {x:Opd}:Ex ip G (.ops (⟨d,none,(.eqn nk ng x)⟩ ::os) ::k) fr σ Q↔ExV ip G (pureOp G (.eqn nk ng x) fr σ) d (.ops os ::k) fr σ Q:=by
 refine (ex_op rfl).trans ?_
 show ob ((pureOp G (.eqn nk ng x) fr σ).map fun v=>(v,σ)) _↔ob _ _
 cases pureOp G (.eqn nk ng x) fr σ <;> rfl
theorem x_eqs {ks:List CK} {ng:Bool} {x:Opd} {y:Opd}:Ex ip G (.ops (⟨d,none,(.eqs ks ng x y)⟩ ::os) ::k) fr σ Q↔ExV ip G (pureOp G (.eqs ks ng x y) fr σ) d (.ops os ::k) fr σ Q:=by
 refine (ex_op rfl).trans ?_
 show ob ((pureOp G (.eqs ks ng x y) fr σ).map fun v=>(v,σ)) _↔ob _ _
 cases pureOp G (.eqs ks ng x y) fr σ <;> rfl
theorem x_un {op:UnOp} {x:Opd}:Ex ip G (.ops (⟨d,none,(.un op x)⟩ ::os) ::k) fr σ Q↔ExV ip G (pureOp G (.un op x) fr σ) d (.ops os ::k) fr σ Q:=by
 refine (ex_op rfl).trans ?_
 show ob ((pureOp G (.un op x) fr σ).map fun v=>(v,σ)) _↔ob _ _
 cases pureOp G (.un op x) fr σ <;> rfl
theorem x_conv {cv:ConvK} {x:Opd}:Ex ip G (.ops (⟨d,none,(.conv cv x)⟩ ::os) ::k) fr σ Q↔ExV ip G (pureOp G (.conv cv x) fr σ) d (.ops os ::k) fr σ Q:=by
 refine (ex_op rfl).trans ?_
 show ob ((pureOp G (.conv cv x) fr σ).map fun v=>(v,σ)) _↔ob _ _
 cases pureOp G (.conv cv x) fr σ <;> rfl
theorem x_mkfn {f:Nat} {fs:List Opd} {cs:List Opd}:Ex ip G (.ops (⟨d,none,(.mkfn f fs cs)⟩ ::os) ::k) fr σ Q↔ExV ip G (pureOp G (.mkfn f fs cs) fr σ) d (.ops os ::k) fr σ Q:=by
 refine (ex_op rfl).trans ?_
 show ob ((pureOp G (.mkfn f fs cs) fr σ).map fun v=>(v,σ)) _↔ob _ _
 cases pureOp G (.mkfn f fs cs) fr σ <;> rfl
theorem x_slice {sz:Nat} {x:Opd} {lo:Option Opd} {hi:Option Opd} {mx:Option Opd}:Ex ip G (.ops (⟨d,none,(.slice sz x lo hi mx)⟩ ::os) ::k) fr σ Q↔ExV ip G (pureOp G (.slice sz x lo hi mx) fr σ) d (.ops os ::k) fr σ Q:=by
 refine (ex_op rfl).trans ?_
 show ob ((pureOp G (.slice sz x lo hi mx) fr σ).map fun v=>(v,σ)) _↔ob _ _
 cases pureOp G (.slice sz x lo hi mx) fr σ <;> rfl
theorem x_sliceS {x:Opd} {lo:Option Opd} {hi:Option Opd}:Ex ip G (.ops (⟨d,none,(.sliceS x lo hi)⟩ ::os) ::k) fr σ Q↔ExV ip G (pureOp G (.sliceS x lo hi) fr σ) d (.ops os ::k) fr σ Q:=by
 refine (ex_op rfl).trans ?_
 show ob ((pureOp G (.sliceS x lo hi) fr σ).map fun v=>(v,σ)) _↔ob _ _
 cases pureOp G (.sliceS x lo hi) fr σ <;> rfl
theorem x_sliceA {n sz:Nat} {x:Opd} {lo:Option Opd} {hi:Option Opd}:Ex ip G (.ops (⟨d,none,(.sliceA n sz x lo hi)⟩ ::os) ::k) fr σ Q↔ExV ip G (pureOp G (.sliceA n sz x lo hi) fr σ) d (.ops os ::k) fr σ Q:=by
 refine (ex_op rfl).trans ?_
 show ob ((pureOp G (.sliceA n sz x lo hi) fr σ).map fun v=>(v,σ)) _↔ob _ _
 cases pureOp G (.sliceA n sz x lo hi) fr σ <;> rfl
theorem x_nilc {x:Opd}:Ex ip G (.ops (⟨d,none,(.nilc x)⟩ ::os) ::k) fr σ Q↔ExV ip G (pureOp G (.nilc x) fr σ) d (.ops os ::k) fr σ Q:=by
 refine (ex_op rfl).trans ?_
 show ob ((pureOp G (.nilc x) fr σ).map fun v=>(v,σ)) _↔ob _ _
 cases pureOp G (.nilc x) fr σ <;> rfl
theorem x_sdata {x:Opd}:Ex ip G (.ops (⟨d,none,(.sdata x)⟩ ::os) ::k) fr σ Q↔ExV ip G (pureOp G (.sdata x) fr σ) d (.ops os ::k) fr σ Q:=by
 refine (ex_op rfl).trans ?_
 show ob ((pureOp G (.sdata x) fr σ).map fun v=>(v,σ)) _↔ob _ _
 cases pureOp G (.sdata x) fr σ <;> rfl
theorem x_idxV {sz len:Nat} {n:Option Nat} {x y:Opd}:Ex ip G (.ops (⟨d,none,(.idxV sz len n x y)⟩ ::os) ::k) fr σ Q↔ExV ip G (pureOp G (.idxV sz len n x y) fr σ) d (.ops os ::k) fr σ Q:=by
 refine (ex_op rfl).trans ?_
 show ob ((pureOp G (.idxV sz len n x y) fr σ).map fun v=>(v,σ)) _↔ob _ _
 cases pureOp G (.idxV sz len n x y) fr σ <;> rfl
theorem x_eqp {ng:Bool} {x y:Opd}:Ex ip G (.ops (⟨d,none,(.eqp ng x y)⟩ ::os) ::k) fr σ Q↔ExV ip G (pureOp G (.eqp ng x y) fr σ) d (.ops os ::k) fr σ Q:=by
 refine (ex_op rfl).trans ?_
 show ob ((pureOp G (.eqp ng x y) fr σ).map fun v=>(v,σ)) _↔ob _ _
 cases pureOp G (.eqp ng x y) fr σ <;> rfl
theorem x_eqa {m:Nat} {ng:Bool} {x y:Opd}:Ex ip G (.ops (⟨d,none,(.eqa m ng x y)⟩ ::os) ::k) fr σ Q↔ExV ip G (pureOp G (.eqa m ng x y) fr σ) d (.ops os ::k) fr σ Q:=by
 refine (ex_op rfl).trans ?_
 show ob ((pureOp G (.eqa m ng x y) fr σ).map fun v=>(v,σ)) _↔ob _ _
 cases pureOp G (.eqa m ng x y) fr σ <;> rfl
theorem x_arr {n:Nat} {x:Opd}:Ex ip G (.ops (⟨d,none,(.arr n x)⟩ ::os) ::k) fr σ Q↔ExV ip G (pureOp G (.arr n x) fr σ) d (.ops os ::k) fr σ Q:=by
 refine (ex_op rfl).trans ?_
 show ob ((pureOp G (.arr n x) fr σ).map fun v=>(v,σ)) _↔ob _ _
 cases pureOp G (.arr n x) fr σ <;> rfl
theorem x_fieldA {off:Nat} {x:Opd}:Ex ip G (.ops (⟨d,none,(.fieldA off x)⟩ ::os) ::k) fr σ Q↔ExV ip G (pureOp G (.fieldA off x) fr σ) d (.ops os ::k) fr σ Q:=by
 refine (ex_op rfl).trans ?_
 show ob ((pureOp G (.fieldA off x) fr σ).map fun v=>(v,σ)) _↔ob _ _
 cases pureOp G (.fieldA off x) fr σ <;> rfl
theorem x_field {off:Nat} {n:Option Nat} {x:Opd}:Ex ip G (.ops (⟨d,none,(.field off n x)⟩ ::os) ::k) fr σ Q↔ExV ip G (pureOp G (.field off n x) fr σ) d (.ops os ::k) fr σ Q:=by
 refine (ex_op rfl).trans ?_
 show ob ((pureOp G (.field off n x) fr σ).map fun v=>(v,σ)) _↔ob _ _
 cases pureOp G (.field off n x) fr σ <;> rfl
theorem x_idxA {sz:Nat} {ar:Option Nat} {x:Opd} {i:Opd}:Ex ip G (.ops (⟨d,none,(.idxA sz ar x i)⟩ ::os) ::k) fr σ Q↔ExV ip G (pureOp G (.idxA sz ar x i) fr σ) d (.ops os ::k) fr σ Q:=by
 refine (ex_op rfl).trans ?_
 show ob ((pureOp G (.idxA sz ar x i) fr σ).map fun v=>(v,σ)) _↔ob _ _
 cases pureOp G (.idxA sz ar x i) fr σ <;> rfl
theorem x_idxS {x:Opd} {i:Opd}:Ex ip G (.ops (⟨d,none,(.idxS x i)⟩ ::os) ::k) fr σ Q↔ExV ip G (pureOp G (.idxS x i) fr σ) d (.ops os ::k) fr σ Q:=by
 refine (ex_op rfl).trans ?_
 show ob ((pureOp G (.idxS x i) fr σ).map fun v=>(v,σ)) _↔ob _ _
 cases pureOp G (.idxS x i) fr σ <;> rfl
theorem x_extract {x:Opd} {i:Nat}:Ex ip G (.ops (⟨d,none,(.extract x i)⟩ ::os) ::k) fr σ Q↔ExV ip G (pureOp G (.extract x i) fr σ) d (.ops os ::k) fr σ Q:=by
 refine (ex_op rfl).trans ?_
 show ob ((pureOp G (.extract x i) fr σ).map fun v=>(v,σ)) _↔ob _ _
 cases pureOp G (.extract x i) fr σ <;> rfl
theorem x_len {st:Bool} {x:Opd}:Ex ip G (.ops (⟨d,none,(.len st x)⟩ ::os) ::k) fr σ Q↔ExV ip G (pureOp G (.len st x) fr σ) d (.ops os ::k) fr σ Q:=by
 refine (ex_op rfl).trans ?_
 show ob ((pureOp G (.len st x) fr σ).map fun v=>(v,σ)) _↔ob _ _
 cases pureOp G (.len st x) fr σ <;> rfl
theorem x_max2 {ng:Bool} {x:Opd} {y:Opd}:Ex ip G (.ops (⟨d,none,(.max2 ng x y)⟩ ::os) ::k) fr σ Q↔ExV ip G (pureOp G (.max2 ng x y) fr σ) d (.ops os ::k) fr σ Q:=by
 refine (ex_op rfl).trans ?_
 show ob ((pureOp G (.max2 ng x y) fr σ).map fun v=>(v,σ)) _↔ob _ _
 cases pureOp G (.max2 ng x y) fr σ <;> rfl
theorem x_ext {ek:ExtK} {xs:List Opd}:Ex ip G (.ops (⟨d,none,(.ext ek xs)⟩ ::os) ::k) fr σ Q↔ExV ip G (pureOp G (.ext ek xs) fr σ) d (.ops os ::k) fr σ Q:=by
 refine (ex_op rfl).trans ?_
 show ob ((pureOp G (.ext ek xs) fr σ).map fun v=>(v,σ)) _↔ob _ _
 cases pureOp G (.ext ek xs) fr σ <;> rfl
theorem x_buildSlV {sz len:Nat} {z:List AV} {ps:List (Nat×Opd)}:Ex ip G (.ops (⟨d,none, .buildSl false sz len z ps⟩ ::os) ::k) fr σ Q↔ExV ip G (pureOp G (.buildSl false sz len z ps) fr σ) d (.ops os ::k) fr σ Q:=by
 refine (ex_op rfl).trans ?_
 show ob ((pureOp G (.buildSl false sz len z ps) fr σ).map fun v=>(v,σ)) _↔ob _ _
 cases pureOp G (.buildSl false sz len z ps) fr σ <;> rfl
theorem x_box {x:Opd}:Ex ip G (.ops (⟨d,none, .box x⟩ ::os) ::k) fr σ Q↔ExS ip G (doOp ip G (fun _ _ _=>none) (.box x) fr σ) d (.ops os ::k) fr Q:=ex_op rfl
theorem x_new {z:List AV}:Ex ip G (.ops (⟨d,none, .new z⟩ ::os) ::k) fr σ Q↔ExS ip G (doOp ip G (fun _ _ _=>none) (.new z) fr σ) d (.ops os ::k) fr Q:=ex_op rfl
theorem x_buildSlO {sz len:Nat} {z:List AV} {ps:List (Nat×Opd)}:Ex ip G (.ops (⟨d,none, .buildSl true sz len z ps⟩ ::os) ::k) fr σ Q↔ExS ip G (doOp ip G (fun _ _ _=>none) (.buildSl true sz len z ps) fr σ) d (.ops os ::k) fr Q:=ex_op rfl
theorem x_storeS {n:Nat} {p v:Opd}:Ex ip G (.ops (⟨d,none, .storeS n p v⟩ ::os) ::k) fr σ Q↔ExS ip G (storeSOf σ n (val G fr p) (val G fr v)) d (.ops os ::k) fr Q:=ex_op rfl
theorem x_store {n:Nat} {p v:Opd}:Ex ip G (.ops (⟨d,none, .store n p v⟩ ::os) ::k) fr σ Q↔ExS ip G (doOp ip G (fun _ _ _=>none) (.store n p v) fr σ) d (.ops os ::k) fr Q:=ex_op rfl
theorem x_prim {pk:PrimK} {xs:List Opd}:Ex ip G (.ops (⟨d,none, .prim pk xs⟩ ::os) ::k) fr σ Q↔ExS ip G (primOf pk σ (xs.map (val G fr))) d (.ops os ::k) fr Q:=ex_op rfl
theorem x_append {sz bs:Nat} {st:Bool} {x y:Opd}:Ex ip G (.ops (⟨d,none, .append sz bs st x y⟩ ::os) ::k) fr σ Q↔ExS ip G (doOp ip G (fun _ _ _=>none) (.append sz bs st x y) fr σ) d (.ops os ::k) fr Q:=ex_op rfl
end
end Go.Ab
namespace Go.Ab
section
variable {ip:Nat→Option IFunc} {G:Nat→List AV} {fr:Fr} {σ:Store}
def pickOf (c a b:AV):Option AV:=match c with
 | .bool t=>some (if t=true then a else b)
 | _=>none
def boxOf (v:AV):Option AV:=if v.known=true then some (.vptr v.cells 0) else none
def loadVOf (n:Option Nat) (p:AV):Option AV:=match p with
 | .vptr cs off=>readAt cs off n
 | _=>none
def eqbOf (neg:Bool) (x y:AV):Option AV:=match x,y with
 | .bool a, .bool b=>some (.bool (if neg then !(a == b) else a == b))
 | _,_=>none
def eqsOf (ks:List CK) (neg:Bool) (x y:AV):Option AV:=match x,y with
 | .agg a, .agg b=>if a.length=ks.length∧b.length=ks.length then (eqCells ks a b).map fun t=> .bool (if neg then !t else t) else none
 | _,_=>none
def intOf (k:IntKind) (x:AV):Option AV:=match x with
 | .int _ n=>some (.int k (k.wrap n))
 | .lit v=>litToInt k v
 | _=>none
def floOf (x:AV):Option AV:=match x with
 | .int _ n=>some (.lit (.float .f64 (FloatKind.f64.nearest n)))
 | _=>none
def sameOf (x:AV):Option AV:=match x with
 | .str s=>some (.str s)
 | _=>none
def toBytesOf (x:AV):Option AV:=match x with
 | .str s=>some (.vsl (u8cells s) none)
 | _=>none
def strOfRow (r:Option (List AV)):Option AV:=match r with
 | some cs=>(bytesOf cs).map .str
 | none=>none
def sliceSOf (x:AV) (lo hi:Option (Option Int)):Option AV:=match x,lo,hi with
 | .str s,some l,some h=>match bounds s.length l h with
  | some (a,b)=>some (.str ((s.take b).drop a))
  | none=>none
 | _,_,_=>none
def slice3 (sz:Nat) (x:AV) (lo hi mx:Option (Option Int)):Option AV:=match lo,hi,mx with
 | some l,some h,some m=>sliceOf sz x l h m
 | _,_,_=>none
def fieldAOf (off:Nat) (x:AV):Option AV:=match x with
 | .ptr b o=>some (.ptr b (o+off))
 | .vptr cs o=>some (.vptr cs (o+off))
 | _=>none
def fieldOf (off:Nat) (n:Option Nat) (x:AV):Option AV:=match x with
 | .agg cs=>readAt cs off n
 | _=>none
def byteAt (x i:AV):Option AV:=match x,i with
 | .str s, .int _ i=>if 0≤i then match s[i.toNat]? with
   | some b=>some (.int .u8 b.toNat)
   | none=>none
  else none
 | _,_=>none
def extractOf (x:AV) (i:Nat):Option AV:=match x with
 | .tup vs=>vs[i]?
 | _=>none
def lenS (x:AV):Option AV:=match x with
 | .str s=>some (.int .i64 s.length)
 | _=>none
def lenL (x:AV):Option AV:=match x with
 | .str _=>none
 | v=>match lenOf v with
  | some n=>some (.int .i64 n)
  | none=>none
def max2Of (neg:Bool) (x y:AV):Option AV:=match x,y with
 | .int k a, .int k' b=>if k=k' then some (.int k (if neg then (if b < a then b else a) else (if b > a then b else a))) else none
 | _,_=>none
theorem po_pick {c a b:Opd}:pureOp G (.pick c a b) fr σ=pickOf (val G fr c) (val G fr a) (val G fr b):=rfl
theorem po_build {z:List AV} {ps:List (Nat×Nat×Opd)}:pureOp G (.build z ps) fr σ=(fillA z (ps.map fun (o,s,x)=>(o,s,val G fr x))).map .agg:=rfl
theorem po_buildA {sz:Nat} {z:List AV} {ps:List (Nat×Opd)}:pureOp G (.buildA sz z ps) fr σ=(fillA z (ps.map fun (i,x)=>(i*sz,sz,val G fr x))).map .agg:=rfl
theorem po_load {n:Option Nat} {p:Opd}:pureOp G (.load n p) fr σ=readPtr σ (val G fr p) n:=rfl
theorem po_boxV {x:Opd}:pureOp G (.boxV x) fr σ=boxOf (val G fr x):=rfl
theorem po_loadF {n:Option Nat} {p:Opd}:pureOp G (.loadF n p) fr σ=readPtrF σ (val G fr p) n:=rfl
theorem frzTs_nil {fr:Fr} {σ:Store}:freezeTs fr [] σ=σ:=rfl
theorem frzTs_cons {fr:Fr} {σ:Store} {t:Nat} {ts:List Nat}:freezeTs fr (t ::ts) σ=freezeTs fr ts (σ.freezeV (fr.get t)):=rfl
theorem frzV_ptr {σ:Store} {b o:Nat}:σ.freezeV (.ptr b o)=σ.freeze1 b:=rfl
theorem frzV_sl {σ:Store} {b o l s:Nat} {c:Option Nat}:σ.freezeV (.sl b o l s c)=σ.freeze1 b:=rfl
theorem frzV_nils {σ:Store}:σ.freezeV .nils=σ:=rfl
theorem rpf_ptr {σ:Store} {b o n:Nat}:readPtrF σ (.ptr b o) (some (n+1))=match σ.get b with
  | some (.frz cs)=>readAt cs o (some (n+1))
  | _=>none:=rfl
theorem rpf_ptr0 {σ:Store} {b o:Nat}:readPtrF σ (.ptr b o) none=match σ.get b with
  | some (.frz cs)=>readAt cs o none
  | _=>none:=rfl
theorem rpf_vsl {σ:Store} {els:List AV} {c:Option Nat}:readPtrF σ (.vsl els c) (some 0)=some (.vsl els c):=rfl
theorem rpf_nils {σ:Store}:readPtrF σ .nils (some 0)=some .nils:=rfl
theorem frzV_vsl {σ:Store} {l:List AV} {c:Option Nat}:σ.freezeV (.vsl l c)=σ:=rfl
theorem frz1 {σ:Store} {b:Nat}:σ.freeze1 b=match σ.get b with
  | some (.own cs)=>σ.set b (.frz cs)
  | _=>σ:=rfl
theorem po_loadV {n:Option Nat} {p:Opd}:pureOp G (.loadV n p) fr σ=loadVOf n (val G fr p):=rfl
theorem po_bin {op:BinOp} {x y:Opd}:pureOp G (.bin op x y) fr σ=bin op (val G fr x) (val G fr y):=rfl
theorem po_eqb {neg:Bool} {x y:Opd}:pureOp G (.eqb neg x y) fr σ=eqbOf neg (val G fr x) (val G fr y):=rfl
theorem po_eqn {k:NilK} {neg:Bool} {x:Opd}:pureOp G (.eqn k neg x) fr σ=(nilOf k (val G fr x)).map fun t=> .bool (if neg=true then !t else t):=rfl
theorem po_eqs {ks:List CK} {neg:Bool} {x y:Opd}:pureOp G (.eqs ks neg x y) fr σ=eqsOf ks neg (val G fr x) (val G fr y):=rfl
theorem po_un {op:UnOp} {x:Opd}:pureOp G (.un op x) fr σ=un op (val G fr x):=rfl
theorem po_int {k:IntKind} {x:Opd}:pureOp G (.conv (.int k) x) fr σ=intOf k (val G fr x):=rfl
theorem po_flo {x:Opd}:pureOp G (.conv .flo x) fr σ=floOf (val G fr x):=rfl
theorem po_same {x:Opd}:pureOp G (.conv .same x) fr σ=sameOf (val G fr x):=rfl
theorem po_toBytes {x:Opd}:pureOp G (.conv .toBytes x) fr σ=toBytesOf (val G fr x):=rfl
theorem po_ofBytes {x:Opd}:pureOp G (.conv .ofBytes x) fr σ=strOfRow (rowOf σ 1 (val G fr x)):=rfl
theorem po_mkfn {f:Nat} {a c:List Opd}:pureOp G (.mkfn f a c) fr σ=some (.fn f (a.map (val G fr)) (c.map (val G fr))):=rfl
theorem po_slice {sz:Nat} {x:Opd} {lo hi mx:Option Opd}:pureOp G (.slice sz x lo hi mx) fr σ=slice3 sz (val G fr x) (optInt (lo.map (val G fr))) (optInt (hi.map (val G fr))) (optInt (mx.map (val G fr))):=rfl
theorem po_sliceS {x:Opd} {lo hi:Option Opd}:pureOp G (.sliceS x lo hi) fr σ=sliceSOf (val G fr x) (optInt (lo.map (val G fr))) (optInt (hi.map (val G fr))):=rfl
def sliceA3 (σ:Store) (n sz:Nat) (x:AV) (lo hi:Option (Option Int)):Option AV:=match lo,hi with
 | some l,some h=>sliceAOf σ n sz x l h
 | _,_=>none
theorem po_sliceA {n sz:Nat} {x:Opd} {lo hi:Option Opd}:pureOp G (.sliceA n sz x lo hi) fr σ=sliceA3 σ n sz (val G fr x) (optInt (lo.map (val G fr))) (optInt (hi.map (val G fr))):=rfl
theorem po_eqp {ng:Bool} {x y:Opd}:pureOp G (.eqp ng x y) fr σ=eqpOf σ ng (val G fr x) (val G fr y):=rfl
theorem po_eqa {m:Nat} {ng:Bool} {x y:Opd}:pureOp G (.eqa m ng x y) fr σ=eqaOf m ng (val G fr x) (val G fr y):=rfl
theorem po_nilc {x:Opd}:pureOp G (.nilc x) fr σ=nilcOf (val G fr x):=rfl
theorem po_sdata {x:Opd}:pureOp G (.sdata x) fr σ=sdataOf (val G fr x):=rfl
theorem po_idxV {sz len:Nat} {n:Option Nat} {x y:Opd}:pureOp G (.idxV sz len n x y) fr σ=idxVOf sz len n (val G fr x) (val G fr y):=rfl
theorem po_arr {n:Nat} {x:Opd}:pureOp G (.arr n x) fr σ=arrOf n (val G fr x):=rfl
theorem po_fieldA {off:Nat} {x:Opd}:pureOp G (.fieldA off x) fr σ=fieldAOf off (val G fr x):=rfl
theorem po_field {off:Nat} {n:Option Nat} {x:Opd}:pureOp G (.field off n x) fr σ=fieldOf off n (val G fr x):=rfl
theorem po_idxA {sz:Nat} {ar:Option Nat} {x i:Opd}:pureOp G (.idxA sz ar x i) fr σ=idxOf sz ar (val G fr x) (val G fr i):=rfl
theorem po_idxS {x i:Opd}:pureOp G (.idxS x i) fr σ=byteAt (val G fr x) (val G fr i):=rfl
theorem po_extract {x:Opd} {i:Nat}:pureOp G (.extract x i) fr σ=extractOf (val G fr x) i:=rfl
theorem po_lenS {x:Opd}:pureOp G (.len true x) fr σ=lenS (val G fr x):=by
 show (match val G fr x with | .str s=>if true=true then some (AV.int .i64 s.length) else none | v=>if true=true then none else _)=_
 cases val G fr x <;> rfl
theorem po_lenL {x:Opd}:pureOp G (.len false x) fr σ=lenL (val G fr x):=by
 show (match val G fr x with | .str s=>if false=true then some (AV.int .i64 s.length) else none | v=>if false=true then none else _)=_
 cases val G fr x <;> rfl
theorem po_max2 {neg:Bool} {x y:Opd}:pureOp G (.max2 neg x y) fr σ=max2Of neg (val G fr x) (val G fr y):=rfl
theorem po_ext {k:ExtK} {xs:List Opd}:pureOp G (.ext k xs) fr σ=extOf k (xs.map (val G fr)):=rfl
theorem lenL_vsl (l:List AV) (c:Option Nat):lenL (.vsl l c)=some (.int .i64 l.length):=rfl
def bslOf (sz len zlen:Nat) (cs:Option (List AV)):Option AV:=match cs with
 | some cs=>if zlen=sz∧cs.all AV.notAgg=true then some (.vsl (chunks sz len cs) (some len)) else none
 | none=>none
theorem po_bsl0 {sz:Nat} {z:List AV}:pureOp G (.buildSl false sz 0 z []) fr σ=some (.vsl [] (some 0)):=rfl
theorem po_bsl {sz len:Nat} {z:List AV} {ps:List (Nat×Opd)}:pureOp G (.buildSl false sz (len+1) z ps) fr σ=bslOf sz (len+1) z.length (fillA ((List.range (len+1)).flatMap fun _=>z) (ps.map fun (i,x)=>(i*sz,sz,val G fr x))):=by
 simp only [pureOp,bslOf]
 rw [if_neg (by omega)]
 generalize fillA _ _=y
 cases y <;> rfl
theorem lenL_nils:lenL .nils=some (.int .i64 0):=rfl
theorem lenL_e0:lenL .e0=some (.int .i64 0):=rfl
theorem lenL_sl (b off n sz:Nat) (c:Option Nat):lenL (.sl b off n sz c)=some (.int .i64 n):=rfl
theorem cells_undef:(AV.undef).cells= [(AV.undef)]:=rfl
theorem known_undef:(AV.undef).known=false:=rfl
theorem one_undef:(AV.undef).one=false:=rfl
theorem notAgg_undef:(AV.undef).notAgg=true:=rfl
theorem cells_bool {b:Bool}:(AV.bool b).cells= [(AV.bool b)]:=rfl
theorem known_bool {b:Bool}:(AV.bool b).known=true:=rfl
theorem one_bool {b:Bool}:(AV.bool b).one=true:=rfl
theorem notAgg_bool {b:Bool}:(AV.bool b).notAgg=true:=rfl
theorem cells_int {k:IntKind} {n:Int}:(AV.int k n).cells= [(AV.int k n)]:=rfl
theorem known_int {k:IntKind} {n:Int}:(AV.int k n).known=true:=rfl
theorem one_int {k:IntKind} {n:Int}:(AV.int k n).one=true:=rfl
theorem notAgg_int {k:IntKind} {n:Int}:(AV.int k n).notAgg=true:=rfl
theorem cells_str {s:List UInt8}:(AV.str s).cells= [(AV.str s)]:=rfl
theorem known_str {s:List UInt8}:(AV.str s).known=true:=rfl
theorem one_str {s:List UInt8}:(AV.str s).one=true:=rfl
theorem notAgg_str {s:List UInt8}:(AV.str s).notAgg=true:=rfl
theorem cells_lit {v:Value}:(AV.lit v).cells= [(AV.lit v)]:=rfl
theorem known_lit {v:Value}:(AV.lit v).known=true:=rfl
theorem one_lit {v:Value}:(AV.lit v).one=true:=rfl
theorem notAgg_lit {v:Value}:(AV.lit v).notAgg=true:=rfl
theorem cells_fn {f:Nat} {a:List AV} {c:List AV}:(AV.fn f a c).cells= [(AV.fn f a c)]:=rfl
theorem known_fn {f:Nat} {a:List AV} {c:List AV}:(AV.fn f a c).known=true:=rfl
theorem one_fn {f:Nat} {a:List AV} {c:List AV}:(AV.fn f a c).one=true:=rfl
theorem notAgg_fn {f:Nat} {a:List AV} {c:List AV}:(AV.fn f a c).notAgg=true:=rfl
theorem cells_ptr {b:Nat} {o:Nat}:(AV.ptr b o).cells= [(AV.ptr b o)]:=rfl
theorem known_ptr {b:Nat} {o:Nat}:(AV.ptr b o).known=true:=rfl
theorem one_ptr {b:Nat} {o:Nat}:(AV.ptr b o).one=true:=rfl
theorem notAgg_ptr {b:Nat} {o:Nat}:(AV.ptr b o).notAgg=true:=rfl
theorem cells_vptr {cs:List AV} {o:Nat}:(AV.vptr cs o).cells= [(AV.vptr cs o)]:=rfl
theorem known_vptr {cs:List AV} {o:Nat}:(AV.vptr cs o).known=true:=rfl
theorem one_vptr {cs:List AV} {o:Nat}:(AV.vptr cs o).one=true:=rfl
theorem notAgg_vptr {cs:List AV} {o:Nat}:(AV.vptr cs o).notAgg=true:=rfl
theorem cells_sl {b:Nat} {o:Nat} {n:Nat} {z:Nat} {c:Option Nat}:(AV.sl b o n z c).cells= [(AV.sl b o n z c)]:=rfl
theorem known_sl {b:Nat} {o:Nat} {n:Nat} {z:Nat} {c:Option Nat}:(AV.sl b o n z c).known=true:=rfl
theorem one_sl {b:Nat} {o:Nat} {n:Nat} {z:Nat} {c:Option Nat}:(AV.sl b o n z c).one=true:=rfl
theorem notAgg_sl {b:Nat} {o:Nat} {n:Nat} {z:Nat} {c:Option Nat}:(AV.sl b o n z c).notAgg=true:=rfl
theorem cells_vsl {l:List AV} {c:Option Nat}:(AV.vsl l c).cells= [(AV.vsl l c)]:=rfl
theorem known_vsl {l:List AV} {c:Option Nat}:(AV.vsl l c).known=true:=rfl
theorem one_vsl {l:List AV} {c:Option Nat}:(AV.vsl l c).one=true:=rfl
theorem notAgg_vsl {l:List AV} {c:Option Nat}:(AV.vsl l c).notAgg=true:=rfl
theorem cells_nils:(AV.nils).cells= [(AV.nils)]:=rfl
theorem known_nils:(AV.nils).known=true:=rfl
theorem one_nils:(AV.nils).one=true:=rfl
theorem notAgg_nils:(AV.nils).notAgg=true:=rfl
theorem cells_e0:(AV.e0).cells= [(AV.e0)]:=rfl
theorem known_e0:(AV.e0).known=true:=rfl
theorem one_e0:(AV.e0).one=true:=rfl
theorem notAgg_e0:(AV.e0).notAgg=true:=rfl
theorem cells_tup {vs:List AV}:(AV.tup vs).cells= [(AV.tup vs)]:=rfl
theorem known_tup {vs:List AV}:(AV.tup vs).known=true:=rfl
theorem one_tup {vs:List AV}:(AV.tup vs).one=false:=rfl
theorem notAgg_tup {vs:List AV}:(AV.tup vs).notAgg=true:=rfl
theorem cells_agg {cs:List AV}:(AV.agg cs).cells=cs:=rfl
theorem known_agg {cs:List AV}:(AV.agg cs).known=true:=rfl
theorem one_agg {cs:List AV}:(AV.agg cs).one=false:=rfl
theorem notAgg_agg {cs:List AV}:(AV.agg cs).notAgg=false:=rfl
theorem readAt_none {cs:List AV} {off:Nat}:readAt cs off none=cs[off]? :=rfl
theorem readAt_some {cs:List AV} {off n:Nat}:readAt cs off (some n)=if off+n≤cs.length then some (.agg ((cs.drop off).take n)) else none:=rfl
theorem lenI_beq {α:Type} (l:List α):((l.length:Int) == 0)=l.isEmpty:=by cases l <;> simp <;> omega
theorem nth_one {α:Type} (a b:α) (l:List α):(a ::b ::l)[1]? =some b:=rfl
theorem IntKind_eq (k:IntKind):(k=k)=True:=eq_self k
theorem rbE_ok {σ:Store} {v:AV} (h:v.closed=true):rbE σ v=some v.er:=by unfold rbE; rw [rb_closed' h]; rfl
theorem rbE_bool {σ:Store} {b:Bool}:rbE σ (.bool b)=some (.bool b):=rfl
theorem rbE_int {σ:Store} {k:IntKind} {n:Int}:rbE σ (.int k n)=some (.int k n):=rfl
theorem rbE_str {σ:Store} {s:List UInt8}:rbE σ (.str s)=some (.str s):=rfl
theorem er_bool {b:Bool}:(AV.bool b).er= .bool b:=by simp only [AV.er]
theorem er_int {k:IntKind} {n:Int}:(AV.int k n).er= .int k n:=by simp only [AV.er]
theorem er_str {s:List UInt8}:(AV.str s).er= .str s:=by simp only [AV.er]
theorem er_nils:AV.nils.er= .vsl [] none:=by simp only [AV.er]
theorem er_e0:AV.e0.er= .vsl [] none:=by simp only [AV.er]
theorem er_agg {cs:List AV}:(AV.agg cs).er= .agg (erL cs):=by simp only [AV.er]
theorem er_tup {cs:List AV}:(AV.tup cs).er= .tup (erL cs):=by simp only [AV.er]
theorem er_vsl {cs:List AV} {c:Option Nat}:(AV.vsl cs c).er= .vsl (erL cs) none:=by simp only [AV.er]
theorem er_vptr {cs:List AV} {o:Nat}:(AV.vptr cs o).er= .vptr (erL cs) o:=by simp only [AV.er]
theorem er_fn {f:Nat} {a c:List AV}:(AV.fn f a c).er= .fn f (erL a) (erL c):=by simp only [AV.er]
theorem er_lit {v:Value}:(AV.lit v).er= .lit v:=by simp only [AV.er]
theorem er_undef:AV.undef.er= .undef:=by simp only [AV.er]
theorem erL_nil:erL []= []:=by simp only [erL]
theorem erL_cons {v:AV} {l:List AV}:erL (v ::l)=v.er ::erL l:=by simp only [erL]
theorem callP_fn {st:Bool} {f:AV} {args:List AV} {σ:Store} (h1:f.closed=true) (h:closedL args=true) :
  callP ip G st f args σ=(callR ip G f.er (erL args)).map fun r=>(r,σ):=callP_closed h1 h
end
end Go.Ab
namespace Go.Ab
section
variable {ip:Nat→Option IFunc} {G:Nat→List AV}
theorem ex_while {S:Type} (F:S→Fr) (st:S→Store) (m:S→Nat) (ok:S→Prop) {L:List Nat} {body:ICode} {k:List Item} {Q:Fr→Store→Prop}
  (step: ∀(b:ICode) (s:S),ok s→(∀(s':S) (fr':Fr) (σ':Store),m s' < m s→ok s'→keep L fr'=F s'→σ'=st s'→Ex ip G (.inLoop L b ::k) fr' σ' Q)→Ex ip G (.code body :: .inLoop L b ::k) (F s) (st s) Q) :
  ∀s,ok s→Ex ip G (.code body :: .inLoop L body ::k) (F s) (st s) Q:=by
 suffices h: ∀n s,m s < n→ok s→Ex ip G (.code body :: .inLoop L body ::k) (F s) (st s) Q from fun s=>h (m s+1) s (Nat.lt_succ_self _)
 intro n
 induction n with
 | zero=>intro s h; omega
 | succ n ih=>
  intro s hs hok
  refine step body s hok fun s' fr' σ' h1 hok' h2 h3=> ?_
  rw [ex_inLoop,h2,h3]
  exact ih s' (by omega) hok'
theorem ex_whileI {S:Type} (F:S→Fr) (m:S→Nat) (I:S→Store→Prop) {L:List Nat} {body:ICode} {k:List Item} {Q:Fr→Store→Prop}
  (step: ∀(b:ICode) (s:S) (σ:Store),I s σ→(∀(s':S) (fr':Fr) (σ':Store),m s' < m s→I s' σ'→keep L fr'=F s'→Ex ip G (.inLoop L b ::k) fr' σ' Q)→Ex ip G (.code body :: .inLoop L b ::k) (F s) σ Q) :
  ∀s σ,I s σ→Ex ip G (.code body :: .inLoop L body ::k) (F s) σ Q:=by
 suffices h: ∀n s σ,m s < n→I s σ→Ex ip G (.code body :: .inLoop L body ::k) (F s) σ Q from fun s σ=>h (m s+1) s σ (Nat.lt_succ_self _)
 intro n
 induction n with
 | zero=>intro s σ h; omega
 | succ n ih=>
  intro s σ hs hok
  refine step body s σ hok fun s' fr' σ' h1 hok' h2=> ?_
  rw [ex_inLoop,h2]
  exact ih s' σ' (by omega) hok'
theorem idx_vsl {sz:Nat} {els:List AV} {c:Option Nat} {j:Nat} {e:AV} (h:els[j]? =some e) (hs:e.cells.length=sz):idxOf sz none (.vsl els c) (.int .i64 (j:Int))=some (.vptr e.cells 0):=by
 simp [idxOf,h,hs]
theorem wrap_succ {j n:Nat} (h:j < n) (hn:n < 9223372036854775808):IntKind.wrap .i64 ((j:Int)+1)=((j+1:Nat):Int):=by
 have h1:(0:Int)≤(j:Int)+1:=by omega
 have h2:(j:Int)+1 < 9223372036854775808:=by omega
 simp [IntKind.wrap,IntKind.bits,IntKind.signed]
 omega
end
end Go.Ab
namespace Go.Ab
def EX0:=J @ex_seq (J @ex_region (J @ex_keep (J @ex_ops_nil (J @y_guard (J @ex_ret (J @ex_nil (J @ex_skip (J @ex_block (J @ex_inBlock (J @y_exit (J @y_cond (J @y_call (J @y_no (J @exV_some (J @exV_none (J @exS_some (J @exS_none (J @exG_bool (J @exG_skip (J @strip.eq_1 (J @strip.eq_2 (J @upd.eq_1 (J @upd.eq_2 (J @exC_bool (J @exE_some (J @x_mv (J @x_pick (J @x_build (J @x_buildA (J @x_load (J @x_boxV (J @x_loadV (J @x_bin (J @x_eqb (J @x_eqn (J @x_eqs (J @x_un (J @x_conv (J @x_mkfn (J @x_slice (J @x_sliceS (J @x_fieldA (J @x_field (J @x_idxA (J @x_idxS (J @x_extract (J @x_len (J @x_max2 (J @x_ext (J @x_box (J @x_new (J @x_buildSlO (J @x_store (J @x_append (J @x_buildSlV (J @po_pick (J @po_build (J @po_buildA (@po_bsl0)))))))))))))))))))))))))))))))))))))))))))))))))))))))))))
def EX1:=J @po_bsl (J @bslOf.eq_1 (J @bslOf.eq_2 (J @chunks.eq_1 (J @chunks.eq_2 (J @List.flatMap_cons.{0,0} (J @List.flatMap_nil.{0,0} (J @List.headD_cons.{0} (J @po_load (J @po_boxV (J @po_loadV (J @po_bin (J @po_eqb (J @po_eqn (J @po_eqs (J @po_un (J @po_int (J @po_same (J @po_toBytes (J @po_ofBytes (J @po_mkfn (J @po_slice (J @po_sliceS (J @po_fieldA (J @po_field (J @po_idxA (J @po_idxS (J @po_extract (J @po_lenS (J @po_lenL (J @po_max2 (J @po_ext (J @pickOf.eq_1 (J @boxOf.eq_1 (J @loadVOf.eq_1 (J @eqbOf.eq_1 (J @eqsOf.eq_1 (J @intOf.eq_1 (J @sameOf.eq_1 (J @toBytesOf.eq_1 (J @strOfRow.eq_1 (J @strOfRow.eq_2 (J @sliceSOf.eq_1 (J @slice3.eq_1 (J @fieldAOf.eq_1 (J @fieldAOf.eq_2 (J @fieldOf.eq_1 (J @byteAt.eq_1 (J @extractOf.eq_1 (J @lenS.eq_1 (J @max2Of.eq_1 (J @lenL_vsl (J @lenL_e0 (J @lenL_nils (J @lenL_sl (J @extOf.eq_1 (J @eqCells.eq_1 (J @eqCells.eq_2 (J @eqCells.eq_3 (@eqCells.eq_4)))))))))))))))))))))))))))))))))))))))))))))))))))))))))))
def EX2:=J @doOp.eq_1 (J @doOp.eq_2 (J @doOp.eq_3 (J @doOp.eq_4 (J @doOp.eq_5 (J @doOp.eq_6 (J @doOp.eq_7 (J @doOp.eq_8 (J @doOp.eq_9 (J @val.eq_1 (J @val.eq_2 (J @val.eq_3 (J @val.eq_4 (J @Fr.get.eq_1 (J @look.eq_1 (J @look.eq_2 (J @Fr.put.eq_1 (J @Fr.put.eq_2 (J @keep.eq_1 (J @exitTo.eq_1 (J @exitTo.eq_2 (J @exitTo.eq_3 (J @Option.map_some.{0,0} (J @Option.map_none.{0,0} (J @Option.bind_some.{0,0} (J @List.map_cons.{0,0} (J @List.map_nil.{0,0} (J @Option.getD_some.{0} (J @Option.getD_none.{0} (J @readAt_none (J @readPtr.eq_1 (J @readPtr.eq_2 (J @List.getElem?_cons_zero.{0} (J @List.getElem?_cons_succ.{0} (J @nth_one (J @List.length_cons.{0} (J @List.length_nil.{0} (J @List.nil_append.{0} (J @List.append_nil.{0} (J @List.cons_append.{0} (J @initFr.eq_1 (J @List.range_succ (J @List.range_zero (J @List.zip_cons_cons.{0,0} (J @List.zip_nil_right.{0,0} (J @Nat.zero_add (J @List.take_succ_cons.{0} (J @List.take_zero.{0} (J @List.drop_succ_cons.{0} (J @List.drop_zero.{0} (J @bin.eq_1 (J @bin.eq_2 (J @binInt.eq_1 (J @binInt.eq_2 (J @binInt.eq_3 (J @binInt.eq_4 (J @binInt.eq_5 (J @binInt.eq_6 (J @binInt.eq_7 (@binInt.eq_8)))))))))))))))))))))))))))))))))))))))))))))))))))))))))))
def EX3:=J @binInt.eq_9 (J @binInt.eq_10 (J @binInt.eq_11 (J @binInt.eq_12 (J @binInt.eq_13 (J @binInt.eq_14 (J @binInt.eq_15 (J @binStr.eq_1 (J @binStr.eq_2 (J @binStr.eq_3 (J @binStr.eq_4 (J @binStr.eq_5 (J @binStr.eq_6 (J @binStr.eq_7 (J @isShift.eq_1 (J @isShift.eq_2 (J @isShift.eq_3 (J @decide_true (J @decide_false (J @Bool.not_eq_true (J @Bool.false_eq_true (J @Bool.true_eq_false (J @un.eq_1 (J @un.eq_2 (J @un.eq_3 (J @resAll.eq_1 (J @resOf.eq_1 (J @resOf.eq_2 (J @resOf.eq_3 (J @IntKind_eq (J @fillA.eq_1 (J @fillA.eq_2 (J @splice.eq_1 (J @Option.some.injEq.{0} (J @Bool.not_true (J @Bool.not_false (J @nilOf.eq_1 (J @nilOf.eq_2 (J @nilOf.eq_3 (J @nilOf.eq_4 (J @nilOf.eq_5 (J @nilOf.eq_6 (J @nilOf.eq_7 (J @nilOf.eq_8 (J @nilOf.eq_9 (J @nilOf.eq_10 (J @nilOf.eq_11 (J @nilOf.eq_12 (J @nilOf.eq_13 (J @nilOf.eq_14 (J @optInt.eq_1 (J @optInt.eq_2 (J @or_self (J @not_true_eq_false (J @not_false_eq_true (J @gt_iff_lt.{0} (J @or_false (J @false_or (J @Nat.not_lt (@callM.eq_1)))))))))))))))))))))))))))))))))))))))))))))))))))))))))))
def EX4:=J @callM.eq_2 (J @callM.eq_3 (J @callP_fn (J @AV.closed.eq_1 (J @AV.closed.eq_2 (J @AV.closed.eq_3 (J @AV.closed.eq_4 (J @AV.closed.eq_5 (J @AV.closed.eq_6 (J @AV.closed.eq_7 (J @AV.closed.eq_8 (J @AV.closed.eq_9 (J @AV.closed.eq_10 (J @AV.closed.eq_11 (J @AV.closed.eq_12 (J @AV.closed.eq_13 (J @AV.closed.eq_14 (J @closedL.eq_1 (J @closedL.eq_2 (J @Bool.and_self (J @Bool.and_true (J @Bool.true_and (J @true_implies (J @false_implies (J @imp_self (J @and_true (J @true_and (J @Store.alloc.eq_1 (J @Store.cells.eq_1 (J @Store.get.eq_1 (J @Store.set.eq_1 (J @Store.owned.eq_1 (J @Store.empty.eq_1 (J @List.all_cons.{0} (J @List.all_nil.{0} (J @Nat.le_refl (J @Nat.add_zero (J @cells_undef (J @known_undef (J @one_undef (J @notAgg_undef (J @cells_bool (J @known_bool (J @one_bool (J @notAgg_bool (J @cells_int (J @known_int (J @one_int (J @notAgg_int (J @cells_str (J @known_str (J @one_str (J @notAgg_str (J @cells_lit (J @known_lit (J @one_lit (J @notAgg_lit (J @cells_fn (J @known_fn (@one_fn)))))))))))))))))))))))))))))))))))))))))))))))))))))))))))
def EX5:=J @notAgg_fn (J @cells_ptr (J @known_ptr (J @one_ptr (J @notAgg_ptr (J @cells_vptr (J @known_vptr (J @one_vptr (J @notAgg_vptr (J @cells_sl (J @known_sl (J @one_sl (J @notAgg_sl (J @cells_vsl (J @known_vsl (J @one_vsl (J @notAgg_vsl (J @cells_nils (J @known_nils (J @one_nils (J @notAgg_nils (J @cells_e0 (J @known_e0 (J @one_e0 (J @notAgg_e0 (J @cells_tup (J @known_tup (J @one_tup (J @notAgg_tup (J @cells_agg (J @known_agg (J @one_agg (J @notAgg_agg (J @lenI_beq (J @rbE_ok (J @rbE_bool (J @rbE_int (J @rbE_str (J @Bool.and_eq_true (J @and_self (J @er_bool (J @er_int (J @er_str (J @er_nils (J @er_e0 (J @er_agg (J @er_tup (J @er_vsl (J @er_vptr (J @er_fn (J @er_lit (J @er_undef (J @erL_nil (@erL_cons)))))))))))))))))))))))))))))))))))))))))))))))))))))
def EXF:=J @ex_frz (J @x_loadF (J @po_loadF (J @frzTs_nil (J @frzTs_cons (J @frzV_ptr (J @frzV_sl (J @frzV_nils (J @rpf_ptr (J @rpf_ptr0 (J @rpf_vsl (J @rpf_nils (J @frzV_vsl (@frz1)))))))))))))
theorem primOf_ins {sz bytes:Nat} {σ:Store} {x y:AV} {i:Int}:primOf (.insert sz bytes) σ [x, .int .i64 i,y]=insertTo σ sz bytes x i y:=rfl
theorem primOf_mk {sz bytes:Nat} {z:List AV} {σ:Store} {n:Int}:primOf (.makeSl sz bytes z) σ [.int .i64 n]=makeSlOf σ sz bytes z n:=rfl
theorem primOf_clr {sz:Nat} {z:List AV} {σ:Store} {x:AV}:primOf (.clear sz z) σ [x]=clearOf σ sz z x:=rfl
theorem primOf_boxT {e:Nat} {σ:Store} {x:AV}:primOf (.boxT e) σ [x]=if x.known=true then some (.ptr σ.next 0,(σ.alloc x.cells).addTag σ.next e) else none:=rfl
theorem primOf_appS {e sz bytes:Nat} {σ:Store} {x:AV} {s:List UInt8}:primOf (.appT e sz bytes true) σ [x, .str s]=if sz=1 then appTOf σ e sz bytes x (u8cells s) s.length else none:=rfl
theorem primOf_mkNZ {σ:Store} {n:Int}:primOf .mkNZ σ [.int .i64 n]=mkNZOf σ n:=rfl
theorem primOf_cvp {e n:Nat} {σ:Store} {x:AV}:primOf (.cvp e n) σ [x]=cvpOf σ e n x:=rfl
theorem primOf_ustr {e:Nat} {σ:Store} {x:AV} {n:Int}:primOf (.ustr e) σ [x, .int .i64 n]=ustrOf σ e x n:=rfl
theorem primOf_cpy {sz:Nat} {σ:Store} {x y:AV}:primOf (.copy sz) σ [x,y]=copyOf σ sz x y:=rfl
def EXP:=J @x_prim (J @primOf_ins (J @primOf_mk (J @primOf_cpy (J @primOf_clr (J @primOf_boxT (J @primOf_appS (J @primOf_mkNZ (J @primOf_cvp (J @x_storeS (J @x_eqa (J @po_eqa (J @x_eqp (J @po_eqp (J @primOf_ustr (J @x_nilc (J @x_idxV (J @x_sdata (J @po_nilc (J @po_idxV (J @po_sdata (J @nilcOf.eq_1 (J @nilcOf.eq_2 (J @x_sliceA (J @x_arr (J @po_sliceA (J @po_arr (J @po_flo (J @sliceA3.eq_1 (J @arrOf.eq_1 @arrOf.eq_2)))))))))))))))))))))))))))))
def EXA:=J EXP (J EX0 (J EX1 (J EX2 (J EX3 (J EX4 (J EX5 (J @if_true.{1} (J @if_true.{0} (J @if_false.{1} (J @if_false.{0} (J @implies_true.{0} (J @implies_true.{1} (J @forall_const.{0} (J @forall_const.{1} (@ne_eq.{1})))))))))))))))
end Go.Ab
namespace Go.Ab
abbrev Bs:=List UInt8
inductive V | mk (kind n:Int) (s:Bs) (l:List V) (m:List (Bs×V))
abbrev Mem:=Bs×V
def V.kind:V→Int | .mk k _ _ _ _=>k
def V.n:V→Int | .mk _ n _ _ _=>n
def V.s:V→Bs | .mk _ _ s _ _=>s
def V.l:V→List V | .mk _ _ _ l _=>l
def V.m:V→List Mem | .mk _ _ _ _ m=>m
mutual
def V.enc:V→AV
 | .mk k n s l m=> .agg [.int .i64 k, .int .i64 n, .str s, .vsl (encL l) none, .vsl (encM m) none]
def encL:List V→List AV
 | []=> []
 | v ::r=>v.enc ::encL r
def encM:List (Bs×V)→List AV
 | []=> []
 | (k,v) ::r=> .agg (.str k ::v.enc.cells) ::encM r
end
def memE (x:Mem):AV:= .agg (.str x.1 ::x.2.enc.cells)
theorem encL_map: ∀l:List V,encL l=l.map V.enc
 | []=>by simp [encL]
 | v ::r=>by simp [encL,encL_map r]
theorem encM_map: ∀l:List Mem,encM l=l.map memE
 | []=>by simp [encM]
 | (k,v) ::r=>by simp [encM,encM_map r,memE]
theorem V.enc_eq (v:V):v.enc= .agg [.int .i64 v.kind, .int .i64 v.n, .str v.s, .vsl (v.l.map V.enc) none, .vsl (v.m.map memE) none]:=by
 cases v; rw [V.enc,encL_map,encM_map]; rfl
theorem V.enc_cells (v:V):v.enc.cells= [.int .i64 v.kind, .int .i64 v.n, .str v.s, .vsl (v.l.map V.enc) none, .vsl (v.m.map memE) none]:=by rw [V.enc_eq]; rfl
theorem memE_cells (x:Mem):(memE x).cells= [.str x.1, .int .i64 x.2.kind, .int .i64 x.2.n, .str x.2.s, .vsl (x.2.l.map V.enc) none, .vsl (x.2.m.map memE) none]:=by
 rw [memE,V.enc_cells]; rfl
theorem V.eta (v:V):V.mk v.kind v.n v.s v.l v.m=v:=by cases v; rfl
theorem V.fold (k n:Int) (s:Bs) (l:List V) (m:List Mem):AV.agg [.int .i64 k, .int .i64 n, .str s, .vsl (l.map V.enc) none, .vsl (m.map memE) none]=(V.mk k n s l m).enc:=by rw [V.enc_eq]; rfl
theorem V.fold1 (k n:Int) (s:Bs) (m:List Mem):AV.agg [.int .i64 k, .int .i64 n, .str s, .vsl [] none, .vsl (m.map memE) none]=(V.mk k n s [] m).enc:=V.fold k n s [] m
theorem V.fold2 (k n:Int) (s:Bs) (l:List V):AV.agg [.int .i64 k, .int .i64 n, .str s, .vsl (l.map V.enc) none, .vsl [] none]=(V.mk k n s l []).enc:=V.fold k n s l []
theorem V.fold3 (k n:Int) (s:Bs):AV.agg [.int .i64 k, .int .i64 n, .str s, .vsl [] none, .vsl [] none]=(V.mk k n s [] []).enc:=V.fold k n s [] []
theorem memE_fold (key:Bs) (k n:Int) (s:Bs) (l:List V) (m:List Mem):AV.agg [.str key, .int .i64 k, .int .i64 n, .str s, .vsl (l.map V.enc) none, .vsl (m.map memE) none]=memE (key,V.mk k n s l m):=by
 rw [memE,V.enc_cells]; rfl
theorem memE_fold1 (key:Bs) (k n:Int) (s:Bs) (m:List Mem):AV.agg [.str key, .int .i64 k, .int .i64 n, .str s, .vsl [] none, .vsl (m.map memE) none]=memE (key,V.mk k n s [] m):=memE_fold key k n s [] m
theorem memE_fold2 (key:Bs) (k n:Int) (s:Bs) (l:List V):AV.agg [.str key, .int .i64 k, .int .i64 n, .str s, .vsl (l.map V.enc) none, .vsl [] none]=memE (key,V.mk k n s l []):=memE_fold key k n s l []
theorem memE_fold3 (key:Bs) (k n:Int) (s:Bs):AV.agg [.str key, .int .i64 k, .int .i64 n, .str s, .vsl [] none, .vsl [] none]=memE (key,V.mk k n s [] []):=memE_fold key k n s [] []
theorem Mem.eta (x:Mem):((x.1,x.2):Mem)=x:=rfl
theorem V.kind_mk (k n:Int) (s:Bs) (l:List V) (m:List Mem):(V.mk k n s l m).kind=k:=rfl
theorem V.n_mk (k n:Int) (s:Bs) (l:List V) (m:List Mem):(V.mk k n s l m).n=n:=rfl
theorem V.s_mk (k n:Int) (s:Bs) (l:List V) (m:List Mem):(V.mk k n s l m).s=s:=rfl
theorem V.l_mk (k n:Int) (s:Bs) (l:List V) (m:List Mem):(V.mk k n s l m).l=l:=rfl
theorem V.m_mk (k n:Int) (s:Bs) (l:List V) (m:List Mem):(V.mk k n s l m).m=m:=rfl
theorem closedL_map {α:Type} {f:α→AV} {l:List α} (h: ∀x∈l,(f x).closed=true):closedL (l.map f)=true:=by
 induction l with
 | nil=>rfl
 | cons x l ih=>simp only [List.map_cons,closedL,Bool.and_eq_true]; exact ⟨h x (by simp),ih (fun y hy=>h y (by simp [hy]))⟩
theorem erL_mapId {α:Type} {f:α→AV} {l:List α} (h: ∀x∈l,(f x).er=f x):erL (l.map f)=l.map f:=by
 induction l with
 | nil=>rfl
 | cons x l ih=>simp only [List.map_cons,erL,h x (by simp),ih (fun y hy=>h y (by simp [hy]))]
mutual
theorem V.enc_closed: ∀v:V,v.enc.closed=true
 | .mk k n s l m=>by
  have h1:=closedL_encL l
  have h2:=closedL_encM m
  simp only [V.enc,AV.closed,closedL,Bool.and_true,h1,h2]
theorem closedL_encL: ∀l:List V,closedL (encL l)=true
 | []=>by simp [encL,closedL]
 | v ::r=>by simp [encL,closedL,V.enc_closed v,closedL_encL r]
theorem closedL_encM: ∀l:List (Bs×V),closedL (encM l)=true
 | []=>by simp [encM,closedL]
 | (k,v) ::r=>by
  have h:=V.enc_closed v
  have h2:closedL v.enc.cells=true:=by
   cases v; simp only [V.enc,AV.cells,AV.closed] at h ⊢; exact h
  simp [encM,closedL,AV.closed,h2,closedL_encM r]
end
mutual
theorem V.enc_er: ∀v:V,v.enc.er=v.enc
 | .mk k n s l m=>by simp only [V.enc,AV.er,erL,erL_encL l,erL_encM m]
theorem erL_encL: ∀l:List V,erL (encL l)=encL l
 | []=>by simp [encL,erL]
 | v ::r=>by simp [encL,erL,V.enc_er v,erL_encL r]
theorem erL_encM: ∀l:List (Bs×V),erL (encM l)=encM l
 | []=>by simp [encM,erL]
 | (k,v) ::r=>by
  have h:=V.enc_er v
  have h2:erL v.enc.cells=v.enc.cells:=by
   cases v; simp only [V.enc,AV.cells,AV.er,AV.agg.injEq] at h ⊢; exact h
  simp [encM,erL,AV.er,h2,erL_encM r]
end
theorem closedL_mapV (l:List V):closedL (l.map V.enc)=true:=by rw [←encL_map]; exact closedL_encL l
theorem closedL_mapM (l:List Mem):closedL (l.map memE)=true:=by rw [←encM_map]; exact closedL_encM l
theorem erL_mapV (l:List V):erL (l.map V.enc)=l.map V.enc:=by rw [←encL_map]; exact erL_encL l
theorem erL_mapM (l:List Mem):erL (l.map memE)=l.map memE:=by rw [←encM_map]; exact erL_encM l
theorem V.enc_known (v:V):v.enc.known=true:=by rw [V.enc_eq]; rfl
theorem V.enc_one (v:V):v.enc.one=false:=by rw [V.enc_eq]; rfl
theorem V.enc_notAgg (v:V):v.enc.notAgg=false:=by rw [V.enc_eq]; rfl
theorem memE_closed (x:Mem):(memE x).closed=true:=by
 have:=closedL_mapM [x]
 simpa [closedL] using this
theorem memE_er (x:Mem):(memE x).er=memE x:=by
 have:=erL_mapM [x]
 simpa [erL] using this
theorem memE_known (x:Mem):(memE x).known=true:=rfl
theorem memE_notAgg (x:Mem):(memE x).notAgg=false:=rfl
def strs (l:List Bs):List AV:=l.map .str
theorem closedL_strs (l:List Bs):closedL (l.map AV.str)=true:=closedL_map fun _ _=>rfl
theorem erL_strs (l:List Bs):erL (l.map AV.str)=l.map AV.str:=erL_mapId fun _ _=>by simp only [AV.er]
theorem closedL_ints (k:IntKind) (l:List Int):closedL (l.map (AV.int k))=true:=closedL_map fun _ _=>rfl
theorem erL_ints (k:IntKind) (l:List Int):erL (l.map (AV.int k))=l.map (AV.int k):=erL_mapId fun _ _=>by simp only [AV.er]
structure Ev where
 v:V
 id:Bs
 room:Bs
 type:Bs
 sender:Bs
 key:Bs
 isState:Bool
 ts:Int
 depth:Int
 prev:List Bs
 auth:List Bs
 content:V
def evE (e:Ev):AV:= .agg [.int .i64 e.v.kind, .int .i64 e.v.n, .str e.v.s, .vsl (e.v.l.map V.enc) none, .vsl (e.v.m.map memE) none, .str e.id, .str e.room, .str e.type, .str e.sender, .str e.key,
 .bool e.isState, .int .i64 e.ts, .int .i64 e.depth, .vsl (e.prev.map .str) none, .vsl (e.auth.map .str) none, .int .i64 e.content.kind, .int .i64 e.content.n, .str e.content.s, .vsl (e.content.l.map V.enc) none, .vsl (e.content.m.map memE) none]
theorem evE_cells (e:Ev):(evE e).cells= [.int .i64 e.v.kind, .int .i64 e.v.n, .str e.v.s, .vsl (e.v.l.map V.enc) none, .vsl (e.v.m.map memE) none, .str e.id, .str e.room, .str e.type, .str e.sender, .str e.key,
 .bool e.isState, .int .i64 e.ts, .int .i64 e.depth, .vsl (e.prev.map .str) none, .vsl (e.auth.map .str) none, .int .i64 e.content.kind, .int .i64 e.content.n, .str e.content.s, .vsl (e.content.l.map V.enc) none, .vsl (e.content.m.map memE) none]:=rfl
theorem evE_closed (e:Ev):(evE e).closed=true:=by
 simp only [evE,AV.closed,closedL,closedL_mapV,closedL_mapM,closedL_strs,Bool.and_self]
theorem evE_er (e:Ev):(evE e).er=evE e:=by
 simp only [evE,AV.er,erL,erL_mapV,erL_mapM,erL_strs]
theorem evE_known (e:Ev):(evE e).known=true:=rfl
theorem evE_notAgg (e:Ev):(evE e).notAgg=false:=rfl
theorem evE_fold (k n:Int) (s:Bs) (l:List V) (m:List Mem) (id room type sender key:Bs) (st:Bool) (ts depth:Int) (prev auth:List Bs) (k' n':Int) (s':Bs) (l':List V) (m':List Mem) :
  AV.agg [.int .i64 k, .int .i64 n, .str s, .vsl (l.map V.enc) none, .vsl (m.map memE) none, .str id, .str room, .str type, .str sender, .str key,
   .bool st, .int .i64 ts, .int .i64 depth, .vsl (prev.map .str) none, .vsl (auth.map .str) none, .int .i64 k', .int .i64 n', .str s', .vsl (l'.map V.enc) none, .vsl (m'.map memE) none]=
  evE ⟨V.mk k n s l m,id,room,type,sender,key,st,ts,depth,prev,auth,V.mk k' n' s' l' m'⟩:=rfl
theorem closedL_mapE (l:List Ev):closedL (l.map evE)=true:=closedL_map fun e _=>evE_closed e
theorem erL_mapE (l:List Ev):erL (l.map evE)=l.map evE:=erL_mapId fun e _=>evE_er e
structure Slt where
 type:Bs
 key:Bs
 deriving DecidableEq
def sltE (s:Slt):AV:= .agg [.str s.type, .str s.key]
theorem sltE_cells (s:Slt):(sltE s).cells= [.str s.type, .str s.key]:=rfl
theorem sltE_closed (s:Slt):(sltE s).closed=true:=rfl
theorem sltE_er (s:Slt):(sltE s).er=sltE s:=by simp only [sltE,AV.er,erL]
theorem sltE_known (s:Slt):(sltE s).known=true:=rfl
theorem sltE_notAgg (s:Slt):(sltE s).notAgg=false:=rfl
theorem sltE_fold (t k:Bs):AV.agg [.str t, .str k]=sltE ⟨t,k⟩:=rfl
theorem closedL_mapS (l:List Slt):closedL (l.map sltE)=true:=closedL_map fun _ _=>rfl
theorem erL_mapS (l:List Slt):erL (l.map sltE)=l.map sltE:=erL_mapId fun s _=>sltE_er s
theorem idx_map {α:Type} {f:α→AV} {l:List α} {sz:Nat} {c:Option Nat} {j:Nat} {a:α} (h:l[j]? =some a) (hs:(f a).cells.length=sz) :
  idxOf sz none (.vsl (l.map f) c) (.int .i64 (j:Int))=some (.vptr (f a).cells 0):=idx_vsl (by simp [h]) hs
mutual
def V.sz:V→Nat
 | .mk _ _ s l m=>s.length+szL l+szM m+1
def szL:List V→Nat
 | []=>0
 | v ::r=>v.sz+szL r
def szM:List (Bs×V)→Nat
 | []=>0
 | (k,v) ::r=>k.length+v.sz+szM r
end
theorem V.sz_eq (v:V):v.sz=v.s.length+szL v.l+szM v.m+1:=by cases v; rw [V.sz]; rfl
theorem V.sz_pos (v:V):1≤v.sz:=by rw [V.sz_eq]; omega
theorem szL_len: ∀l:List V,l.length≤szL l
 | []=>by simp [szL]
 | v ::r=>by have:=szL_len r; have:=v.sz_pos; simp only [szL,List.length_cons]; omega
theorem szM_len: ∀l:List Mem,l.length≤szM l
 | []=>by simp [szM]
 | (k,v) ::r=>by have:=szM_len r; have:=v.sz_pos; simp only [szM,List.length_cons]; omega
theorem szL_mem {v:V}: ∀ {l:List V},v∈l→v.sz≤szL l
 | x ::r,h=>by
  simp only [szL]
  rcases List.mem_cons.1 h with rfl | h
  ·omega
  ·have:=szL_mem h; omega
theorem szM_mem {x:Mem}: ∀ {l:List Mem},x∈l→x.1.length+x.2.sz≤szM l
 | (k,v) ::r,h=>by
  simp only [szM]
  rcases List.mem_cons.1 h with rfl | h
  ·simp only; omega
  ·have:=szM_mem h; omega
def VX:=J @V.enc_cells (J @memE_cells (J @V.eta (J @Mem.eta (J @V.fold (J @V.fold1 (J @V.fold2 (J @V.fold3 (J @memE_fold (J @memE_fold1 (J @memE_fold2 (J @memE_fold3 (J @V.kind_mk (J @V.n_mk (J @V.s_mk (J @V.l_mk (J @V.m_mk (J @V.enc_closed (J @V.enc_er (J @closedL_mapV (J @closedL_mapM (J @erL_mapV (J @erL_mapM (J @V.enc_known (J @V.enc_one (J @V.enc_notAgg (J @memE_closed (J @memE_er (J @memE_known (J @memE_notAgg (J @closedL_strs (J @erL_strs (J @closedL_ints (J @erL_ints (J @evE_cells (J @evE_closed (J @evE_er (J @evE_known (J @evE_notAgg (J @evE_fold (J @closedL_mapE (J @erL_mapE (J @sltE_cells (J @sltE_closed (J @sltE_er (J @sltE_known (J @sltE_notAgg (J @sltE_fold (J @closedL_mapS (J @erL_mapS (@List.length_map.{0,0}))))))))))))))))))))))))))))))))))))))))))))))))))
end Go.Ab
namespace Go.Ab
def slOf (sz:Nat) (ob:Option Nat) (n:Nat):AV:=match ob with
 | none=> .nils
 | some b=> .sl b 0 n sz none
def OwnSl (σ:Store) (sz:Nat) (ob:Option Nat) (n:Nat) (cells:List AV):Prop:=match ob with
 | none=>n=0∧cells= []
 | some b=>σ.get b=some (.own cells)∧cells.length=n*sz∧b < σ.next∧0 < n
theorem get_alloc {σ:Store} {cs:List AV} {b:Nat} (h:b < σ.next):(σ.alloc cs).get b=σ.get b:=by
 simp only [Store.alloc,Store.get,look]
 rw [if_neg (by omega)]
theorem get_alloc_next {σ:Store} {cs:List AV}:(σ.alloc cs).get σ.next=some (.own cs):=by
 simp [Store.alloc,Store.get,look]
theorem get_set {σ:Store} {x:Blk} {b b':Nat} (h:b≠b'):(σ.set b x).get b'=σ.get b':=by
 simp only [Store.set,Store.get,look]
 rw [if_neg h]
theorem next_set {σ:Store} {x:Blk} {b:Nat}:(σ.set b x).next=σ.next:=rfl
theorem next_alloc {σ:Store} {cs:List AV}:(σ.alloc cs).next=σ.next+1:=rfl
theorem lenL_slOf {σ:Store} {sz n:Nat} {ob:Option Nat} {cells:List AV} (h:OwnSl σ sz ob n cells):lenL (slOf sz ob n)=some (.int .i64 n):=by
 cases ob with
 | none=>obtain ⟨rfl,_⟩:=h; rfl
 | some b=>rfl
theorem append_own {σ:Store} {sz bytes n k:Nat} {ob:Option Nat} {cells new:List AV} (h:OwnSl σ sz ob n cells) (hs:0 < sz) (hb:0 < bytes) (hm:(n+k)*bytes≤maxBytes) (hl:new.length=k*sz) (ho:new.all AV.one=true) (hk:0 < k) :
  ∃σ',appendTo σ sz bytes (slOf sz ob n) new k=some (slOf sz (some σ.next) (n+k),σ')∧OwnSl σ' sz (some σ.next) (n+k) (cells ++new)∧σ'.next=σ.next+1∧
   ∀b',b' < σ.next→ob≠some b'→σ'.get b'=σ.get b':=by
 cases ob with
 | none=>
  obtain ⟨rfl,rfl⟩:=h
  refine ⟨σ.alloc new,?_,⟨by simpa using get_alloc_next,by simpa using hl,by simp [next_alloc],by omega⟩,rfl,fun b' hb' _=>get_alloc hb'⟩
  unfold appendTo slOf
  simp only [lenOf,Nat.zero_add]
  rw [if_pos ⟨hs,hb,by simpa using hm,hl,ho⟩,if_neg (by omega)]
 | some b=>
  obtain ⟨h1,h2,h3,h4⟩:=h
  have hne:b≠σ.next:=by omega
  refine ⟨(σ.set b .dead).alloc (cells ++new),?_,⟨?_,by simp [h2,hl,Nat.add_mul],by simp [next_alloc,next_set],by omega⟩,rfl,fun b' hb' hne'=> ?_⟩
  ·unfold appendTo slOf
   simp only [lenOf]
   rw [if_pos ⟨hs,hb,hm,hl,ho⟩,if_pos trivial]
   have:σ.owned b=some cells:=by simp [Store.owned,h1]
   rw [this]
   simp only
   rw [if_neg (by omega),if_pos (by omega)]
   rfl
  ·exact get_alloc_next (σ:=σ.set b .dead)
  ·rw [get_alloc (by rw [next_set]; exact hb'),get_set (by intro hh; exact hne' (by rw [hh]))]
theorem rb_sl {σ:Store} {d b n sz:Nat} {cells:List AV} (h:σ.cells b=some cells) (h2:cells.length=n*sz) (hs:0 < sz) (hc:closedL cells=true) (ha:cells.all AV.notAgg=true) :
  rb σ (d+1) (.sl b 0 n sz none)=some (.vsl (chunks sz n cells) none):=by
 have ht:List.take (n*sz) (List.drop 0 cells)=cells:=by simp [←h2]
 have e:rb σ (d+1) (.sl b 0 n sz none)=(match σ.cells b with
   | some cs=>
    if 0+n*sz≤cs.length∧0 < sz then
     match mapO (rb σ d) ((cs.drop 0).take (n*sz)) with
     | some cs'=>if cs'.all AV.notAgg then some (.vsl (chunks sz n cs') none) else none
     | none=>none
    else none
   | none=>none):=rfl
 rw [e,h]
 simp only
 rw [if_pos ⟨by omega,hs⟩,ht,mapO_closed' hc]
 simp only
 rw [if_pos ha]
theorem rb_own {σ:Store} {sz n:Nat} {ob:Option Nat} {cells:List AV} (h:OwnSl σ sz ob n cells) (hs:0 < sz) (hc:closedL cells=true) (ha:cells.all AV.notAgg=true) :
  rb σ rbDepth (slOf sz ob n)=some (if n=0 then .nils else .vsl (chunks sz n cells) none):=by
 cases ob with
 | none=>obtain ⟨rfl,_⟩:=h; rfl
 | some b=>
  obtain ⟨h1,h2,h3,h4⟩:=h
  rw [if_neg (by omega)]
  exact rb_sl (d:=23) (by simp [Store.cells,h1]) h2 hs hc ha
end Go.Ab
