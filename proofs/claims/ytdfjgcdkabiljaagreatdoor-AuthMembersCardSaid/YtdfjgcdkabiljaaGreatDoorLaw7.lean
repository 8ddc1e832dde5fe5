/- What functions of the program, and of the library, answer. Conditions: none. -/
import Derived.Test.YtdfjgcdkabiljaaGreatDoorLaw6
import Derived.Test.YtdfjgcdkabiljaaGreatDoorLaw1
import Derived.Test.YtdfjgcdkabiljaaGreatDoorEx
set_option linter.unusedVariables false
set_option linter.unusedSimpArgs false
set_option linter.defProp false
set_option linter.unnecessarySimpa false
namespace Go.Ab
def Prm (p:Nat):Prop:=1 < p∧∀m,m∣p→m=1∨m=p
theorem Prm.cop {p a:Nat} (h:Prm p) (ha: ¬p∣a):Nat.Coprime p a:=by
 rcases h.2 _ (Nat.gcd_dvd_left p a) with e | e
 ·exact e
 ·exact absurd (e▸Nat.gcd_dvd_right p a) ha
theorem Prm.mul {p a b:Nat} (h:Prm p) (hab:p∣a*b):p∣a∨p∣b:=by
 by_cases ha:p∣a
 ·exact .inl ha
 ·exact .inr ((h.cop ha).dvd_of_dvd_mul_left hab)
theorem prm_of (n:Nat) (h:1 < n): ∃p,Prm p∧p∣n:=by
 induction n using Nat.strongRecOn with
 | ind n ih=>
  by_cases hn:Prm n
  ·exact ⟨n,hn,Nat.dvd_refl n⟩
  ·have: ∃m,m∣n∧m≠1∧m≠n:=by
    refine Classical.byContradiction fun hc=>hn ⟨h,fun m hm=> ?_⟩
    by_cases h1:m=1
    ·exact .inl h1
    ·by_cases h2:m=n
     ·exact .inr h2
     ·exact absurd ⟨m,hm,h1,h2⟩ hc
   obtain ⟨m,hm,h1,h2⟩:=this
   have h3:m≤n:=Nat.le_of_dvd (by omega) hm
   have h4:m≠0:=by rintro rfl; simp at hm; omega
   obtain ⟨p,hp,hd⟩:=ih m (by omega) (by omega)
   exact ⟨p,hp,Nat.dvd_trans hd hm⟩
def ch:Nat→Nat→Nat
 | _,0=>1
 | 0,_+1=>0
 | n+1,k+1=>ch n k+ch n (k+1)
theorem ch_mul: ∀n k,(k+1)*ch (n+1) (k+1)=(n+1)*ch n k
 | 0,0=>rfl
 | 0,k+1=>by simp [ch]
 | n+1,0=>by
  have:=ch_mul n 0
  simp only [ch,Nat.zero_add,Nat.one_mul,Nat.mul_one] at this ⊢
  omega
 | n+1,k+1=>by
  have a:=ch_mul n k
  have b:=ch_mul n (k+1)
  have e:ch (n+2) (k+2)=ch (n+1) (k+1)+ch (n+1) (k+2):=rfl
  have e2:ch (n+1) (k+1)=ch n k+ch n (k+1):=rfl
  rw [e,Nat.mul_add,show k+1+1=k+2 from rfl,b,Nat.add_mul (k+1) 1,a,e2]
  simp only [Nat.add_mul,Nat.mul_add]
  omega
theorem ch_zero: ∀n k,n < k→ch n k=0
 | 0,k+1,_=>rfl
 | n+1,k+1,h=>by rw [ch,ch_zero n k (by omega),ch_zero n (k+1) (by omega)]
 | n,0,h=>by omega
theorem ch_self: ∀n,ch n n=1
 | 0=>rfl
 | n+1=>by rw [ch,ch_self n,ch_zero n (n+1) (by omega)]
def bino (n x:Nat):Nat→Nat
 | 0=>0
 | j+1=>bino n x j+ch n j*x ^ j
theorem bino_succ (n x:Nat): ∀j,bino (n+1) x (j+1)=bino n x (j+1)+x*bino n x j
 | 0=>by cases n <;> simp [bino,ch]
 | j+1=>by
  have:=bino_succ n x j
  have e:bino n x (j+1+1)=bino n x (j+1)+ch n (j+1)*(x ^ j*x):=rfl
  have e1:bino n x (j+1)=bino n x j+ch n j*x ^ j:=rfl
  have e2:bino (n+1) x (j+1+1)=bino (n+1) x (j+1)+(ch n j+ch n (j+1))*(x ^ j*x):=rfl
  have k:x*(ch n j*x ^ j)=ch n j*(x ^ j*x):=by rw [Nat.mul_left_comm,Nat.mul_comm x]
  rw [e2,this,e,e1,Nat.add_mul,Nat.mul_add,k]
  omega
theorem bino_pow (x:Nat): ∀n,bino n x (n+1)=(x+1) ^ n
 | 0=>by simp [bino,ch]
 | n+1=>by
  rw [bino_succ,bino,ch_zero n (n+1) (by omega),bino_pow x n,Nat.pow_succ]
  rw [Nat.zero_mul,Nat.add_zero,Nat.mul_comm x,Nat.pow_succ,Nat.mul_add,Nat.mul_one]; omega
theorem bino_mod {p:Nat} (hp:Prm p) (x:Nat): ∀j,j < p→bino p x (j+1) % p=1 % p
 | 0,_=>by cases p <;> simp [bino,ch]
 | j+1,h=>by
  have h1:=hp.1
  have d:p∣ch p (j+1):=by
   have e:=ch_mul (p - 1) j
   rw [show p - 1+1=p by omega] at e
   rcases hp.mul (e▸Nat.dvd_mul_right p _:p∣(j+1)*ch p (j+1)) with k | k
   ·have:=Nat.le_of_dvd (by omega) k; omega
   ·exact k
  rw [bino,Nat.add_mod,bino_mod hp x j (by omega),Nat.mod_eq_zero_of_dvd (Nat.dvd_trans d (Nat.dvd_mul_right _ _))]
  simp
theorem fermat {p:Nat} (hp:Prm p): ∀x,x ^ p % p=x % p
 | 0=>by rw [Nat.zero_pow (by have:=hp.1; omega)]
 | x+1=>by
  have h1:=hp.1
  rw [←bino_pow x p,bino,ch_self,Nat.one_mul,Nat.add_mod,fermat hp x,show bino p x p=bino p x (p - 1+1) by rw [show p - 1+1=p by omega],bino_mod hp x (p - 1) (by omega),←Nat.add_mod,Nat.add_comm]
theorem fermat1 {p:Nat} (hp:Prm p) {x:Nat} (hx: ¬p∣x):x ^ (p - 1) % p=1:=by
 have h1:=hp.1
 have f:=fermat hp x
 have hx0:0 < x:=by
  rcases Nat.eq_zero_or_pos x with rfl | h; · simp at hx
  ·exact h
 have hpos:0 < x ^ (p - 1):=Nat.pow_pos hx0
 have e:x ^ p=x ^ (p - 1)*x:=by rw [←Nat.pow_succ,Nat.succ_eq_add_one,show p - 1+1=p by omega]
 have d:p∣(x ^ (p - 1) - 1)*x:=by
  rw [Nat.sub_mul,←e,Nat.one_mul]
  exact Nat.dvd_of_mod_eq_zero (Nat.sub_mod_eq_zero_of_mod_eq f)
 rcases hp.mul d with k | k
 ·obtain ⟨c,hc⟩:=k
  rw [show x ^ (p - 1)=1+p*c by omega,Nat.add_mul_mod_self_left,Nat.mod_eq_of_lt h1]
 ·exact absurd k hx
theorem pow_gcd (p b:Nat) (m n:Nat):b ^ m % p=1 % p→b ^ n % p=1 % p→b ^ (Nat.gcd m n) % p=1 % p:=by
 induction m,n using Nat.gcd.induction with
 | H0 n=>intro _ h; simpa using h
 | H1 m n hm ih=>
  intro h k
  rw [Nat.gcd_rec]
  refine ih ?_ h
  have e:b ^ n=(b ^ m) ^ (n / m)*b ^ (n % m):=by rw [←Nat.pow_mul,←Nat.pow_add,Nat.div_add_mod]
  rw [e,Nat.mul_mod,Nat.pow_mod,h,←Nat.pow_mod,Nat.one_pow,←Nat.mul_mod,Nat.one_mul] at k
  exact k
theorem pock {N q p a:Nat} (hN:1 < N) (hq:Prm q) (hp:Prm p) (hpN:p∣N) (hd:q∣N - 1) (h1:a ^ (N - 1) % N=1) (h2:Nat.gcd (a ^ ((N - 1) / q) % N+(N - 1)) N=1):q∣p - 1:=by
 refine Classical.byContradiction fun hc=> ?_
 have hc':=hq.cop hc
 have hp1:=hp.1
 have md: ∀x y,x % N=y % N→x % p=y % p:=fun x y h=>by rw [←Nat.mod_mod_of_dvd x hpN,h,Nat.mod_mod_of_dvd y hpN]
 have e1:(a ^ ((N - 1) / q)) ^ q % p=1 % p:=by
  rw [←Nat.pow_mul,Nat.div_mul_cancel hd]; exact md _ _ (by rw [h1,Nat.mod_eq_of_lt hN])
 have na: ¬p∣a ^ ((N - 1) / q):=fun h=>by
  have:p∣(a ^ ((N - 1) / q)) ^ q:=by
   have hq1:=hq.1
   generalize a ^ ((N - 1) / q)=b at*
   rw [show q=q - 1+1 by omega,Nat.pow_succ]; exact Nat.dvd_trans h (Nat.dvd_mul_left _ _)
  rw [Nat.mod_eq_zero_of_dvd this,Nat.mod_eq_of_lt hp1] at e1; omega
 have e2:=fermat1 hp na
 have e3:=pow_gcd p _ _ _ e1 (by rw [e2,Nat.mod_eq_of_lt hp1])
 rw [hc',Nat.pow_one] at e3
 have:p∣a ^ ((N - 1) / q) % N+(N - 1):=by
  apply Nat.dvd_of_mod_eq_zero
  rw [Nat.add_mod,Nat.mod_mod_of_dvd _ hpN,e3,←Nat.add_mod,show 1+(N - 1)=N by omega]
  exact Nat.mod_eq_zero_of_dvd hpN
 have g:p∣1:=h2▸Nat.dvd_gcd this hpN
 have:=Nat.le_of_dvd (by omega) g
 omega
theorem prm_big {N F:Nat} (hN:1 < N) (hF:N < (F+1)*(F+1)) (h: ∀p,Prm p→p∣N→F∣p - 1):Prm N:=by
 refine ⟨hN,fun m hm=> ?_⟩
 obtain ⟨k,hk⟩:=hm
 have big: ∀m k,N=m*k→m≠1→F+1≤m:=by
  intro m k hk h1
  have h0:m≠0:=by rintro rfl; omega
  obtain ⟨p,hp,hd⟩:=prm_of m (by omega)
  have a:=Nat.le_of_dvd (by have:=hp.1; omega) (h p hp (Nat.dvd_trans hd ⟨k,hk⟩))
  have b:=Nat.le_of_dvd (by omega) hd
  have:=hp.1
  omega
 by_cases h1:m=1
 ·exact .inl h1
 ·by_cases h2:k=1
  ·exact .inr (by rw [hk,h2,Nat.mul_one])
  ·have a:=big m k hk h1
   have b:=big k m (by rw [hk,Nat.mul_comm]) h2
   have:=Nat.mul_le_mul a b
   omega
def noDiv (n:Nat):Nat→Bool
 | 0=>true
 | k+1=>(n % (k+2) != 0) && noDiv n k
theorem noDiv_spec (n:Nat): ∀k,noDiv n k=true→∀m,2≤m→m < k+2→¬m∣n
 | 0,_,m,h2,h3,_=>by omega
 | k+1,h,m,h2,h3,hd=>by
  rw [noDiv,Bool.and_eq_true,bne_iff_ne] at h
  by_cases e:m=k+2
  ·subst e; exact h.1 (Nat.mod_eq_zero_of_dvd hd)
  ·exact noDiv_spec n k h.2 m h2 (by omega) hd
theorem prm_small (n k:Nat) (h1:1 < n) (hk:n < (k+2)*(k+2)) (h:noDiv n k=true):Prm n:=by
 refine ⟨h1,fun m hm=> ?_⟩
 obtain ⟨c,hc⟩:=hm
 have hm0:m≠0:=by rintro rfl; omega
 have hc0:c≠0:=by rintro rfl; omega
 by_cases e1:m=1
 ·exact .inl e1
 by_cases e2:c=1
 ·exact .inr (by rw [hc,e2,Nat.mul_one])
 exfalso
 have a: ¬m < k+2:=fun hl=>noDiv_spec n k h m (by omega) hl ⟨c,hc⟩
 have b: ¬c < k+2:=fun hl=>noDiv_spec n k h c (by omega) hl ⟨m,by rw [hc,Nat.mul_comm]⟩
 have:=Nat.mul_le_mul (Nat.not_lt.1 a) (Nat.not_lt.1 b)
 omega
def stN (h:Nat) (f:Nat→Nat):Nat:=match h with
 | 0=>f 0
 | k+1=>f (k+1)
theorem stN_eq (h:Nat) (f:Nat→Nat):stN h f=f h:=by cases h <;> rfl
def pw (n a:Nat):Nat→Nat→Nat
 | 0,_=>1 % n
 | f+1,e=>stN (pw n a f (e / 2)) fun h=>if e % 2=1 then h*h % n*a % n else h*h % n
theorem pw_eq (n a:Nat): ∀f e,e < 2 ^ f→pw n a f e=a ^ e % n
 | 0,e,h=>by rw [show e=0 by simpa using h]; rfl
 | f+1,e,h=>by
  rw [pw,stN_eq,pw_eq n a f (e / 2) (by rw [Nat.pow_succ] at h; omega)]
  have e1:a ^ (e / 2) % n*(a ^ (e / 2) % n) % n=a ^ (2*(e / 2)) % n:=by
   rw [←Nat.mul_mod,←Nat.pow_add,Nat.two_mul]
  split
  ·rw [e1,Nat.mod_mul_mod,←Nat.pow_succ,show (2*(e / 2)).succ=e by omega]
  ·rw [e1,show 2*(e / 2)=e by omega]
end Go.Ab
namespace Go.Ab
set_option maxRecDepth 100000
theorem pock' {N q p:Nat} (a:Nat) (f:Nat) (hq:Prm q) (hf:N < 2 ^ f) (hN:1 < N) (hd:(N - 1) % q=0) (h1:pw N a f (N - 1)=1) (h2:Nat.gcd (pw N a f ((N - 1) / q)+(N - 1)) N=1) (hp:Prm p) (hpN:p∣N):q∣p - 1:=by
 rw [pw_eq _ _ _ _ (by omega)] at h1
 rw [pw_eq _ _ _ _ (Nat.lt_of_le_of_lt (Nat.div_le_self _ _) (by omega))] at h2
 exact pock hN hq hp hpN (Nat.dvd_of_mod_eq_zero hd) h1 h2
theorem prm_two {q r p:Nat} (hq:Prm q) (hr:Prm r) (hqr:q < r) (h1:q∣p - 1) (h2:r∣p - 1):q*r∣p - 1:=
 Nat.Coprime.mul_dvd_of_dvd_of_dvd (hq.cop fun h=>by
  rcases hr.2 _ h with e | e
  ·have:=hq.1; omega
  ·omega) h1 h2
theorem prm_57467:Prm 57467:=prm_small 57467 239 (by decide) (by decide+kernel) (by decide+kernel)
theorem prm_75707:Prm 75707:=prm_small 75707 275 (by decide) (by decide+kernel) (by decide+kernel)
theorem prm_127:Prm 127:=prm_small 127 11 (by decide) (by decide+kernel) (by decide+kernel)
theorem prm_8574133:Prm 8574133:=prm_small 8574133 2928 (by decide) (by decide+kernel) (by decide+kernel)
theorem prm_q3:Prm 1919519569386763:=prm_big (F:=1088914891) (by decide) (by decide+kernel) fun p hp hd=>prm_two prm_127 prm_8574133 (by decide) (pock' 2 51 prm_127 (by decide+kernel) (by decide+kernel) (by decide+kernel) (by decide+kernel) (by decide+kernel) hp hd) (pock' 2 51 prm_8574133 (by decide+kernel) (by decide+kernel) (by decide+kernel) (by decide+kernel) (by decide+kernel) hp hd)
theorem prm_q2:Prm 75445702479781427272750846543864801:=prm_big (F:=145321068039563666441) (by decide) (by decide+kernel) fun p hp hd=>prm_two prm_75707 prm_q3 (by decide) (pock' 2 116 prm_75707 (by decide+kernel) (by decide+kernel) (by decide+kernel) (by decide+kernel) (by decide+kernel) hp hd) (pock' 2 116 prm_q3 (by decide+kernel) (by decide+kernel) (by decide+kernel) (by decide+kernel) (by decide+kernel) hp hd)
theorem prm_q1:Prm 74058212732561358302231226437062788676166966415465897661863160754340907:=prm_big (F:=4335638184405599281083172898336278519067) (by decide) (by decide+kernel) fun p hp hd=>prm_two prm_57467 prm_q2 (by decide) (pock' 2 236 prm_57467 (by decide+kernel) (by decide+kernel) (by decide+kernel) (by decide+kernel) (by decide+kernel) hp hd) (pock' 2 236 prm_q2 (by decide+kernel) (by decide+kernel) (by decide+kernel) (by decide+kernel) (by decide+kernel) hp hd)
abbrev PP:Nat:=57896044618658097711785492504343953926634992332820282019728792003956564819949
theorem prm_PP:Prm 57896044618658097711785492504343953926634992332820282019728792003956564819949:=prm_big (F:=74058212732561358302231226437062788676166966415465897661863160754340907) (by decide) (by decide+kernel) fun p hp hd=>(pock' 2 255 prm_q1 (by decide+kernel) (by decide+kernel) (by decide+kernel) (by decide+kernel) (by decide+kernel) hp hd)
end Go.Ab
namespace Go.Ab
set_option maxRecDepth 100000
instance :NeZero PP:=⟨by decide⟩
abbrev K:Type:=Fin PP
def dK:K:=⟨37095705934669439343138083508754565189542113879843219016388785533085940283555,by decide⟩
def iK:K:=⟨19681161376707505956807079304988542015446066515923890162744021073123829784752,by decide⟩
theorem iK_sq:iK*iK= -1:=by decide+kernel
theorem K_dvd {a:K} (h:a≠0): ¬PP∣a.val:=fun k=>h (Fin.ext (by
 have:=a.isLt
 rw [Fin.val_zero]
 exact Nat.eq_zero_of_dvd_of_lt k this))
theorem K_mul0 {a b:K} (h:a*b=0):a=0∨b=0:=by
 have h1:PP∣a.val*b.val:=Nat.dvd_of_mod_eq_zero (by rw [←Fin.val_mul,h]; rfl)
 rcases prm_PP.mul h1 with k | k
 ·exact .inl (Classical.byContradiction fun c=>K_dvd c k)
 ·exact .inr (Classical.byContradiction fun c=>K_dvd c k)
theorem K_mul_ne {a b:K} (h:a≠0) (k:b≠0):a*b≠0:=fun c=>(K_mul0 c).elim h k
def invK (a:K):K:=⟨a.val ^ (PP - 2) % PP,Nat.mod_lt _ (by decide)⟩
theorem invK_mul {a:K} (h:a≠0):a*invK a=1:=by
 have f: ∀M,M+1=PP - 1→a.val*(a.val ^ M % PP) % PP=1:=fun M hM=>by
  have:=fermat1 prm_PP (K_dvd h)
  rewrite [←hM] at this
  rewrite [Nat.mul_mod_mod,Nat.mul_comm,←Nat.pow_succ]
  exact this
 apply Fin.ext
 rewrite [Fin.val_mul,invK]
 exact f _ (by decide+kernel)
theorem K_cancel {a b c:K} (h:c≠0) (k:c*a=c*b):a=b:=by
 have:=invK_mul h
 grobner
theorem d_pow:pw PP dK.val 256 ((PP - 1) / 2)=PP - 1:=by decide+kernel
theorem d_nsq {s:K} (h:s*s=dK):False:=by
 have h0:s≠0:=by rintro rfl; revert h; decide+kernel
 have f: ∀M,M=PP - 1→s.val ^ M % PP=1:=fun M hM=>by
  have:=fermat1 prm_PP (K_dvd h0)
  rewrite [←hM] at this
  exact this
 have e:dK.val=s.val*s.val % PP:=by rw [←h,Fin.val_mul]
 have key: ∀N:Nat,N < 2 ^ 256→2*N=PP - 1→pw PP dK.val 256 N=PP - 1→False:=fun N hN h2 p=>by
  rewrite [pw_eq _ _ _ _ hN,e,←Nat.pow_mod,←Nat.pow_two,←Nat.pow_mul,f _ h2] at p
  revert p; decide+kernel
 exact key _ (by decide+kernel) (by decide+kernel) d_pow
theorem d_nsq' {a b:K} (h:a*a=dK*b*b):b=0:=by
 refine Classical.byContradiction fun hb=> ?_
 have:=invK_mul hb
 exact d_nsq (s:=a*invK b) (by grobner)
def OnC (x y:K):Prop:=y*y=1+dK*x*x*y*y+x*x
theorem OnC.neg {x y:K} (h:OnC x y):OnC (-x) y:=by unfold OnC at*; grobner
theorem complete {x1 y1 x2 y2:K} (h1:OnC x1 y1) (h2:OnC x2 y2) {e:K} (he:e=dK*x1*x2*y1*y2):e*e≠1:=fun hs=>by
 unfold OnC at h1 h2
 have hi:=iK_sq
 generalize hd:dK=d at*
 generalize iK=i at*
 have ns: ∀a b:K,a*a=d*b*b→b=0:=fun a b h=>d_nsq' (hd▸h)
 have n1:(1:K)≠0:=by decide+kernel
 have hx:x1*y1≠0:=fun c=>n1 (by grobner)
 have k1:=ns (i*x1+e*y1) (x1*y1*(i*x2+y2)) (by grobner)
 have k2:=ns (i*x1 - e*y1) (x1*y1*(i*x2 - y2)) (by grobner)
 have g1:=(K_mul0 k1).resolve_left hx
 have g2:=(K_mul0 k2).resolve_left hx
 have h22:(2:K)*y2=0:=by grobner
 have y0:y2=0:=(K_mul0 h22).resolve_left (by decide+kernel)
 exact n1 (by grobner)
theorem den1 {x1 y1 x2 y2:K} (h1:OnC x1 y1) (h2:OnC x2 y2):1+dK*x1*x2*y1*y2≠0:=fun c=>complete h1 h2 rfl (by grobner)
theorem den2 {x1 y1 x2 y2:K} (h1:OnC x1 y1) (h2:OnC x2 y2):1 - dK*x1*x2*y1*y2≠0:=fun c=>complete h1 h2 rfl (by grobner)
def addP (p q:K×K):K×K:=
 ((p.1*q.2+q.1*p.2)*invK (1+dK*p.1*q.1*p.2*q.2),(p.2*q.2+p.1*q.1)*invK (1 - dK*p.1*q.1*p.2*q.2))
def On (p:K×K):Prop:=OnC p.1 p.2
theorem on_add {p q:K×K} (hp:On p) (hq:On q):On (addP p q):=by
 obtain ⟨x1,y1⟩:=p; obtain ⟨x2,y2⟩:=q
 have hu:=invK_mul (den1 hp hq)
 have hv:=invK_mul (den2 hp hq)
 simp only [On,addP,OnC] at*
 generalize invK _=u at*
 generalize invK _=v at*
 generalize dK=d at*
 grobner
theorem add_comm' (p q:K×K):addP p q=addP q p:=by
 obtain ⟨x1,y1⟩:=p; obtain ⟨x2,y2⟩:=q
 have e:dK*x1*x2*y1*y2=dK*x2*x1*y2*y1:=by grobner
 simp only [addP,e,Prod.mk.injEq]
 exact ⟨by grobner,by grobner⟩
def zeroP:K×K:=(0,1)
theorem on_zero:On zeroP:=by simp only [On,OnC,zeroP]; grobner
theorem inv_one:invK 1=1:=by
 have:=invK_mul (a:=1) (by decide+kernel)
 grobner
theorem add_zero' (p:K×K):addP p zeroP=p:=by
 obtain ⟨x,y⟩:=p
 have e1:1+dK*x*0*y*1=1:=by grobner
 have e2:1 - dK*x*0*y*1=1:=by grobner
 simp only [addP,zeroP,e1,e2,inv_one,Prod.mk.injEq]
 exact ⟨by grobner,by grobner⟩
end Go.Ab
namespace Go.Ab
set_option maxRecDepth 100000
theorem assoc_x (d x1 y1 x2 y2 x3 y3 A B k A' B' k':K) (h1:y1*y1=1+d*x1*x1*y1*y1+x1*x1) (h2:y2*y2=1+d*x2*x2*y2*y2+x2*x2) (h3:y3*y3=1+d*x3*x3*y3*y3+x3*x3)
  (hA:A=x1*y2+x2*y1) (hB:B=y1*y2+x1*x2) (hk:k=d*x1*x2*y1*y2) (hA':A'=x2*y3+x3*y2) (hB':B'=y2*y3+x2*x3) (hk':k'=d*x2*x3*y2*y3) :
  (A*(1 - k)*y3+x3*B*(1+k))*((1+k')*(1 - k')+d*x1*A'*y1*B')=(x1*B'*(1+k')+A'*(1 - k')*y1)*((1+k)*(1 - k)+d*A*x3*B*y3):=by
 subst hA hB hk hA' hB' hk'
 grobner
theorem assoc_y (d x1 y1 x2 y2 x3 y3 A B k A' B' k':K) (h1:y1*y1=1+d*x1*x1*y1*y1+x1*x1) (h2:y2*y2=1+d*x2*x2*y2*y2+x2*x2) (h3:y3*y3=1+d*x3*x3*y3*y3+x3*x3)
  (hA:A=x1*y2+x2*y1) (hB:B=y1*y2+x1*x2) (hk:k=d*x1*x2*y1*y2) (hA':A'=x2*y3+x3*y2) (hB':B'=y2*y3+x2*x3) (hk':k'=d*x2*x3*y2*y3) :
  (B*(1+k)*y3+A*(1 - k)*x3)*((1+k')*(1 - k') - d*x1*A'*y1*B')=(y1*B'*(1+k')+x1*A'*(1 - k'))*((1+k)*(1 - k) - d*A*x3*B*y3):=by
 subst hA hB hk hA' hB' hk'
 grobner
theorem fac1 {d u v k A B x y:K} (hu:(1+k)*u=1) (hv:(1 - k)*v=1):(1+k)*(1 - k)+d*A*x*B*y=(1+k)*(1 - k)*(1+d*(A*u)*x*(B*v)*y):=by grobner
theorem fac2 {d u v k A B x y:K} (hu:(1+k)*u=1) (hv:(1 - k)*v=1):(1+k)*(1 - k) - d*A*x*B*y=(1+k)*(1 - k)*(1 - d*(A*u)*x*(B*v)*y):=by grobner
theorem fac3 {d u v k A B x y:K} (hu:(1+k)*u=1) (hv:(1 - k)*v=1):(1+k)*(1 - k)+d*x*A*y*B=(1+k)*(1 - k)*(1+d*x*(A*u)*y*(B*v)):=by grobner
theorem fac4 {d u v k A B x y:K} (hu:(1+k)*u=1) (hv:(1 - k)*v=1):(1+k)*(1 - k) - d*x*A*y*B=(1+k)*(1 - k)*(1 - d*x*(A*u)*y*(B*v)):=by grobner
theorem num1 {u v k A B x y:K} (hu:(1+k)*u=1) (hv:(1 - k)*v=1):A*(1 - k)*y+x*B*(1+k)=(1+k)*(1 - k)*(A*u*y+x*(B*v)):=by grobner
theorem num2 {u v k A B x y:K} (hu:(1+k)*u=1) (hv:(1 - k)*v=1):B*(1+k)*y+A*(1 - k)*x=(1+k)*(1 - k)*(B*v*y+A*u*x):=by grobner
theorem num3 {u v k A B x y:K} (hu:(1+k)*u=1) (hv:(1 - k)*v=1):x*B*(1+k)+A*(1 - k)*y=(1+k)*(1 - k)*(x*(B*v)+A*u*y):=by grobner
theorem num4 {u v k A B x y:K} (hu:(1+k)*u=1) (hv:(1 - k)*v=1):y*B*(1+k)+x*A*(1 - k)=(1+k)*(1 - k)*(y*(B*v)+x*(A*u)):=by grobner
theorem fin_eq {g h w w' e e' s s':K} (hs:e*s=1) (hs':e'*s'=1) (X:w*g*(w'*e')=w'*h*(w*e)):w*e*(w'*e')*(g*s)=w*e*(w'*e')*(h*s'):=by grobner
theorem add_assoc' {p q r:K×K} (hp:On p) (hq:On q) (hr:On r):addP (addP p q) r=addP p (addP q r):=by
 have hpq:=on_add hp hq
 have hqr:=on_add hq hr
 have s1:=den1 hpq hr
 have s2:=den2 hpq hr
 have t1:=den1 hp hqr
 have t2:=den2 hp hqr
 have a1:=den1 hp hq
 have a2:=den2 hp hq
 have b1:=den1 hq hr
 have b2:=den2 hq hr
 obtain ⟨x1,y1⟩:=p; obtain ⟨x2,y2⟩:=q; obtain ⟨x3,y3⟩:=r
 have X:=assoc_x dK x1 y1 x2 y2 x3 y3 _ _ _ _ _ _ hp hq hr rfl rfl rfl rfl rfl rfl
 have Y:=assoc_y dK x1 y1 x2 y2 x3 y3 _ _ _ _ _ _ hp hq hr rfl rfl rfl rfl rfl rfl
 simp only [addP,Prod.mk.injEq] at*
 have hu:=invK_mul a1; have hv:=invK_mul a2; have hp:=invK_mul b1; have hq:=invK_mul b2
 have hs:=invK_mul s1; have ht:=invK_mul s2; have hs':=invK_mul t1; have ht':=invK_mul t2
 generalize invK (1+dK*x1*x2*y1*y2)=u at*
 generalize invK (1 - dK*x1*x2*y1*y2)=v at*
 generalize invK (1+dK*x2*x3*y2*y3)=p at*
 generalize invK (1 - dK*x2*x3*y2*y3)=q at*
 generalize hA:x1*y2+x2*y1=A at*
 generalize hB:y1*y2+x1*x2=B at*
 generalize hA':x2*y3+x3*y2=A' at*
 generalize hB':y2*y3+x2*x3=B' at*
 generalize hk:dK*x1*x2*y1*y2=k at*
 generalize hk':dK*x2*x3*y2*y3=k' at*
 generalize invK _=s at*
 generalize invK _=t at*
 generalize invK _=s' at*
 generalize invK _=t' at*
 have n1:(1+k)*(1 - k)≠0:=K_mul_ne a1 a2
 have n2:(1+k')*(1 - k')≠0:=K_mul_ne b1 b2
 have D1:= @fac1 dK u v k A B x3 y3 hu hv
 have D2:= @fac2 dK u v k A B x3 y3 hu hv
 have D3:= @fac3 dK p q k' A' B' x1 y1 hp hq
 have D4:= @fac4 dK p q k' A' B' x1 y1 hp hq
 have m1:=K_mul_ne n1 s1
 have m2:=K_mul_ne n1 s2
 have m3:=K_mul_ne n2 t1
 have m4:=K_mul_ne n2 t2
 rw [D3,D1] at X
 rw [D4,D2] at Y
 clear D1 D2 D3 D4
 have N1:= @num1 u v k A B x3 y3 hu hv
 have N2:= @num2 u v k A B x3 y3 hu hv
 have N3:= @num3 p q k' A' B' x1 y1 hp hq
 have N4:= @num4 p q k' A' B' x1 y1 hp hq
 rw [N1,N3] at X
 rw [N2,N4] at Y
 exact ⟨K_cancel (K_mul_ne m1 m3) (fin_eq hs hs' X),K_cancel (K_mul_ne m2 m4) (fin_eq ht ht' Y)⟩
end Go.Ab
namespace Go.Ab
set_option maxRecDepth 100000
structure Wd where
 x:K
 y:K
 z:K
 t:K
def Rep (w:Wd) (p:K×K):Prop:=w.z≠0∧w.x=p.1*w.z∧w.y=p.2*w.z∧w.t=p.1*p.2*w.z
def addW (p q:Wd):Wd:=
 let a:=(p.y - p.x)*(q.y - q.x); let b:=(p.y+p.x)*(q.y+q.x)
 let c:=p.t*q.t*dK; let d:=p.z*q.z
 let e:=b - a; let f:=d+d - (c+c); let g:=d+d+(c+c); let h:=b+a
 ⟨e*f,g*h,f*g,e*h⟩
def dblW (p:Wd):Wd:=
 let a:=p.x*p.x; let b:=p.y*p.y; let c:=p.z*p.z; let s:=p.x+p.y
 let e:=s*s - a - b; let g:=b - a; let f:=g - (c+c); let h:=0 - a - b
 ⟨e*f,g*h,f*g,e*h⟩
theorem two_ne:(2:K)≠0:=by decide+kernel
theorem rep_add {w w':Wd} {p p':K×K} (h:Rep w p) (h':Rep w' p') (o:On p) (o':On p'):Rep (addW w w') (addP p p'):=by
 have n1:=den1 o o'
 have n2:=den2 o o'
 have hu:=invK_mul n1
 have hv:=invK_mul n2
 obtain ⟨x,y⟩:=p; obtain ⟨x',y'⟩:=p'; obtain ⟨X,Y,Z,T⟩:=w; obtain ⟨X',Y',Z',T'⟩:=w'
 obtain ⟨hz,h1,h2,h3⟩:=h; obtain ⟨hz',h1',h2',h3'⟩:=h'
 simp only at*
 subst h1 h2 h3 h1' h2' h3'
 clear o o'
 have nz:2*(Z*Z')≠0:=K_mul_ne two_ne (K_mul_ne hz hz')
 have m1:=K_mul_ne nz n1
 have m2:=K_mul_ne nz n2
 have ef:Z*Z'+Z*Z' - (x*y*Z*(x'*y'*Z')*dK+x*y*Z*(x'*y'*Z')*dK)=2*(Z*Z')*(1 - dK*x*x'*y*y'):=by clear hu hv; grobner
 have eg:Z*Z'+Z*Z'+(x*y*Z*(x'*y'*Z')*dK+x*y*Z*(x'*y'*Z')*dK)=2*(Z*Z')*(1+dK*x*x'*y*y'):=by clear hu hv ef; grobner
 simp only [Rep,addW,addP,ef,eg]
 clear ef eg
 generalize invK _=u at*
 generalize invK _=v at*
 refine ⟨K_mul_ne m2 m1,?_,?_,?_⟩
 ·clear hv m1 m2 n1 n2 nz; generalize 1 - dK*x*x'*y*y'=g at*; grobner
 ·clear hu m1 m2 n1 n2 nz; generalize 1+dK*x*x'*y*y'=g at*; grobner
 ·clear m1 m2 n1 n2 nz
  generalize 1 - dK*x*x'*y*y'=g at*; generalize 1+dK*x*x'*y*y'=f at*
  grobner
theorem rep_dbl {w:Wd} {p:K×K} (h:Rep w p) (o:On p):Rep (dblW w) (addP p p):=by
 have n1:=den1 o o
 have n2:=den2 o o
 have hu:=invK_mul n1
 have hv:=invK_mul n2
 obtain ⟨x,y⟩:=p; obtain ⟨X,Y,Z,T⟩:=w
 obtain ⟨hz,h1,h2,h3⟩:=h
 simp only [On,OnC] at*
 subst h1 h2 h3
 have nz:Z*Z≠0:=K_mul_ne hz hz
 have m1:=K_mul_ne nz n1
 have m2:=K_mul_ne nz n2
 have eg:y*Z*(y*Z) - x*Z*(x*Z)=Z*Z*(1+dK*x*x*y*y):=by clear hu hv; grobner
 have ef:Z*Z*(1+dK*x*x*y*y) - (Z*Z+Z*Z)= - (Z*Z*(1 - dK*x*x*y*y)):=by clear hu hv eg; grobner
 have nf: - (Z*Z*(1 - dK*x*x*y*y))≠0:=fun c=>m2 (by clear hu hv ef eg o; grobner)
 simp only [Rep,dblW,addP,eg,ef]
 clear ef eg
 generalize invK _=u at*
 generalize invK _=v at*
 refine ⟨K_mul_ne nf m1,?_,?_,?_⟩
 ·clear hv m1 m2 n1 n2 nz nf o; generalize 1 - dK*x*x*y*y=g at*; generalize 1+dK*x*x*y*y=f at*; grobner
 ·clear hu m1 m2 n1 n2 nz nf o; generalize 1+dK*x*x*y*y=g at*; generalize 1 - dK*x*x*y*y=f at*; grobner
 ·clear m1 m2 n1 n2 nz nf o
  generalize 1 - dK*x*x*y*y=g at*; generalize 1+dK*x*x*y*y=f at*
  grobner
def mulP (p:K×K):Nat→K×K
 | 0=>zeroP
 | n+1=>addP (mulP p n) p
theorem on_mul {p:K×K} (h:On p): ∀n,On (mulP p n)
 | 0=>on_zero
 | n+1=>on_add (on_mul h n) h
theorem zero_add' (p:K×K):addP zeroP p=p:=by rw [add_comm',add_zero']
theorem mul_add' {p:K×K} (h:On p) (m:Nat): ∀n,mulP p (m+n)=addP (mulP p m) (mulP p n)
 | 0=>by rw [Nat.add_zero,mulP,add_zero']
 | n+1=>by rw [←Nat.add_assoc,mulP,mul_add' h m n,mulP,add_assoc' (on_mul h m) (on_mul h n) h]
theorem mul_zero': ∀n,mulP zeroP n=zeroP
 | 0=>rfl
 | n+1=>by rw [mulP,mul_zero' n,add_zero']
theorem mul_mul' {p:K×K} (h:On p) (m:Nat): ∀n,mulP p (m*n)=mulP (mulP p m) n
 | 0=>rfl
 | n+1=>by rw [Nat.mul_succ,mul_add' h,mul_mul' h m n,mulP]
theorem mul_two {p:K×K} (h:On p) (n:Nat):mulP p (2*n)=addP (mulP p n) (mulP p n):=by rw [Nat.two_mul,mul_add' h]
def zeroW:Wd:=⟨0,1,1,0⟩
theorem rep_zero:Rep zeroW zeroP:=⟨by decide+kernel,by simp only [zeroP,zeroW]; grobner,by simp only [zeroP,zeroW]; grobner,by simp only [zeroP,zeroW]; grobner⟩
def flatW (p:K×K):Wd:=⟨p.1,p.2,1,p.1*p.2⟩
theorem rep_flat (p:K×K):Rep (flatW p) p:=⟨by simp only [flatW]; decide+kernel,by simp only [flatW]; grobner,by simp only [flatW]; grobner,by simp only [flatW]; grobner⟩
def affW (w:Wd):K×K:=(w.x*invK w.z,w.y*invK w.z)
theorem rep_aff {w:Wd} {p:K×K} (h:Rep w p):affW w=p:=by
 obtain ⟨hz,h1,h2,_⟩:=h
 have:=invK_mul hz
 obtain ⟨x,y⟩:=p
 simp only [affW,h1,h2,Prod.mk.injEq]
 exact ⟨by clear h1 h2; grobner,by clear h1 h2; grobner⟩
def timesW (w:Wd) (k:Nat):Nat→Wd→Wd
 | 0,s=>s
 | n+1,s=>timesW w k n (if k / 2 ^ n % 2=1 then addW (dblW s) w else dblW s)
theorem rep_times {w:Wd} {p:K×K} (h:Rep w p) (o:On p) (k:Nat): ∀n s,Rep s (mulP p (k / 2 ^ n))→Rep (timesW w k n s) (mulP p k)
 | 0,s,hs=>by simpa [timesW] using hs
 | n+1,s,hs=>by
  rw [timesW]
  apply rep_times h o k n
  have e:k / 2 ^ n=2*(k / 2 ^ (n+1))+k / 2 ^ n % 2:=by
   rw [Nat.pow_succ,←Nat.div_div_eq_div_mul]; omega
  have d:=rep_dbl hs (on_mul o _)
  rw [←mul_two o] at d
  split
  ·rename_i hb
   rw [e,hb]
   exact rep_add d h (on_mul o _) o
  ·rename_i hb
   rw [e,show k / 2 ^ n % 2=0 by omega]
   exact d
theorem rep_all {w:Wd} {p:K×K} (h:Rep w p) (o:On p) (k:Nat) (hk:k < 2 ^ 256):Rep (timesW w k 256 zeroW) (mulP p k):=
 rep_times h o k 256 _ (by rw [Nat.div_eq_of_lt hk]; exact rep_zero)
end Go.Ab
namespace Go.Ab
set_option maxRecDepth 100000
def baseP:K×K:=(⟨15112221349535400772501151409588531511454012693041857206046113283949847762202,by decide⟩,⟨46316835694926478169428394003475163141307993866256225615783033603165251855960,by decide⟩)
theorem on_base:On baseP:=by unfold On OnC; decide+kernel
def LL:Nat:=7237005577332262213973186563042994240857116359379907606001950938285454250989
end Go.Ab
namespace Go.Ab
set_option maxRecDepth 100000
def st {α:Type} (h:Nat) (f:Nat→α):α:=match h with
 | 0=>f 0
 | k+1=>f (k+1)
theorem st_eq {α:Type} (h:Nat) (f:Nat→α):st h f=f h:=by cases h <;> rfl
def cN (n:Nat):K:=Fin.ofNat PP n
theorem cN_val (v:K):cN v.val=v:=Fin.ext (Nat.mod_eq_of_lt v.isLt)
theorem val_cN {n:Nat} {v:K} (h:cN n=v):n % PP=v.val:=by rw [←h]; rfl
theorem cN_eq {m n:Nat} (h:m % PP=n % PP):cN m=cN n:=Fin.ext h
theorem cN_mod (n:Nat):cN (n % PP)=cN n:=cN_eq (Nat.mod_mod _ _)
theorem cN_add (m n:Nat):cN (m+n)=cN m+cN n:=Fin.ext (by rw [Fin.val_add]; exact Nat.add_mod _ _ _)
theorem cN_mul (m n:Nat):cN (m*n)=cN m*cN n:=Fin.ext (by rw [Fin.val_mul]; exact Nat.mul_mod _ _ _)
theorem cN_sub {m n:Nat} (h:n≤m):cN (m - n)=cN m - cN n:=by
 have:cN (m - n)+cN n=cN m:=by rw [←cN_add,Nat.sub_add_cancel h]
 grobner
theorem cN_PP:cN PP=0:=by decide+kernel
theorem cN_less {m n:Nat} (h:n < PP):cN (m+PP - n)=cN m - cN n:=by
 rw [cN_sub (by omega),cN_add,cN_PP]; grobner
theorem cN_two (m:Nat):cN (2*m)=cN m+cN m:=by rw [Nat.two_mul,cN_add]
def addN {α:Type} (x y z t x' y' z' t':Nat) (k:Nat→Nat→Nat→Nat→α):α:=
 st ((y+PP - x)*(y'+PP - x') % PP) fun a=>st ((y+x)*(y'+x') % PP) fun b=>
 st (t*t' % PP*dK.val % PP) fun c=>st (z*z' % PP) fun d=>
 st (b+PP - a) fun e=>st (2*d+2*PP - 2*c) fun f=>st (2*d+2*c) fun g=>st (b+a) fun h=>
 st (e*f % PP) fun X=>st (g*h % PP) fun Y=>st (f*g % PP) fun Z=>st (e*h % PP) fun T=>k X Y Z T
def dblN {α:Type} (x y z:Nat) (k:Nat→Nat→Nat→Nat→α):α:=
 st (x*x % PP) fun a=>st (y*y % PP) fun b=>st (z*z % PP) fun c=>st ((x+y)*(x+y) % PP) fun s=>
 st (s+2*PP - a - b) fun e=>st (b+PP - a) fun g=>st (g+2*PP - 2*c) fun f=>st (2*PP - a - b) fun h=>
 st (e*f % PP) fun X=>st (g*h % PP) fun Y=>st (f*g % PP) fun Z=>st (e*h % PP) fun T=>k X Y Z T
theorem cong4 {α:Type} (k:Nat→Nat→Nat→Nat→α) {a b c d a' b' c' d':Nat} (h1:a=a') (h2:b=b') (h3:c=c') (h4:d=d'):k a b c d=k a' b' c' d':=by subst h1 h2 h3 h4; rfl
theorem PP_pos (n:Nat):n % PP < PP:=Nat.mod_lt _ (by decide)
theorem addN_eq {α:Type} (w w':Wd) (k:Nat→Nat→Nat→Nat→α):addN w.x.val w.y.val w.z.val w.t.val w'.x.val w'.y.val w'.z.val w'.t.val k=k (addW w w').x.val (addW w w').y.val (addW w w').z.val (addW w w').t.val:=by
 simp only [addN,st_eq]
 have hc: ∀n m,cN (2*(n % PP)+2*PP - 2*(m % PP))=cN n+cN n - (cN m+cN m):=by
  intro n m
  have:=PP_pos m
  rw [cN_sub (by omega),cN_add,cN_two,cN_two,cN_two,cN_PP,cN_mod,cN_mod]; grobner
 have hg: ∀n m,cN (2*(n % PP)+2*(m % PP))=cN n+cN n+(cN m+cN m):=by
  intro n m
  rw [cN_add,cN_two,cN_two,cN_mod,cN_mod]
 apply cong4 <;> apply val_cN <;> rw [cN_mul] <;> (try rw [hc]) <;> (try rw [hg]) <;>
  simp only [cN_mul,cN_add,cN_mod,cN_less (PP_pos _),cN_less (Fin.isLt _),cN_val,addW]
theorem dblN_eq {α:Type} (w:Wd) (k:Nat→Nat→Nat→Nat→α):dblN w.x.val w.y.val w.z.val k=k (dblW w).x.val (dblW w).y.val (dblW w).z.val (dblW w).t.val:=by
 simp only [dblN,st_eq]
 have h1: ∀n a b,cN (n+2*PP - a % PP - b % PP)=cN n - cN a - cN b:=by
  intro n a b
  have:=PP_pos a; have:=PP_pos b
  rw [cN_sub (by omega),cN_sub (by omega),cN_add,cN_two,cN_PP,cN_mod,cN_mod]; grobner
 have h2: ∀n c,cN (n+2*PP - 2*(c % PP))=cN n - (cN c+cN c):=by
  intro n c
  have:=PP_pos c
  rw [cN_sub (by omega),cN_add,cN_two,cN_two,cN_PP,cN_mod]; grobner
 have h3: ∀a b,cN (2*PP - a % PP - b % PP)=0 - cN a - cN b:=by
  intro a b
  have:=h1 0 a b
  rw [Nat.zero_add] at this
  rw [this]; rfl
 apply cong4 <;> apply val_cN <;>
  simp only [h1,h2,h3,cN_mul,cN_add,cN_mod,cN_less (PP_pos _),cN_val,dblW]
def timesN {α:Type} (x y z t e:Nat) (k:Nat→Nat→Nat→Nat→α):Nat→Nat→Nat→Nat→Nat→α
 | 0,X,Y,Z,T=>k X Y Z T
 | n+1,X,Y,Z,T=>dblN X Y Z fun X Y Z T=>match e / 2 ^ n % 2 with
  | 0=>timesN x y z t e k n X Y Z T
  | _+1=>addN X Y Z T x y z t fun X Y Z T=>timesN x y z t e k n X Y Z T
theorem timesN_eq {α:Type} (w:Wd) (e:Nat) (k:Nat→Nat→Nat→Nat→α): ∀n (s:Wd),timesN w.x.val w.y.val w.z.val w.t.val e k n s.x.val s.y.val s.z.val s.t.val=k (timesW w e n s).x.val (timesW w e n s).y.val (timesW w e n s).z.val (timesW w e n s).t.val
 | 0,s=>rfl
 | n+1,s=>by
  rw [timesN,dblN_eq,timesW]
  split
  ·rename_i h0
   rw [if_neg (by omega),timesN_eq w e k n]
  ·rename_i m h1
   rw [if_pos (by omega),addN_eq,timesN_eq w e k n]
def mulE (p:K×K) (e:Nat):K×K:=
 timesN p.1.val p.2.val 1 (p.1.val*p.2.val % PP) e (fun X Y Z _=>st (pw PP Z 256 (PP - 2)) fun i=>(cN (X*i),cN (Y*i))) 256 0 1 1 0
theorem mulE_eq {p:K×K} (o:On p) {e:Nat} (h:e < 2 ^ 256):mulE p e=mulP p e:=by
 have r:=rep_aff (rep_all (rep_flat p) o e h)
 rw [mulE]
 have:=timesN_eq (flatW p) e (fun X Y Z _=>st (pw PP Z 256 (PP - 2)) fun i=>(cN (X*i),cN (Y*i))) 256 zeroW
 rw [show (flatW p).t.val=p.1.val*p.2.val % PP from Fin.val_mul _ _] at this
 refine Eq.trans this ?_
 rw [←r]
 generalize timesW (flatW p) e 256 zeroW=s
 have e1:cN (pw PP s.z.val 256 (PP - 2))=invK s.z:=by
  rw [pw_eq _ _ _ _ (by decide+kernel)]
  exact cN_mod _
 simp only [st_eq,cN_mul,cN_val,e1,affW]
theorem order:mulP baseP LL=zeroP:=by
 rw [←mulE_eq on_base (by decide+kernel)]
 decide+kernel
theorem mul_mod (n:Nat):mulP baseP (n % LL)=mulP baseP n:=by
 conv=>rhs; rw [←Nat.div_add_mod n LL,mul_add' on_base,mul_mul' on_base,order,mul_zero',zero_add']
end Go.Ab
namespace Go.Ab
set_option maxRecDepth 100000
def T256:Nat:=115792089237316195423570985008687907853269984665640564039457584007913129639936
def wq (n i:Nat):UInt64:=UInt64.ofNat (n / 18446744073709551616 ^ i)
end Go.Ab
namespace Go.Ab
abbrev U (x:UInt64):AV:= .int .u64 (x.toNat:Int)
theorem wrap_i {i:Int} (h1: -9223372036854775808≤i) (h2:i < 9223372036854775808):IntKind.wrap .i64 i=i:=by
 simp only [IntKind.wrap,IntKind.bits,IntKind.signed]
 simp; omega
end Go.Ab
namespace Go.Ab
set_option maxHeartbeats 1000000
set_option maxRecDepth 100000
end Go.Ab
namespace Go.Ab
set_option maxHeartbeats 1000000
set_option maxRecDepth 100000
end Go.Ab
namespace Go.Ab
set_option maxHeartbeats 1000000
set_option maxRecDepth 100000
end Go.Ab
namespace Go.Ab
set_option maxHeartbeats 1000000
set_option maxRecDepth 100000
end Go.Ab
namespace Go.Ab
set_option maxHeartbeats 1000000
set_option maxRecDepth 100000
end Go.Ab
namespace Go.Ab
set_option maxRecDepth 100000
section
variable (H:List UInt8→List UInt8)
end
end Go.Ab
namespace Go.Ab
set_option maxHeartbeats 1000000
set_option maxRecDepth 100000
end Go.Ab
namespace Go.Ab
set_option maxHeartbeats 1000000
set_option maxRecDepth 100000
end Go.Ab
namespace Go.Ab
set_option maxHeartbeats 1000000
set_option maxRecDepth 100000
end Go.Ab
namespace Go.Ab
set_option maxHeartbeats 1000000
set_option maxRecDepth 100000
end Go.Ab
namespace Go.Ab
set_option maxHeartbeats 1000000
set_option maxRecDepth 100000
end Go.Ab
namespace Go.Ab
set_option maxHeartbeats 1000000
set_option maxRecDepth 100000
def wideC (x y z t:Nat):List AV:= [U (wq x 0),U (wq x 1),U (wq x 2),U (wq x 3),U (wq y 0),U (wq y 1),U (wq y 2),U (wq y 3),U (wq z 0),U (wq z 1),U (wq z 2),U (wq z 3),U (wq t 0),U (wq t 1),U (wq t 2),U (wq t 3)]
structure W4 where
 x:Nat
 y:Nat
 z:Nat
 t:Nat
def W4.ok (w:W4):Prop:=w.x < T256∧w.y < T256∧w.z < T256∧w.t < T256
def W4.cells (w:W4):List AV:=wideC w.x w.y w.z w.t
end Go.Ab
namespace Go.Ab
set_option maxHeartbeats 1000000
set_option maxRecDepth 100000
end Go.Ab
namespace Go.Ab
set_option maxHeartbeats 1000000
set_option maxRecDepth 100000
end Go.Ab
namespace Go.Ab
set_option maxHeartbeats 1000000
set_option maxRecDepth 100000
end Go.Ab
namespace Go.Ab
set_option maxHeartbeats 1000000
set_option maxRecDepth 100000
end Go.Ab
namespace Go.Ab
set_option maxHeartbeats 1000000
set_option maxRecDepth 100000
end Go.Ab
namespace Go.Ab
set_option maxHeartbeats 1000000
set_option maxRecDepth 100000
end Go.Ab
namespace Go.Ab
set_option maxHeartbeats 1000000
set_option maxRecDepth 100000
end Go.Ab
namespace Go.Ab
set_option maxHeartbeats 1000000
set_option maxRecDepth 100000
theorem rb_ptr {b d:Nat} {cs:List AV} {σ:Store} (hl:look σ.m b=some (.own cs)) (hc:closedL cs=true):rb σ (d+1) (.ptr b 0)=some (.vptr cs 0):=by
 have hb:σ.cells b=some cs:=by unfold Store.cells Store.get; rw [hl]
 unfold rb
 simp only [AV.closed,hb,mapO_closed' hc]
 rfl
theorem mapO_one (f:AV→Option AV) (x:AV):mapO f [x]=(f x).map fun y=> [y]:=by
 unfold mapO
 cases f x <;> rfl
end Go.Ab
namespace Go.Ab
set_option maxHeartbeats 1000000
def A8Fa:= @F423.eq_1
def A8Fb:= @F443.eq_1
def A8Fc:= @F444.eq_1
def A8Fe:= @F459.eq_1
def A8Ff:= @F480.eq_1
set_option maxRecDepth 100000
theorem callP_box {st:Bool} {f b:Nat} {cs:List AV} {σ:Store} {r:AV} (hl:look σ.m b=some (.own cs)) (hc:closedL cs=true) (he:erL cs=cs) (hr:cR f [.vptr cs 0]=some r) (hf:r.flat=true) :
  callP ipU gU st (.fn f [] []) [.ptr b 0] σ=some (r,σ):=by
 refine callP_flat (args':= [.vptr cs 0]) rfl ?_ ?_ hf
 ·rw [show rbDepth=23+1 from rfl,mapO_one,rb_ptr hl hc]
  rfl
 ·rw [show erL [AV.vptr cs 0]= [.vptr cs 0] by rw [erL_cons,er_vptr,he,erL_nil]]
  exact hr
theorem r_serverOf (s:Bs) (hb:s.length < big):cR 480 [.str s]=some (.str (if (partsB s 64).2.2 then (partsB s 64).2.1 else (partsB s 33).2.1)):=by
 have h1:=r_User s hb
 have h2:=r_Room s hb
 refine cR_of (F:=F480) rfl ?_
 cases h:(partsB s 64).2.2 with
 | false=>
  rw [h] at h1
  simp only [A8Ff,EXA,seval,h1,h2]
 | true=>
  rw [h] at h1
  simp only [A8Ff,EXA,seval,h1]
theorem r_serverE (e:Ev) (hb:e.sender.length < big):cR 458 [evE e]=some (.str (serverE e)):=by
 have h:=r_serverOf e.sender hb
 refine cR_of (F:=F458) rfl ?_
 unfold serverE
 simp only [F458,EXA,seval,VX,h]
theorem r_openJ (e c:Ev) (he:e.sender.length < big) (hc:c.sender.length < big) (hz:c.content.sz < big):cR 443 [evE e,evE c]=some (.bool (openJ e c)):=by
 have h1:=r_get c.content kFed hz
 have h2:=r_serverE e he
 have h3:=r_serverE c hc
 refine cR_of (F:=F443) rfl ?_
 unfold openJ
 generalize getV c.content kFed=g at h1 ⊢
 obtain ⟨x,t⟩:=g
 simp only
 have n1:(x.kind != 1)= !(x.kind == 1):=rfl
 have n2:(x.n != 0)= !(x.n == 0):=rfl
 cases t with
 | false=>simp only [A8Fb,EXA,seval,VX,readAt_some,h1,Bool.true_or]
 | true=>
 cases k1:x.kind == 1 with
 | false=>rw [k1] at n1; simp only [A8Fb,EXA,seval,VX,readAt_some,h1,n1,Bool.false_or,Bool.true_or]
 | true=>
 rw [k1] at n1
 cases k2:x.n == 0 with
 | false=>rw [k2] at n2; simp only [A8Fb,EXA,seval,VX,readAt_some,h1,n1,n2,Bool.false_or,Bool.true_or]
 | true=>rw [k2] at n2; simp only [A8Fb,EXA,seval,VX,readAt_some,h1,n1,n2,h2,h3,Bool.false_or]
def courtC (e:Ev) (s:List Ev) (l:Lv):List AV:=(evE e).cells ++(.vsl (s.map evE) none ::lvC l)
theorem closedL_ev (s:List Ev):closedL (s.map evE)=true:=closedL_map fun a _=>evE_closed a
theorem erL_ev (s:List Ev):erL (s.map evE)=s.map evE:=erL_mapId fun a _=>evE_er a
theorem closedL_app: ∀ {a b:List AV},closedL a=true→closedL b=true→closedL (a ++b)=true
 | [],_,_,h=>h
 | x ::a,b,h1,h2=>by
  simp only [closedL,Bool.and_eq_true,List.cons_append] at h1 ⊢
  exact ⟨h1.1,closedL_app h1.2 h2⟩
theorem erL_app: ∀(a b:List AV),erL (a ++b)=erL a ++erL b
 | [],_=>by simp only [erL,List.nil_append]
 | x ::a,b=>by simp only [List.cons_append,erL,erL_app a b]
theorem court_closed (e:Ev) (s:List Ev) (l:Lv):closedL (courtC e s l)=true:=by
 refine closedL_app ?_ ?_
 ·have:=evE_closed e; unfold evE at this ⊢; simpa only [AV.closed,AV.cells] using this
 ·simp only [closedL,AV.closed,closedL_ev,lvE_closed,Bool.and_self]
theorem court_er (e:Ev) (s:List Ev) (l:Lv):erL (courtC e s l)=courtC e s l:=by
 unfold courtC
 rw [erL_app]
 have h1:erL (evE e).cells=(evE e).cells:=by
  have:=evE_er e; unfold evE at this ⊢; simp only [AV.er,AV.agg.injEq] at this; exact this
 rw [h1]
 simp only [erL,AV.er,erL_ev,lvE_er]
theorem r_memJ {pv:V→V→Bool} {e:Ev} {s:List Ev} (l:Lv) (hk:e.key.length < big)
  (hF:cR 418 [evE e, .vsl (s.map evE) none]=some (.tup [.agg (fcC (factsS pv e s).1), .bool (factsS pv e s).2])):cR 459 [.vptr (courtC e s l) 0]=some (.bool (memJ pv e s)):=by
 have h2:=r_mayF (factsS pv e s).1
 have h1:=r_User e.key hk
 refine cR_of (F:=F459) rfl ?_
 unfold memJ
 generalize factsS pv e s=q at hF h2 ⊢
 obtain ⟨f,is⟩:=q
 obtain ⟨v,id,room,type,sender,key,isState,ts,depth,prev,auth,content⟩:=e
 unfold courtC
 rw [evE_cells]
 unfold lvC
 simp only [List.cons_append,List.nil_append]
 simp only [fcC] at hF h2 h1
 cases isState with
 | false=>simp only [A8Fe,EXA,seval,VX,readAt_some,nilcOf,h1,hF,Bool.false_and]
 | true=>
 cases h4:(partsB key 64).2.2 with
 | false=>rw [h4] at h1; simp only [A8Fe,EXA,seval,VX,readAt_some,nilcOf,h1,hF,Bool.false_and,Bool.and_false]
 | true=>
 rw [h4] at h1
 cases is with
 | false=>simp only [A8Fe,EXA,seval,VX,readAt_some,nilcOf,h1,hF,Bool.false_and,Bool.and_false]
 | true=>simp only [A8Fe,EXA,seval,VX,readAt_some,nilcOf,h1,hF,h2]
def judgeN (t:Bs):Nat:=if t == kMember then 459 else if t == kThirdInv then 460 else if t == kPower then 461 else 462
theorem r_judgeN (t:Bs):cR 444 [.str t]=some (.fn (judgeN t) [] []):=by
 refine cR_of (F:=F444) rfl ?_
 unfold judgeN
 cases h1:t == kMember with
 | true=>simp only [A8Fc,EXA,seval,h1]
 | false=>
 cases h2:t == kThirdInv with
 | true=>simp only [A8Fc,EXA,seval,h1,h2]
 | false=>
 cases h3:t == kPower <;> simp only [A8Fc,EXA,seval,h1,h2,h3]
theorem r_allowedS {pv:V→V→Bool} {ch:V→V→Bs→Bool} {s:List Ev} (h:okSt s) (e:Ev) (he:e.sender.length < big) (hs: ∀x∈s,x.sender.length < big)
  (hC:(e.type == kCreate)=true→cR 429 [evE e]=some (.bool (createJ e)))
  (hJ:(e.type == kCreate)=false→cR (judgeN e.type) [.vptr (courtC e s (levelsS s).1) 0]=some (.bool (judgeJ pv ch e s (levelsS s).1))) :
  cR 423 [evE e, .vsl (s.map evE) none]=some (.bool (allowedS pv ch e s)):=by
 have h1:=h.of ⟨kCreate, []⟩
 have h2:=r_levelsS h
 have h3:=r_openJ e (ofE s ⟨kCreate, []⟩).1 he (by
  cases hf:s.find? (isAt ⟨kCreate, []⟩) with
  | none=>rw [ofE_none hf]; decide
  | some x=>rw [ofE_some hf]; exact hs x (List.mem_of_find?_eq_some hf)) (h.szb _)
 have h4:=r_judgeN e.type
 refine cR_of (F:=F423) rfl ?_
 unfold allowedS
 cases ht:e.type == kCreate with
 | true=>
  have hc:=hC ht
  simp only [A8Fa,EXA,seval,VX,readAt_some,ht,hc]
 | false=>
 have hj:=hJ ht
 simp only [Bool.false_eq_true,if_false]
 generalize ofE s ⟨kCreate, []⟩=p at h1 h3 ⊢
 obtain ⟨c,t⟩:=p
 generalize levelsS s=q at h2 hj ⊢
 obtain ⟨l,is⟩:=q
 simp only at h3 hj ⊢
 have hcc:=court_closed e s l
 have hce:=court_er e s l
 have hbox:=fun σ b (hl:look σ.m b=some (.own (courtC e s l)))=>callP_box (st:=true) (σ:=σ) hl hcc hce hj rfl
 have hlc:=lvE_closed l
 have hle:=lvE_er l
 have hne:(c.room != e.room)= !(c.room == e.room):=rfl
 unfold lvC at h2 hlc hle
 cases t with
 | false=>simp only [A8Fa,EXA,seval,VX,ht,h1,h2,Bool.false_and]
 | true=>
 cases is with
 | false=>simp only [A8Fa,EXA,seval,VX,ht,h1,h2,Bool.false_and,Bool.and_false]
 | true=>
 cases hr:c.room == e.room with
 | false=>simp only [A8Fa,EXA,seval,VX,ht,h1,h2,hr,Bool.false_and,Bool.and_false]
 | true=>
 cases ho:openJ e c with
 | false=>rw [ho] at h3; simp only [A8Fa,EXA,seval,VX,readAt_some,ht,h1,h2,h3,hr,Bool.and_false]
 | true=>
  rw [ho] at h3
  have hb2:=fun σ b=>hbox σ b
  unfold courtC at hb2
  rw [evE_cells] at hb2
  unfold lvC at hb2
  simp only [List.cons_append,List.nil_append] at hb2
  simp only [A8Fa,EXA,seval,VX,readAt_some,ht,h1,h2,h3,h4,hr]
  rw [hb2 _ _ rfl]
  simp only [EXA,seval]
end Go.Ab
namespace Go.Ab
set_option maxHeartbeats 1000000
set_option maxRecDepth 100000
abbrev uAnn:Bs:= [64,97,110,110,58,97,46,111,114,103]
abbrev uBob:Bs:= [64,98,111,98,58,98,46,111,114,103]
abbrev uCat:Bs:= [64,99,97,116,58,97,46,111,114,103]
abbrev uDan:Bs:= [64,100,97,110,58,99,46,111,114,103]
abbrev kPriv:Bs:= [112,114,105,118,97,116,101]
abbrev kNoUser:Bs:= [110,111,116,32,97,32,117,115,101,114]
abbrev rmA:Bs:= [33,114,58,97,46,111,114,103]
abbrev id1:Bs:= [36,49]
abbrev id2:Bs:= [36,50]
abbrev id3:Bs:= [36,51]
abbrev id4:Bs:= [36,52]
abbrev id9:Bs:= [36,57]
def usersM:List Bs:= [uAnn,uBob,uCat,uDan]
def whatsM:List Bs:= [kJoin,kInvite,kLeave,kBanL,kKnock]
def rulesM:List Bs:= [kPublic,kInvite,kKnock,kRestr,kPriv]
def memC (what:Bs):V:=mapOf [(kMembership,tV3 what)]
def toE (sender key what:Bs):Ev:=⟨V.zero,id9,rmA,kMember,sender,key,true,0,0, [], [],memC what⟩
def crE:Ev:=⟨V.zero,id1,rmA,kCreate,uAnn, [],true,0,0, [], [],mapOf [(kCreator,tV3 uAnn),(kVersion,tV3 [49,48])]⟩
def anE:Ev:=⟨V.zero,id2,rmA,kMember,uAnn,uAnn,true,0,0, [id1], [id1],memC kJoin⟩
def poE:Ev:=⟨V.zero,id3,rmA,kPower,uAnn, [],true,0,0, [id2], [],mapOf [(kUsers,mapOf [(uAnn,iV2 100)])]⟩
def joE (rule:Bs):Ev:=⟨V.zero,id4,rmA,kJoins,uAnn, [],true,0,0, [id3], [],mapOf [(kJoinRule,tV3 rule)]⟩
def roomS (rule:Bs):List Ev:= [crE,anE,poE,joE rule]
def otherS (e x:Ev):Bool:= !(x.type == e.type) || !(x.key == e.key)
def putS1 (s:List Ev) (e:Ev):List Ev:=s.filter (otherS e) ++ [e]
structure InvM (s:List Ev) (n:Nat):Prop where
 create:ofE s ⟨kCreate, []⟩=(crE,true)
 power:ofE s ⟨kPower, []⟩=(poE,true)
 len:s.length≤n
 small: ∀x∈s,x.prev.length < 2∧x.auth.length < 2∧x.content.sz < 1000∧x.type.length+x.key.length+x.sender.length+x.room.length < 1000
theorem find_filter {α:Type} {p q:α→Bool} {l:List α} (h: ∀x,q x=true→p x=true):(l.filter p).find? q=l.find? q:=by
 induction l with
 | nil=>rfl
 | cons a l ih=>
  rw [List.filter_cons]
  by_cases hp:p a=true
  ·rw [if_pos hp,List.find?_cons,List.find?_cons,ih]
  ·rw [if_neg hp,ih,List.find?_cons]
   have:q a=false:=by
    cases hq:q a with
    | false=>rfl
    | true=>exact absurd (h a hq) hp
   rw [this]
theorem isAt_iff {s:Slt} {x:Ev} (h:isAt s x=true):x.isState=true∧x.type=s.type∧x.key=s.key:=by
 unfold isAt sEq Ev.slot at h
 simp only [Bool.and_eq_true,beq_iff_eq] at h
 exact h
theorem put_other {s:List Ev} {e:Ev} {t:Slt} (h:e.type≠t.type):ofE (putS1 s e) t=ofE s t:=by
 have h2:(putS1 s e).find? (isAt t)=s.find? (isAt t):=by
  unfold putS1
  rw [List.find?_append,find_filter (q:=isAt t) (p:=otherS e)]
  ·have: [e].find? (isAt t)=none:=by
    rw [List.find?_eq_none]
    intro x hx
    simp only [List.mem_singleton] at hx
    subst hx
    intro hh
    exact h (isAt_iff hh).2.1
   rw [this,Option.or_none]
  ·intro x hx
   obtain ⟨_,h1,_⟩:=isAt_iff hx
   unfold otherS
   have:(x.type == e.type)=false:=by simp only [beq_eq_false_iff_ne,h1]; exact fun hh=>h hh.symm
   rw [this]; rfl
 unfold ofE; rw [h2]
theorem put_same {s:List Ev} {e:Ev} (h:e.isState=true):ofE (putS1 s e) ⟨e.type,e.key⟩=(e,true):=by
 have h2:(putS1 s e).find? (isAt ⟨e.type,e.key⟩)=some e:=by
  unfold putS1
  rw [List.find?_append]
  have h1:(s.filter (otherS e)).find? (isAt ⟨e.type,e.key⟩)=none:=by
   rw [List.find?_eq_none]
   intro x hx hh
   rw [List.mem_filter] at hx
   obtain ⟨_,q1,q2⟩:=isAt_iff hh
   have:=hx.2
   unfold otherS at this
   simp only [q1,q2,beq_self_eq_true,Bool.not_true,Bool.or_self,Bool.false_eq_true] at this
  have h3:isAt ⟨e.type,e.key⟩ e=true:=by
   unfold isAt sEq Ev.slot; simp [h]
  rw [h1,Option.none_or,List.find?_cons,h3]
 unfold ofE; rw [h2]
theorem InvM.put {s:List Ev} {n:Nat} {e:Ev} (h:InvM s n) (ht:e.type=kMember) (hs:e.prev.length < 2∧e.auth.length < 2∧e.content.sz < 1000∧e.type.length+e.key.length+e.sender.length+e.room.length < 1000):InvM (putS1 s e) (n+1) where
 create:=by rw [put_other (by rw [ht]; decide)]; exact h.create
 power:=by rw [put_other (by rw [ht]; decide)]; exact h.power
 len:=by
  unfold putS1
  have:=List.length_filter_le (otherS e) s
  have:=h.len
  simp; omega
 small:=by
  intro x hx
  unfold putS1 at hx
  rw [List.mem_append,List.mem_singleton] at hx
  rcases hx with hx | hx
  ·exact h.small x (List.mem_filter.1 hx).1
  ·subst hx; exact hs
theorem InvM.room (rule:Bs) (h:rule.length < 100):InvM (roomS rule) 4 where
 create:=by unfold roomS ofE; rfl
 power:=by unfold roomS ofE; rfl
 len:=by unfold roomS; simp
 small:=by
  intro x hx
  unfold roomS at hx
  simp only [List.mem_cons,List.not_mem_nil,or_false] at hx
  rcases hx with rfl | rfl | rfl | rfl
  ·exact ⟨by decide,by decide,by decide,by decide⟩
  ·exact ⟨by decide,by decide,by decide,by decide⟩
  ·exact ⟨by decide,by decide,by decide,by decide⟩
  ·refine ⟨by simp [joE],by simp [joE],?_,by simp [joE]⟩
   show (V.mk 5 0 [] [] [(kJoinRule,tV3 rule)]).sz < 1000
   simp only [V.sz,szM,szL,tV3,List.length_cons,List.length_nil]; omega
end Go.Ab
namespace Go.Ab
set_option maxHeartbeats 1000000
set_option maxRecDepth 100000
structure Made (lst:List V) (wl:List Bs) (n:Nat):Prop where
 fine: ∀e∈lst,e.fine=true
 dep: ∀e∈lst,e.dep≤1
 sz: ∀e∈lst,e.sz≤100
 len:lst.length≤n
 want:allowsL [] lst=wl
end Go.Ab
namespace Go.Ab
set_option maxHeartbeats 1000000
set_option maxRecDepth 100000
theorem r_toE (a b w:Bs):cR 422 [.str a, .str b, .str w]=some (evE (toE a b w)):=by
 have h1:=r_Text w
 have h2:=r_Map [(kMembership,tV3 w)] (by simp)
 have e:memC w=mapOf [(kMembership,tV3 w)]:=rfl
 rw [←e] at h2
 simp only [List.map_cons,List.map_nil] at h2
 refine cR_of (F:=F422) rfl ?_
 unfold toE
 generalize memC w=m at h2 ⊢
 have q:=V.enc_cells m
 simp only [tV3] at h1 h2
 simp only [F422,EXA,seval,VX,readAt_some,V.eta,h1,h2,q]
 rfl
theorem r_roomE {rule:Bs} (h:rule∈rulesM):cR 421 [.str rule]=some (.vsl ((roomS rule).map evE) none):=by
 simp only [rulesM,List.mem_cons,List.not_mem_nil,or_false] at h
 rcases h with rfl | rfl | rfl | rfl | rfl <;> exact cR_closed 4000 (by kernel_rfl)
def RdS (σ:Store) (v:AV) (s:List Ev):Prop:=v= .vsl (s.map evE) none∨∃b,v= .sl b 0 s.length 20 none∧Own LEv σ (some b) s
section
variable {σ:Store} {v:AV} {s:List Ev}
theorem RdS.lenL (h:RdS σ v s):lenL v=some (.int .i64 s.length):=by
 rcases h with rfl | ⟨b,rfl,_⟩
 ·rw [lenL_vsl,List.length_map]
 ·rfl
theorem RdS.rb (h:RdS σ v s): ∃v',Go.Ab.rb σ rbDepth v=some v'∧v'.er= .vsl (s.map evE) none:=by
 rcases h with rfl | ⟨b,rfl,h⟩
 ·exact ⟨_,rb_closed' (by simp only [AV.closed]; exact closedL_ev s),by simp only [AV.er,erL_ev]⟩
 ·exact Own.rb (L:=LEv) (ob:=some b) h
theorem RdS.call2 {st:Bool} {f:Nat} {x r:AV} (h:RdS σ v s) (hx:x.closed=true) (hc:cR f [x.er, .vsl (s.map evE) none]=some r) (hr:r.flat=true) :
  callP ipU gU st (.fn f [] []) [x,v] σ=some (r,σ):=by
 obtain ⟨v',h1,h2⟩:=h.rb
 refine callP_flat (args':= [x,v']) rfl ?_ ?_ hr
 ·simp only [mapO,h1,rb_closed' hx]
 ·simp only [erL,h2,AV.er]; exact hc
theorem RdS.call1 {st:Bool} {f:Nat} {x r:AV} (h:RdS σ v s) (hx:x.closed=true) (hc:cR f [.vsl (s.map evE) none,x.er]=some r) (hr:r.flat=true) :
  callP ipU gU st (.fn f [] []) [v,x] σ=some (r,σ):=by
 obtain ⟨v',h1,h2⟩:=h.rb
 refine callP_flat (args':= [v',x]) rfl ?_ ?_ hr
 ·simp only [mapO,h1,rb_closed' hx]
 ·simp only [erL,h2,AV.er]; exact hc
theorem RdS.frame {σ':Store} (h:RdS σ v s) (hg: ∀b o l z c,v= .sl b o l z c→σ'.get b=σ.get b) (hn:σ.next≤σ'.next):RdS σ' v s:=by
 rcases h with h | ⟨b,rfl,h⟩
 ·exact .inl h
 ·exact .inr ⟨b,rfl,h.frame (hg b _ _ _ _ rfl) hn⟩
theorem ev_at {e:Ev} {k:Nat} {x:AV} (h:(evE e).cells[k]? =some x) {l:List Ev} {j:Nat} (hj:l[j]? =some e):(LEv.cells l)[j*20+k]? =some x:=by
 have hlt:=lt_of_get hj
 have hk:k < 20:=lt_of_get h
 have e1:LEv.cells l=LEv.cells (l.take j) ++(LEv.cells (l.drop j)):=by
  rw [←LEv.cells_append,List.take_append_drop]
 have e2:(LEv.cells (l.take j)).length=j*20:=by rw [LEv.cells_len,List.length_take,Nat.min_eq_left (Nat.le_of_lt hlt)]; rfl
 rw [e1,List.getElem?_append_right (by omega),e2,show j*20+k - j*20=k by omega,drop_cons hj,LEv.cells_cons,List.getElem?_append_left (by show k < (evE e).cells.length; exact hk)]
 exact h
theorem RdS.idx (h:RdS σ v s) {j:Nat} {x:Ev} (hx:s[j]? =some x): ∃p q7 q9,idxOf 20 none v (.int .i64 (j:Int))=some p∧fieldAOf 7 p=some q7∧fieldAOf 9 p=some q9∧
  readPtr σ q7 none=some (.str x.type)∧readPtr σ q9 none=some (.str x.key)∧readPtr σ p (some 20)=some (evE x):=by
 rcases h with rfl | ⟨b,rfl,h⟩
 ·exact ⟨_,_,_,idx_ev (c:=none) hx,rfl,rfl,rfl,rfl,rfl⟩
 ·have hlt:=lt_of_get hx
  have hc:σ.cells b=some (LEv.cells s):=by have:=h.1; simp [Store.cells,this]
  refine ⟨.ptr b (j*20), .ptr b (j*20+7), .ptr b (j*20+9),by simp [idxOf,hlt],rfl,rfl,?_,?_,?_⟩
  ·simp only [readPtr,hc,readAt]; exact ev_at rfl hx
  ·simp only [readPtr,hc,readAt]; exact ev_at rfl hx
  ·simp only [readPtr,hc]; exact LEv.read hx (by decide)
end
structure MadeS (σ:Store) (B:Nat) (v:AV) (s:List Ev) (e:Ev) (w:AV) (acc:List Ev):Prop where
 rd:RdS σ v s
 ev:look σ.m B=some (.own (evE e).cells)
 gr:Gr LEv σ w acc
 far: ∀b o l z c,w= .sl b o l z c→B < b
 lt:B < σ.next
 near: ∀b o l z c,v= .sl b o l z c→b < B
theorem MadeS.push {σ:Store} {B:Nat} {v:AV} {s:List Ev} {e:Ev} {w:AV} {acc:List Ev} (h:MadeS σ B v s e w acc) (x:Ev) :
  MadeS (grNext LEv σ w acc [x]) B v s e (.sl σ.next 0 (acc ++ [x]).length 20 none) (acc ++ [x]) where
 rd:=h.rd.frame (fun b o l z c hv=>grNext_get h.gr (by have:=h.near b o l z c hv; have:=h.lt; omega) (fun len sz c' hw=>by have:=h.far _ _ _ _ _ hw; have:=h.near b o l z c hv; omega)) (by rw [grNext_next]; omega)
 ev:=(grNext_get (m:= [x]) h.gr h.lt (fun len sz c' hw=>by have:=h.far _ _ _ _ _ hw; omega)).trans h.ev
 gr:=Gr.own (h.gr.next (by simp))
 far:=by
  intro b o l z c hw
  simp only [AV.sl.injEq] at hw
  have:=h.lt; omega
 lt:=by rw [grNext_next]; have:=h.lt; omega
 near:=h.near
end Go.Ab
namespace Go.Ab
set_option maxHeartbeats 1000000
set_option maxRecDepth 100000
def pv0:V→V→Bool:=fun _ _=>false
def ch0:V→V→Bs→Bool:=fun _ _ _=>false
theorem InvM.ok {s:List Ev} {n:Nat} (h:InvM s n) (hn:n < 1000):okSt s:=
 ⟨by have:=h.len; unfold big; omega,fun x hx=>by obtain ⟨h1,h2,h3,_⟩:=h.small x hx; exact ⟨⟨by unfold lim; omega,by unfold lim; omega⟩,by unfold lim; omega⟩⟩
theorem InvM.sender {s:List Ev} {n:Nat} (h:InvM s n): ∀x∈s,x.sender.length < big:=fun x hx=>by
 obtain ⟨_,_,_,h4⟩:=h.small x hx; unfold big; omega
theorem po_level:(powerOf poE.content).2=0:=by kernel_rfl
theorem InvM.levels {s:List Ev} {n:Nat} (h:InvM s n):(levelsS s).2=true:=by
 unfold levelsS
 rw [h.power]
 simp only [if_true]
 rw [po_level]; rfl
theorem what_sz {w:Bs} (h:w∈whatsM):(memC w).sz < 1000:=by
 simp only [whatsM,List.mem_cons,List.not_mem_nil,or_false] at h
 rcases h with rfl | rfl | rfl | rfl | rfl <;> decide+kernel
theorem what_third {w:Bs} (h:w∈whatsM):(getV (memC w) kThird).2=false:=by
 simp only [whatsM,List.mem_cons,List.not_mem_nil,or_false] at h
 rcases h with rfl | rfl | rfl | rfl | rfl <;> kernel_rfl
theorem what_is {w:Bs} (h:w∈whatsM):membershipV (memC w)=w:=by
 simp only [whatsM,List.mem_cons,List.not_mem_nil,or_false] at h
 rcases h with rfl | rfl | rfl | rfl | rfl <;> kernel_rfl
theorem user_len {u:Bs} (h:u∈usersM):u.length=10:=by
 simp only [usersM,List.mem_cons,List.not_mem_nil,or_false] at h
 rcases h with rfl | rfl | rfl | rfl <;> rfl
theorem user_is {u:Bs} (h:u∈usersM):(partsB u 64).2.2=true:=by
 simp only [usersM,List.mem_cons,List.not_mem_nil,or_false] at h
 rcases h with rfl | rfl | rfl | rfl <;> kernel_rfl
theorem no_user:(partsB kNoUser 64).2.2=false:=by kernel_rfl
theorem cr_open:(getV crE.content kFed).2=false:=by kernel_rfl
theorem m_facts {s:List Ev} {n:Nat} (h:InvM s n) (hn:n < 1000) {a b w:Bs} (hw:w∈whatsM):cR 418 [evE (toE a b w), .vsl (s.map evE) none]=some (.tup [.agg (fcC (factsS pv0 (toE a b w) s).1), .bool (factsS pv0 (toE a b w) s).2]):=
 r_factsS (h.ok hn) (toE a b w) (by have:=what_sz hw; show (memC w).sz < big; unfold big; omega) (fun _=>r_kind0 (toE a b w) (by have:=what_sz hw; show (memC w).sz < big; unfold big; omega) (what_third hw))
theorem m_ok {s:List Ev} {n:Nat} (h:InvM s n) {a b w:Bs}:(factsS pv0 (toE a b w) s).2=true:=by
 unfold factsS
 rw [h.levels]
 rfl
theorem m_allowed {s:List Ev} {n:Nat} (h:InvM s n) (hn:n < 1000) {a b w:Bs} (hw:w∈whatsM) (hb:b.length < 100) (ha:a.length < 100):cR 423 [evE (toE a b w), .vsl (s.map evE) none]=some (.bool (allowedS pv0 ch0 (toE a b w) s)):=by
 refine r_allowedS (h.ok hn) (toE a b w) (by show a.length < big; unfold big; omega) h.sender (fun hc=>absurd (show (kMember == kCreate)=true from hc) (by decide)) (fun _=> ?_)
 show cR 459 [.vptr (courtC (toE a b w) s (levelsS s).1) 0]=some (.bool (memJ pv0 (toE a b w) s))
 exact r_memJ _ (by show b.length < big; unfold big; omega) (m_facts h hn hw)
theorem m_same {s:List Ev} {n:Nat} (h:InvM s n) {a b w:Bs} (hu:(partsB b 64).2.2=true):allowedS pv0 ch0 (toE a b w) s=mayF (factsS pv0 (toE a b w) s).1:=by
 unfold allowedS
 rw [h.create,h.levels]
 have ht:((toE a b w).type == kCreate)=false:=show (kMember == kCreate)=false from by decide
 have hr:(crE.room == (toE a b w).room)=true:=show (rmA == rmA)=true from by decide
 have ho:openJ (toE a b w) crE=true:=by unfold openJ; simp only [cr_open,Bool.not_false,Bool.true_or]
 simp only [ht,hr,ho,Bool.and_self,if_true,Bool.false_eq_true,if_false]
 show memJ pv0 (toE a b w) s=_
 unfold memJ
 rw [m_ok h]
 show (true && ((partsB b 64).2.2 && (true && _)))=_
 rw [hu]; rfl
theorem m_none {s:List Ev} {n:Nat} (h:InvM s n) {a w:Bs}:allowedS pv0 ch0 (toE a kNoUser w) s=false:=by
 unfold allowedS
 rw [h.create,h.levels]
 have ht:((toE a kNoUser w).type == kCreate)=false:=show (kMember == kCreate)=false from by decide
 have hr:(crE.room == (toE a kNoUser w).room)=true:=show (rmA == rmA)=true from by decide
 have ho:openJ (toE a kNoUser w) crE=true:=by unfold openJ; simp only [cr_open,Bool.not_false,Bool.true_or]
 simp only [ht,hr,ho,Bool.and_self,if_true,Bool.false_eq_true,if_false]
 show memJ pv0 (toE a kNoUser w) s=_
 unfold memJ
 show (true && ((partsB kNoUser 64).2.2 && _))=_
 rw [no_user]; rfl
theorem toE_small {a b w:Bs} (hw:w∈whatsM) (ha:a.length < 100) (hb:b.length < 100):(toE a b w).prev.length < 2∧(toE a b w).auth.length < 2∧(toE a b w).content.sz < 1000∧(toE a b w).type.length+(toE a b w).key.length+(toE a b w).sender.length+(toE a b w).room.length < 1000:=
 ⟨by show 0 < 2; omega,by show 0 < 2; omega,what_sz hw,by show 13+b.length+a.length+8 < 1000; omega⟩
theorem m_member {s:List Ev} {a b w:Bs} (hw:w∈whatsM):memberS (putS1 s (toE a b w)) b=w:=by
 unfold memberS
 have:=put_same (s:=s) (e:=toE a b w) rfl
 show (if (ofE (putS1 s (toE a b w)) ⟨(toE a b w).type,(toE a b w).key⟩).2 then membershipV (ofE (putS1 s (toE a b w)) ⟨(toE a b w).type,(toE a b w).key⟩).1.content else [])=w
 rw [this]
 exact what_is hw
end Go.Ab
namespace Go.Ab
set_option maxHeartbeats 1000000
set_option maxRecDepth 100000
theorem r_awake21:cR 417 []=some (.bool true):=cR_closed 100000 (by kernel_rfl)
end Go.Ab
namespace Go.Ab
set_option maxHeartbeats 1000000
def AM4Fa:=J @F420_20.eq_1 (J @F420_39.eq_1 (J @F420_49.eq_1 (J @F420_50.eq_1 (J @F420_55.eq_1 (J @F420_62.eq_1 (J @F420_64.eq_1 (J @F420_82.eq_1 (J @F420_83.eq_1 (@F420.eq_1)))))))))
set_option maxRecDepth 100000
theorem idx_strK {l:List Bs} {j:Nat} {s:Bs} {c:Option Nat} {k:IntKind} (h:l[j]? =some s):idxOf 1 none (.vsl (l.map .str) c) (.int k (j:Int))=some (.vptr [.str s] 0):=by
 simp [idxOf,h,AV.cells]
theorem RdS.newset {σ:Store} {v:AV} {s:List Ev} (h:RdS σ v s) (cs cs':List AV):RdS { next:=σ.next+1,m:=(σ.next, .own cs) ::(σ.next, .own cs') ::σ.m } v s:=
 h.frame (fun b o l z c hv=>by
  show look ((σ.next,Blk.own cs) ::(σ.next, .own cs') ::σ.m) b=look σ.m b
  have hb:b < σ.next:=by
   rcases h with rfl | ⟨b',rfl,h⟩
   ·simp at hv
   ·simp only [AV.sl.injEq] at hv; obtain ⟨rfl,_⟩:=hv; exact h.lt
  simp only [look]; rw [if_neg (by omega),if_neg (by omega)]) (by simp)
theorem RdS.near {σ:Store} {v:AV} {s:List Ev} (h:RdS σ v s): ∀b o l z c,v= .sl b o l z c→b < σ.next:=by
 intro b o l z c hv
 rcases h with rfl | ⟨b',rfl,h⟩
 ·simp at hv
 ·simp only [AV.sl.injEq] at hv; obtain ⟨rfl,_⟩:=hv; exact h.lt
theorem otherS_eq (e x:Ev):otherS e x=(!(x.type == e.type) || !(x.key == e.key)):=rfl
theorem am_inner {B:Nat} {v:AV} {s:List Ev} {e:Ev} (hlen:s.length < 1000) {k:List Item} {Q:Fr→Store→Prop} {a1 a2 a3 a9 a10 a12 a13:AV}
  (hk: ∀σ' w',MadeS σ' B v s e w' (s.filter (otherS e))→Ex ipU gU (.code F420_63 ::k) [(1,a1),(2,a2),(3,a3),(9,a9),(10,a10),(12,a12),(13,a13),(14, .ptr B 0),(17,w')] σ' Q)
  {σ:Store} (h:MadeS σ B v s e .nils []) :
  Ex ipU gU (.code F420_50 :: .inLoop [1,2,3,9,10,11,12,13,14,17,18] F420_50 :: .inBlock 2 :: .code F420_64 ::k) [(1,a1),(2,a2),(3,a3),(9,a9),(10,a10),(11,v),(12,a12),(13,a13),(14, .ptr B 0),(17, .nils),(18, .int .i64 0)] σ Q:=by
 refine ex_whileI (S:=Nat×AV×List Ev) (fun p=> [(1,a1),(2,a2),(3,a3),(9,a9),(10,a10),(11,v),(12,a12),(13,a13),(14, .ptr B 0),(17,p.2.1),(18, .int .i64 (p.1:Int))]) (fun p=>s.length - p.1)
  (fun p σ=>MadeS σ B v s e p.2.1 p.2.2∧p.1≤s.length∧p.2.2.length≤p.1∧p.2.2 ++(s.drop p.1).filter (otherS e)=s.filter (otherS e)) ?_ (0, .nils, []) σ ⟨h,Nat.zero_le _,Nat.le_refl _,by simp⟩
 rintro b ⟨j,w,acc⟩ σ ⟨hm,hj,hal,hf⟩ ih
 simp only at hm hj hal hf ih ⊢
 have hll:=hm.rd.lenL
 by_cases hlt:j < s.length
 ·obtain ⟨x,hx⟩:=get_lt hlt
  obtain ⟨p,q7,q9,i1,i2,i3,i4,i5,i6⟩:=hm.rd.idx hx
  have hcond:=dlt hlt
  have hw:=wsucc hlt (by omega)
  have hev:=hm.ev
  rw [evE_cells] at hev
  rw [drop_cons hx,List.filter_cons,otherS_eq] at hf
  have happ:appendTo σ 20 312 w (evE x).cells 1=some _:=hm.gr.push (a:=x) (bytes:=312) (by omega) (by unfold maxBytes; omega)
  rw [evE_cells] at happ
  have hlo:lenOf (.vsl [evE x] (some 1))=some 1:=rfl
  have hro: ∀σ',rowOf σ' 20 (.vsl [evE x] (some 1))=some (evE x).cells:=fun _=>rfl
  simp only [evE_cells] at hro
  have hpush:=hm.push x
  cases ht:x.type == e.type with
  | false=>
   simp only [ht,Bool.not_false,Bool.true_or,if_true] at hf
   simp only [AM4Fa,EXA,seval,VX,readAt_some,V.eta,hll,hcond,i1,i2,i3,i4,i5,i6,hev,ht,hlo,hro,happ,hw]
   exact ih (j+1, .sl σ.next 0 (acc ++ [x]).length 20 none,acc ++ [x]) _ _ (by simp; omega) ⟨hpush,by simp; omega,by simp; omega,by simpa using hf⟩ (by simp only [EXA,seval]; rfl)
  | true=>
  cases hk2:x.key == e.key with
  | false=>
   simp only [ht,hk2,Bool.not_false,Bool.not_true,Bool.false_or,if_true] at hf
   simp only [AM4Fa,EXA,seval,VX,readAt_some,V.eta,hll,hcond,i1,i2,i3,i4,i5,i6,hev,ht,hk2,hlo,hro,happ,hw]
   exact ih (j+1, .sl σ.next 0 (acc ++ [x]).length 20 none,acc ++ [x]) _ _ (by simp; omega) ⟨hpush,by simp; omega,by simp; omega,by simpa using hf⟩ (by simp only [EXA,seval]; rfl)
  | true=>
   simp only [ht,hk2,Bool.not_true,Bool.or_self,Bool.false_eq_true,if_false] at hf
   simp only [AM4Fa,EXA,seval,VX,readAt_some,V.eta,hll,hcond,i1,i2,i3,i4,i5,hev,ht,hk2,hw]
   exact ih (j+1,w,acc) _ _ (by simp; omega) ⟨hm,by simp; omega,by simp; omega,hf⟩ (by simp only [EXA,seval])
 ·have hcond:=dge (Nat.not_lt.1 hlt)
  rw [List.drop_eq_nil_of_le (by omega),List.filter_nil,List.append_nil] at hf
  subst hf
  simp only [AM4Fa,EXA,seval,VX,hll,hcond]
  exact hk σ w hm
end Go.Ab
namespace Go.Ab
set_option maxHeartbeats 1000000
def AM5Fb:=J @F420_20.eq_1 (J @F420_39.eq_1 (J @F420_49.eq_1 (J @F420_55.eq_1 (J @F420_62.eq_1 (J @F420_64.eq_1 (J @F420_82.eq_1 (J @F420_83.eq_1 (@F420.eq_1))))))))
def AM5Fc:=J @F420_20.eq_1 (J @F420_39.eq_1 (J @F420_49.eq_1 (J @F420_50.eq_1 (J @F420_55.eq_1 (J @F420_62.eq_1 (J @F420_63.eq_1 (J @F420_64.eq_1 (J @F420_82.eq_1 (@F420.eq_1)))))))))
set_option maxRecDepth 100000
theorem wrapU_nat (x:Int): ∃n:Nat,IntKind.wrap .u64 x=(n:Int)∧n < 18446744073709551616:=by
 refine ⟨(IntKind.wrap .u64 x).toNat,?_,?_⟩
 ·simp [IntKind.wrap,IntKind.bits,IntKind.signed]; omega
 ·simp [IntKind.wrap,IntKind.bits,IntKind.signed]; omega
theorem wrapU_id {n:Nat} (h:n < 18446744073709551616):IntKind.wrap .u64 (n:Int)=(n:Int):=by
 simp [IntKind.wrap,IntKind.bits,IntKind.signed]; omega
theorem get_ne {α:Type} {l:List α} {j n:Nat} (hl:l.length=n) (h:0 < n): ∃x,l[j % n]? =some x∧x∈l:=by
 obtain ⟨x,hx⟩:=get_lt (l:=l) (j:=j % n) (by rw [hl]; exact Nat.mod_lt _ h)
 exact ⟨x,hx,List.mem_of_getElem? hx⟩
abbrev amF (who what:Int) (more:List Int) (v:AV) (i:Int):Fr:= [(1, .int .i64 who),(2, .int .i64 what),(3, .vsl (more.map (.int .i64)) none),(9, .vsl (usersM.map .str) (some 4)),(10, .vsl (whatsM.map .str) (some 5)),(11,v),(12, .int .i64 i)]
theorem r_AuthMembers (rule who what:Int) (more:List Int):cR 420 [.int .i64 rule, .int .i64 who, .int .i64 what, .vsl (more.map (.int .i64)) none]=some (.bool true):=by
 have haw:=r_awake21
 refine cR_of (F:=F420) rfl ?_
 by_cases hlong:12 < more.length
 ·have d1:decide ((more.length:Int) > 12)=true:=by simp; omega
  simp only [AM5Fc,EXA,seval,VX,closedL_ints,erL_ints,haw,lenL_vsl,List.length_map,d1]
 have d1:decide ((more.length:Int) > 12)=false:=by simp; omega
 obtain ⟨nr,hnr,_⟩:=wrapU_nat rule
 have r5:Int.tmod (nr:Int) 5=((nr % 5:Nat):Int):=rfl
 have w5:IntKind.wrap .i64 ((nr % 5:Nat):Int)=((nr % 5:Nat):Int):=wrap_i (by omega) (by omega)
 obtain ⟨ru,hru,hrm⟩:=get_ne (l:=rulesM) (j:=nr) (n:=5) rfl (by decide)
 have hroom:=r_roomE hrm
 have hrl:ru.length < 100:=by
  simp only [rulesM,List.mem_cons,List.not_mem_nil,or_false] at hrm
  rcases hrm with rfl | rfl | rfl | rfl | rfl <;> decide
 have hix5:idxOf 1 none (.vsl (rulesM.map .str) (some 5)) (.int .i64 ((nr % 5:Nat):Int))=some (.vptr [.str ru] 0):=idx_strK hru
 simp only [rulesM,List.map_cons,List.map_nil] at hix5
 simp only [AM5Fc,ex_loop,EXA,seval,VX,readAt_some,closedL_ints,erL_ints,haw,lenL_vsl,List.length_map,d1,hnr,r5,w5,hix5,hroom]
 refine ex_whileI (S:=Nat×AV×List Ev) (fun p=>amF who what more p.2.1 (p.1:Int)) (fun p=>more.length - p.1)
  (fun p σ=>RdS σ p.2.1 p.2.2∧InvM p.2.2 (4+p.1)∧p.1≤more.length) ?_ (0, .vsl ((roomS ru).map evE) none,roomS ru) _ ⟨.inl rfl,InvM.room ru hrl,Nat.zero_le _⟩
 rintro bd ⟨i,v,s⟩ σ ⟨hrd,hinv,hi⟩ ih
 simp only at hrd hinv hi ih ⊢
 by_cases hlt:i < more.length
 ·obtain ⟨m,hm⟩:=get_lt hlt
  have hidx:idxOf 1 none (.vsl (more.map (.int .i64)) none) (.int .i64 (i:Int))=some (.vptr [.int .i64 m] 0):=idx_map (f:=AV.int .i64) hm rfl
  have hcond:=dlt hlt
  have hw:=wsucc hlt (by omega)
  obtain ⟨n,hn,hn64⟩:=wrapU_nat m
  obtain ⟨a,ha,ham⟩:=get_ne (l:=usersM) (j:=n) (n:=4) rfl (by decide)
  obtain ⟨b,hb,hbm⟩:=get_ne (l:=usersM) (j:=n / 4) (n:=4) rfl (by decide)
  obtain ⟨w,hwh,hwm⟩:=get_ne (l:=whatsM) (j:=n / 16) (n:=5) rfl (by decide)
  have m4:Int.tmod (n:Int) 4=((n % 4:Nat):Int):=rfl
  have q4':Int.tdiv (n:Int) 4=((n / 4:Nat):Int):=rfl
  have q4:IntKind.wrap .u64 ((n / 4:Nat):Int)=((n / 4:Nat):Int):=wrapU_id (by omega)
  have m44:Int.tmod ((n / 4:Nat):Int) 4=((n / 4 % 4:Nat):Int):=rfl
  have q16':Int.tdiv (n:Int) 16=((n / 16:Nat):Int):=rfl
  have q16:IntKind.wrap .u64 ((n / 16:Nat):Int)=((n / 16:Nat):Int):=wrapU_id (by omega)
  have m165:Int.tmod ((n / 16:Nat):Int) 5=((n / 16 % 5:Nat):Int):=rfl
  have x1:idxOf 1 none (.vsl (usersM.map .str) (some 4)) (.int .u64 ((n % 4:Nat):Int))=some (.vptr [.str a] 0):=idx_strK ha
  have x2:idxOf 1 none (.vsl (usersM.map .str) (some 4)) (.int .u64 ((n / 4 % 4:Nat):Int))=some (.vptr [.str b] 0):=idx_strK hb
  have x3:idxOf 1 none (.vsl (whatsM.map .str) (some 5)) (.int .u64 ((n / 16 % 5:Nat):Int))=some (.vptr [.str w] 0):=idx_strK hwh
  have la:=user_len ham
  have lb:=user_len hbm
  have hto:=r_toE a b w
  have hfa:=m_facts (a:=a) (b:=b) hinv (by omega) hwm
  rw [m_ok hinv] at hfa
  have hal:=m_allowed (a:=a) (b:=b) hinv (by omega) hwm (by omega) (by omega)
  rw [m_same hinv (user_is hbm)] at hal
  have hmay:=r_mayF (factsS pv0 (toE a b w) s).1
  have hput:=hinv.put (e:=toE a b w) rfl (toE_small hwm (by omega) (by omega))
  have hmem:=m_member (s:=s) (a:=a) (b:=b) hwm
  have hkey:(toE a b w).key=b:=rfl
  generalize toE a b w=e at*
  generalize (factsS pv0 e s).1=f at*
  have n1:=fun c1 c2=>hrd.newset c1 c2
  have n2:=fun c1 c2 c3 c4=>(n1 c1 c2).newset c3 c4
  have hF1:=fun c1 c2=>(n1 c1 c2).call2 (st:=false) (evE_closed e) (by rw [evE_er]; exact hfa) rfl
  have hA2:=fun c1 c2 c3 c4=>(n2 c1 c2 c3 c4).call2 (st:=true) (evE_closed e) (by rw [evE_er]; exact hal) rfl
  have hne:(σ.next+1=σ.next)=False:=by simp
  simp only [fcC] at hF1 hmay
  cases hmy:mayF f with
  | false=>
   rw [hmy] at hA2 hmay
   simp only [AM5Fb,ex_loop,EXA,seval,VX,readAt_some,V.eta,lenL_vsl,List.length_map,hidx,hcond,hw,hn,m4,q4',q4,m44,q16',q16,m165,x1,x2,x3,hto,hF1,hA2,hmay,hne]
   exact ih (i+1,v,s) _ _ (by simp; omega) ⟨n2 _ _ _ _,⟨hinv.create,hinv.power,by have:=hinv.len; show s.length≤4+(i+1); omega,hinv.small⟩,by simp; omega⟩ (by simp only [EXA,seval])
  | true=>
   rw [hmy] at hA2 hmay
   simp only [AM5Fb,ex_loop,EXA,seval,VX,readAt_some,V.eta,lenL_vsl,List.length_map,hidx,hcond,hw,hn,m4,q4',q4,m44,q16',q16,m165,x1,x2,x3,hto,hF1,hA2,hmay,hne]
   refine am_inner (B:=σ.next) (v:=v) (s:=s) (e:=e) (by have:=hinv.len; omega) ?_ ⟨n2 _ _ _ _,by rw [evE_cells]; simp only [look]; rw [if_neg (by omega),if_neg (by omega),if_pos trivial],Gr.nil _ _,fun _ _ _ _ _ h=>by simp at h,by simp; omega,hrd.near⟩
   intro σ3 w3 hmd
   have hlenF:=List.length_filter_le (otherS e) s
   have hlen3:=hinv.len
   have happ:appendTo σ3 20 312 w3 (evE e).cells 1=some (.sl σ3.next 0 (putS1 s e).length 20 none,grNext LEv σ3 w3 (s.filter (otherS e)) [e]):=hmd.gr.push (a:=e) (bytes:=312) (by omega) (by unfold maxBytes; omega)
   have hpu:=hmd.push e
   have hown:Own LEv (grNext LEv σ3 w3 (s.filter (otherS e)) [e]) (some σ3.next) (putS1 s e):=hmd.gr.next (m:= [e]) (by simp)
   have hrd3:RdS (grNext LEv σ3 w3 (s.filter (otherS e)) [e]) (.sl σ3.next 0 (putS1 s e).length 20 none) (putS1 s e):= .inr ⟨_,rfl,hown⟩
   have hM:=hrd3.call1 (st:=true) (f:=425) (x:= .str e.key) rfl (r:= .str w) (by
    rw [show (AV.str e.key).er= .str e.key by simp only [AV.er],hkey,←hmem]
    exact r_memberS (hput.ok (by omega)) b) rfl
   have hev3:=hpu.ev
   have hev:=hmd.ev
   have hlo:lenOf (.vsl [evE e] (some 1))=some 1:=rfl
   have hro: ∀σ',rowOf σ' 20 (.vsl [evE e] (some 1))=some (evE e).cells:=fun _=>rfl
   rw [evE_cells] at happ hev hev3
   simp only [evE_cells] at hro
   generalize hL:(putS1 s e).length=L at*
   generalize hS3:grNext LEv σ3 w3 (s.filter (otherS e)) [e]=σ4 at*
   simp only [AM5Fc,EXA,seval,VX,readAt_some,V.eta,hev,hlo,hro,happ,hev3,hM,hw,q16',q16,m165,x3,beq_self_eq_true]
   exact ih (i+1, .sl σ3.next 0 L 20 none,putS1 s e) _ _ (by simp; omega) ⟨by rw [←hL]; exact .inr ⟨_,rfl,hown⟩,by have:=hput; exact ⟨this.create,this.power,by have:=this.len; show (putS1 s e).length≤4+(i+1); omega,this.small⟩,by simp; omega⟩ (by simp only [EXA,seval])
 ·have hcond:=dge (Nat.not_lt.1 hlt)
  obtain ⟨nu,hnu,_⟩:=wrapU_nat who
  obtain ⟨na,hna,_⟩:=wrapU_nat what
  obtain ⟨a,ha,ham⟩:=get_ne (l:=usersM) (j:=nu) (n:=4) rfl (by decide)
  obtain ⟨w,hwh,hwm⟩:=get_ne (l:=whatsM) (j:=na) (n:=5) rfl (by decide)
  have m4:Int.tmod (nu:Int) 4=((nu % 4:Nat):Int):=rfl
  have m5:Int.tmod (na:Int) 5=((na % 5:Nat):Int):=rfl
  have x1:idxOf 1 none (.vsl (usersM.map .str) (some 4)) (.int .u64 ((nu % 4:Nat):Int))=some (.vptr [.str a] 0):=idx_strK ha
  have x3:idxOf 1 none (.vsl (whatsM.map .str) (some 5)) (.int .u64 ((na % 5:Nat):Int))=some (.vptr [.str w] 0):=idx_strK hwh
  have la:=user_len ham
  have hto:=r_toE a kNoUser w
  have hal:=m_allowed (a:=a) (b:=kNoUser) hinv (by omega) hwm (by decide) (by omega)
  rw [m_none hinv] at hal
  generalize toE a kNoUser w=e at*
  have hA:=fun c1 c2=>(hrd.newset c1 c2).call2 (st:=false) (evE_closed e) (by rw [evE_er]; exact hal) rfl
  simp only [F420_20,F420_39,F420_49,F420_55,F420_62,F420_63,F420_64,F420_82,F420_83,F420,EXA,seval,VX,readAt_some,V.eta,lenL_vsl,List.length_map,hcond,hnu,hna,m4,m5,x1,x3,hto,hA]
end Go.Ab
