/- What functions of the program, and of the library, answer. Conditions: none. -/
import Derived.Test.YtgfeimceppggcaaGreatDoorLaw12
import Derived.Test.YtgfeimceppggcaaGreatDoorLaw11
import Derived.Test.YtgfeimceppggcaaGreatDoorLaw10
set_option linter.unusedVariables false
set_option linter.unusedSimpArgs false
set_option linter.defProp false
set_option linter.unnecessarySimpa false
namespace Go.Ab
set_option maxRecDepth 100000
set_option maxHeartbeats 1000000
def iq (n:Nat):List Mem:=(List.range n).map fun i=>(mW i,eV sX)
def dw (token be:Bs) (L:List Mem):V:=V.mk 5 0 [] [] [(fT,eV be),(cC,V.mk 5 0 [] [] [(jI,V.mk 5 0 [] [] L)]),(ep,eV token)]
def sE (token be:Bs) (L:List Mem):V:=V.mk 5 0 [] [] [(eS,eV iG),(bS,V.mk 5 0 [] [] [(bf,dw token be L)])]
theorem YI (token be g:Bs) {n:Nat} (hn:n < 6):C5 token be n g=sE token be (iq n ++ [(jk,eV g)]):=by
 rcases (show n=0∨n=1∨n=2∨n=3∨n=4∨n=5 by omega) with rfl | rfl | rfl | rfl | rfl | rfl <;> kernel_rfl
theorem JU (token be:Bs) (L:List Mem):kY (dw token be L) [cC]=jl token be:=by kernel_rfl
theorem qW (p:Option Bs):iN p []=true:=by cases p <;> rfl
theorem PA {g:Bs} (hg:vu g=true) {n:Nat} (hn:n < 6):iN none (iq n ++ [(jk,eV g)])=true:=by
 have kx:(eV sX).fine=true:=by kernel_rfl
 have fg:=qV hg
 have e: ∀i,i < 5->vu (mW i)=true:=fun i hi=>by
  rcases (show i=0∨i=1∨i=2∨i=3∨i=4 by omega) with rfl | rfl | rfl | rfl | rfl <;> kernel_rfl
 have ez:vu jk=true:=by kernel_rfl
 have o1:EP (some (mW 0)) (mW 1)=true:=by kernel_rfl
 have o2:EP (some (mW 1)) (mW 2)=true:=by kernel_rfl
 have o3:EP (some (mW 2)) (mW 3)=true:=by kernel_rfl
 have o4:EP (some (mW 3)) (mW 4)=true:=by kernel_rfl
 have z: ∀i,i < 5->EP (some (mW i)) jk=true:=fun i hi=>by
  rcases (show i=0∨i=1∨i=2∨i=3∨i=4 by omega) with rfl | rfl | rfl | rfl | rfl <;> kernel_rfl
 have n0: ∀k,EP none k=true:=fun _=>rfl
 rcases (show n=0∨n=1∨n=2∨n=3∨n=4∨n=5 by omega) with rfl | rfl | rfl | rfl | rfl | rfl <;>
  simp only [iq,List.range,List.range.loop,List.map_cons,List.map_nil,List.cons_append,List.nil_append,dX,n0,kx,fg,ez,e 0 (by decide),e 1 (by decide),e 2 (by decide),e 3 (by decide),e 4 (by decide),o1,o2,o3,o4,z 0 (by decide),z 1 (by decide),z 2 (by decide),z 3 (by decide),z 4 (by decide),qW,aW]
theorem PB {token be:Bs} {L:List Mem} (ht:vu token=true) (hx:vu be=true) (hL:iN none L=true):(sE token be L).fine=true:=by
 have k1:vu eS=true:=by kernel_rfl
 have k2:vu bS=true:=by kernel_rfl
 have k3:vu bf=true:=by kernel_rfl
 have k4:vu fT=true:=by kernel_rfl
 have k5:vu cC=true:=by kernel_rfl
 have k6:vu ep=true:=by kernel_rfl
 have k7:vu jI=true:=by kernel_rfl
 have l2:EP (some eS) bS=true:=by kernel_rfl
 have l3:EP (some fT) cC=true:=by kernel_rfl
 have l4:EP (some cC) ep=true:=by kernel_rfl
 have n0: ∀k,EP none k=true:=fun _=>rfl
 have fi:(eV iG).fine=true:=by kernel_rfl
 have f1:(V.mk 5 0 [] [] [(jI,V.mk 5 0 [] [] L)]).fine=true:=mV (by rw [dX,k7,n0,mV hL]; rfl)
 have f2:(dw token be L).fine=true:=mV (by simp only [dX,n0,k4,k5,k6,l3,l4,f1,qV ht,qV hx,qW,aW])
 have f3:(V.mk 5 0 [] [] [(bf,dw token be L)]).fine=true:=mV (by rw [dX,k3,n0,f2]; rfl)
 exact mV (by simp only [dX,n0,k1,k2,l2,fi,f3,qW,aW])
theorem UA (token be g:Bs) {n:Nat} (h:n < 6):decide ((sE token be (iq n ++ [(jk,eV g)])).dep<=50)=true:=by
 rcases (show n=0∨n=1∨n=2∨n=3∨n=4∨n=5 by omega) with rfl | rfl | rfl | rfl | rfl | rfl <;> kernel_rfl
theorem sg_eq (token be:Bs) (L:List Mem):((cn (cn (sE token be L) bS).1 bf).1,(cn (cn (sE token be L) bS).1 bf).2 && ((bR (cn (cn (sE token be L) bS).1 bf).1 ep).2 && (bR (cn (cn (sE token be L) bS).1 bf).1 fT).2))=(dw token be L,true):=by kernel_rfl
theorem yN {token be g:Bs} (ht:vu token=true) (hx:vu be=true) (hg:vu g=true) {n:Nat} (hn:n < 6) :
  cf (sE token be (iq n ++ [(jk,eV g)]))=(dw token be (iq n ++ [(jk,eV g)]),true):=by
 have g0:(sE token be (iq n ++ [(jk,eV g)])).good=true:=by rw [V.good,PB ht hx (PA hg hn),UA token be g hn]; rfl
 have hs:said (sE token be (iq n ++ [(jk,eV g)]))=sE token be (iq n ++ [(jk,eV g)]):=by rw [said,g0]; rfl
 rw [cf,hs]
 exact sg_eq token be _
theorem Il (token be g:Bs) {n:Nat} (hn:n < 6):oz (dw token be (iq n ++ [(jk,eV g)]))=(List.replicate n sX ++ [g]).take 4:=by
 rcases (show n=0∨n=1∨n=2∨n=3∨n=4∨n=5 by omega) with rfl | rfl | rfl | rfl | rfl | rfl <;> kernel_rfl
theorem XF (P:List (aw)) (msg:Bs):je P msg sX=false:=by
 rw [je,show gC sX=none by kernel_rfl]
theorem XG {P:List (aw)} {msg g:Bs} {sig:aw} (h:gC g=some sig):je P msg g=P.any fun pub=>lN aB pub msg sig:=by
 rw [je,h]
theorem ver_0 (msg sig:aw):lN aB [0,0,0] msg sig=false:=ou (fun c=>by simp at c)
theorem IS {token be g pk msg:Bs} {sig key:aw} (ht:vu token=true) (hx:vu be=true) (hg:vu g=true) (hp:vu pk=true) (gs:gC g=some sig) (gk:gC pk=some key) {n o:Nat} (hn:n < 6) (ho:o < 6) :
  k9 (sE token be (iq n ++ [(jk,eV g)])) (mC pk o) msg=(decide (n < 4) && (decide (o < 4) && lN aB key msg sig)):=by
 rw [k9,yN ht hx hg hn,Il token be g hn,Sa hp gk ho]
 have hG:=XG (P:=(List.replicate o [0,0,0] ++ [key]).take 4) (msg:=msg) gs
 have hX:=XF ((List.replicate o [0,0,0] ++ [key]).take 4) msg
 have hP:((List.replicate o [0,0,0] ++ [key]).take 4).any (fun pub=>lN aB pub msg sig)=(decide (o < 4) && lN aB key msg sig):=by
  rcases (show o=0∨o=1∨o=2∨o=3∨o=4∨o=5 by omega) with rfl | rfl | rfl | rfl | rfl | rfl <;> simp [List.replicate,ver_0]
 rw [hP] at hG
 generalize je ((List.replicate o [0,0,0] ++ [key]).take 4) msg=F at*
 rcases (show n=0∨n=1∨n=2∨n=3∨n=4∨n=5 by omega) with rfl | rfl | rfl | rfl | rfl | rfl <;> simp [List.replicate,hG,hX]
theorem xr (token be:Bs):jl token be=V.mk 5 0 [] [] [(fT,eV be),(ep,eV token)]:=by kernel_rfl
theorem Ze (s:Bs):(eV s).good=vu s:=by
 have hf:(eV s).fine=vu s:=by rw [eV,V.fine,if_neg (by decide),if_neg (by decide),if_neg (by decide),if_pos rfl]; simp [V.bare,V.n_mk,V.s_mk,V.l_mk,V.m_mk]
 have hd:(eV s).dep=0:=by rw [eV,V.dep]; rfl
 rw [V.good,hf,hd]; simp
theorem oL (P:Int->Prop) (s:Bs):(eV s).nums P:=by
 rw [eV,V.nums]; exact ⟨fun h=>(by cases h),trivial,trivial⟩
theorem zd {P:Int->Prop}: ∀ {l:List Mem},(∀x∈l,x.2.nums P)->BA P l
 | [],_=>trivial
 | (k,v) ::r,h=>⟨h (k,v) (by simp),zd (fun x hx=>h x (by simp [hx]))⟩
theorem qL {P:Int->Prop} {l:List Mem} (h: ∀x∈l,x.2.nums P):(V.mk 5 0 [] [] l).nums P:=by
 rw [V.nums]; exact ⟨fun h=>(by cases h),trivial,zd h⟩
theorem qK (P:Int->Prop):V.zero.nums P:=by rw [V.zero,V.nums]; exact ⟨fun h=>(by cases h),trivial,trivial⟩
theorem OT {P:Int->Prop} {v:V} (k:Bs) (h:v.nums P):(cK v k).1.nums P:=by
 unfold cK
 split
 ·cases hl:iW v.m k with
  | none=>exact qK P
  | some x=>
   obtain ⟨e,he,hx⟩:=qQ hl
   rw [V.nums_eq] at h
   rw [←hx]
   exact qN h.2.2 he
 ·exact qK P
theorem wg {P:Int->Prop} {v:V} (k:Bs) (hf:v.fine=true) (h:v.nums P):(cn v k).1.nums P/\(cn v k).1.fine=true:=by
 rw [s6 k hf]
 split
 ·exact ⟨OT k h,mb k hf⟩
 ·exact ⟨qK P,V.zero_fine⟩
theorem mO {P:Int->Prop} {v:V} (h:v.nums P):(cf v).1.nums P:=by
 unfold cf
 have hs:(said v).nums P/\(said v).fine=true:=by
  unfold said
  split
  ·rename_i hg
   simp only [V.good,ak] at hg
   exact ⟨h,hg.1.1⟩
  ·exact ⟨qK P,V.zero_fine⟩
 obtain ⟨a1,a2⟩:=wg bS hs.2 hs.1
 exact (wg bf a2 a1).1
theorem qM {P:Int->Prop} {v:V} (keys:List Bs) (h:v.nums P):(kY v keys).nums P:=by
 unfold kY nK
 split
 ·rename_i h5
  rw [V.nums_eq] at h
  rw [V.nums]
  exact ⟨fun k=>(by rw [h5] at k; cases k),h.2.1,zd (fun x hx=>qN h.2.2 (List.mem_filter.1 hx).1)⟩
 ·exact h
def C7 (X:V):V:=V.mk 5 0 [] [] [(eS,eV iG),(bS,V.mk 5 0 [] [] [(bf,X)])]
theorem F8 (token be:Bs) (L:List Mem):sE token be L=C7 (dw token be L):=rfl
theorem Pw (X:V):iZ (C7 X) bS=(V.mk 5 0 [] [] [(bf,X)],true):=by kernel_rfl
theorem JF (X:V):iZ (V.mk 5 0 [] [] [(bf,X)]) bf=(X,true):=by kernel_rfl
theorem Ix (X Y:V):pq (V.mk 5 0 [] [] [(bf,X)]) bf Y=V.mk 5 0 [] [] [(bf,Y)]:=by kernel_rfl
theorem Oc (X Y:V):pq (C7 X) bS (V.mk 5 0 [] [] [(bf,Y)])=C7 Y:=by kernel_rfl
abbrev SZ:Bs:= [109,111,114,101]
def xd (i:Nat) (token be:Bs) (L:List Mem):V:=match i with
 | 0=>dw (token ++ [120]) be L
 | 1=>V.mk 5 0 [] [] [(SZ,V.mk 2 1 [] [] []),(fT,eV be),(cC,V.mk 5 0 [] [] [(jI,V.mk 5 0 [] [] L)]),(ep,eV token)]
 | 2=>dw token be L
 | _=>V.mk 5 0 [] [] [(cC,V.mk 5 0 [] [] [(jI,V.mk 5 0 [] [] L)]),(ep,eV token)]
theorem set_0 (token tx be:Bs) (L:List Mem):pq (dw token be L) ep (eV tx)=dw tx be L:=by kernel_rfl
theorem set_1 (token be:Bs) (L:List Mem):pq (dw token be L) SZ (V.mk 2 1 [] [] [])=xd 1 token be L:=by kernel_rfl
theorem drop_3 (token be:Bs) (L:List Mem):kY (dw token be L) [fT]=xd 3 token be L:=by kernel_rfl
theorem OS {P:Int->Prop} (n:Nat) (g:Bs): ∀x∈iq n ++ [(jk,eV g)],x.2.nums P:=by
 intro x hx
 rcases lB.1 hx with h | h
 ·unfold iq at h
  obtain ⟨i,_,rfl⟩:=List.mem_map.1 h
  exact oL P sX
 ·simp only [List.mem_singleton] at h
  subst h; exact oL P g
theorem SB (i:Nat) (token be:Bs) (n:Nat) (g:Bs):(C7 (xd i token be (iq n ++ [(jk,eV g)]))).nums uJ:=by
 have h1:=oL uJ token
 have h2:=oL uJ be
 have h3:=oL uJ (token ++ [120])
 have h4:(V.mk 5 0 [] [] [(jI,V.mk 5 0 [] [] (iq n ++ [(jk,eV g)]))]).nums uJ:=qL (by
  intro x hx; simp only [List.mem_singleton] at hx; subst hx; exact qL (OS n g))
 have h5:(V.mk 2 1 [] [] []).nums uJ:=by rw [V.nums]; exact ⟨fun _=>J8 (by decide),trivial,trivial⟩
 have key:(xd i token be (iq n ++ [(jk,eV g)])).nums uJ:=by
  unfold xd
  split
  all_goals
   refine qL ?_
   intro x hx
   simp only [List.mem_cons,List.not_mem_nil,or_false] at hx
   rcases hx with rfl | rfl | rfl | rfl <;> assumption
 exact qL (by
  intro x hx
  simp only [List.mem_cons,List.not_mem_nil,or_false] at hx
  rcases hx with rfl | rfl
  ·exact oL uJ iG
  ·exact qL (by intro x hx; simp only [List.mem_singleton] at hx; subst hx; exact key))
theorem Lv: ∀a b:List Mem,pI (a ++b)=pI a+pI b
 | [],b=>by simp [pI]
 | (k,v) ::a,b=>by simp only [List.cons_append,pI,Lv a b]; omega
theorem WQ {n:Nat} (hn:n < 6) {g:Bs} (hg:g.length<=129):pI (iq n ++ [(jk,eV g)])<=1000:=by
 rw [Lv]
 have h1:pI (iq n)<=600:=by
  rcases (show n=0∨n=1∨n=2∨n=3∨n=4∨n=5 by omega) with rfl | rfl | rfl | rfl | rfl | rfl <;> exact of_decide_eq_true (by kernel_rfl)
 have h2:pI [(jk,eV g)]=jk.length+(g.length+1):=by simp [pI,AD,eV,V.sz]
 have h3:jk.length<=100:=of_decide_eq_true (by kernel_rfl)
 omega
theorem QX (i:Nat) {token be:Bs} (ht:token.length<=50) (hm:be.length<=50) {n:Nat} (hn:n < 6) {g:Bs} (hg:g.length<=129):(C7 (xd i token be (iq n ++ [(jk,eV g)]))).sz < 10000:=by
 have h1:=WQ hn hg
 generalize iq n ++ [(jk,eV g)]=L at*
 have h2:jI.length<=100:=of_decide_eq_true (by kernel_rfl)
 have h3:cC.length<=100:=of_decide_eq_true (by kernel_rfl)
 have h4:iG.length<=100:=of_decide_eq_true (by kernel_rfl)
 have key:(xd i token be L).sz<=3000:=by
  unfold xd
  split <;> simp only [dw,eV,V.sz,pI,AD,aq,List.length_cons,List.length_nil] <;> omega
 simp only [C7,eV,V.sz,pI,AD,List.length_cons,List.length_nil] at key ⊢
 omega
theorem Lu {p:Bs} (hp:p.length<=129) {o:Nat} (ho:o < 6):(mC p o).sz < 10000:=by
 rcases (show o=0∨o=1∨o=2∨o=3∨o=4∨o=5 by omega) with rfl | rfl | rfl | rfl | rfl | rfl <;> simp [mC,oK,List.replicate,eV,V.sz,pI,AD] <;> omega
theorem EU (n:Int): ∃j:Nat,j < 6/\IntKind.wrap .u64 (Int.tmod (IntKind.wrap .u64 n) 6)=(j:Int)/\Int.tmod (IntKind.wrap .u64 n) 6=(j:Int)/\IntKind.wrap .i64 (j:Int)=(j:Int):=by
 have e:IntKind.wrap .u64 n=n % 18446744073709551616:=by
  simp only [IntKind.wrap,IntKind.bits,IntKind.signed]; simp
 obtain ⟨m,hm⟩ : ∃m:Nat,n % 18446744073709551616=(m:Int):=⟨(n % 18446744073709551616).toNat,by omega⟩
 have ht:Int.tmod (m:Int) 6=((m % 6:Nat):Int):=rfl
 refine ⟨m % 6,aZ _ (by decide),?_,?_,aU aa aa⟩
 ·rw [e,hm,ht]; exact fI aa aa
 ·rw [e,hm,ht]
def wL:= @F174.eq_1
theorem NS (n:Int): ∃j:Nat,j < 4/\IntKind.wrap .u64 (Int.tmod (IntKind.wrap .u64 n) 4)=(j:Int)/\Int.tmod (IntKind.wrap .u64 n) 4=(j:Int):=by
 have e:IntKind.wrap .u64 n=n % 18446744073709551616:=by
  simp only [IntKind.wrap,IntKind.bits,IntKind.signed]; simp
 obtain ⟨m,hm⟩ : ∃m:Nat,n % 18446744073709551616=(m:Int):=⟨(n % 18446744073709551616).toNat,by omega⟩
 have ht:Int.tmod (m:Int) 4=((m % 4:Nat):Int):=rfl
 refine ⟨m % 4,aZ _ (by decide),?_,?_⟩
 ·rw [e,hm,ht]; exact fI aa aa
 ·rw [e,hm,ht]
theorem NR (seed:UInt8):IntKind.wrap .u8 ((seed.toNat:Int)+1)=((seed+1).toNat:Int):=by
 rw [show ((seed.toNat:Int)+1)=((seed.toNat+1:Nat):Int) by omega,mI,UInt8.toNat_add]; rfl
theorem Bt (seed:UInt8):(pr seed).length<=129:=by
 have h1:=FE (gu aB (db seed))
 have h2:(gu aB (db seed)).length=32:=by rw [gu,aX]
 unfold pr; omega
theorem AO (token be:Bs) (seed:UInt8) (n o k:Int):cR 174 [.str token, .str be, .int .u8 (seed.toNat:Int), .int .i64 n, .int .i64 o, .int .i64 k]=some (.bool true):=by
 have Wc:=Bl
 have a3: ∀s,cR 18 [.str s]=some (eV s).enc:=IL
 have ES:=u7 (eV token)
 have Qo:=u7 (eV be)
 rw [Ze] at ES Qo
 refine aG (F:=F174) rfl ?_
 by_cases aR:token.length<=50
 case neg=>
  have d1:decide ((token.length:Int) > 50)=true:=decide_eq_true aa
  simp only [wL,az,seval,VX,ae,Wc,d1]
 have d1:decide ((token.length:Int) > 50)=false:=decide_eq_false aa
 by_cases hlm:be.length<=50
 case neg=>
  have d2:decide ((be.length:Int) > 50)=true:=decide_eq_true aa
  simp only [wL,az,seval,VX,ae,Wc,d1,d2]
 have d2:decide ((be.length:Int) > 50)=false:=decide_eq_false aa
 have ES:=ES (by simp [eV,V.sz,AD,pI,fF]; omega)
 have Qo:=Qo (by simp [eV,V.sz,AD,pI,fF]; omega)
 cases hvt:vu token with
 | false=>
  rw [hvt] at ES
  have a3t:=a3 token
  generalize eV token=tt at*
  simp only [wL,az,seval,VX,ae,Wc,d1,d2,a3t,ES]
 | true=>
 cases hvm:vu be with
 | false=>
  rw [hvt] at ES
  rw [hvm] at Qo
  have a3t:=a3 token
  have a3m:=a3 be
  generalize eV token=tt at*
  generalize eV be=mm at*
  simp only [wL,az,seval,VX,ae,Wc,d1,d2,a3t,ES,a3m,Qo]
 | true=>
 rw [hvt] at ES
 rw [hvm] at Qo
 obtain ⟨n',hn,n1,n2,n3⟩:=EU n
 obtain ⟨o',ho,o1,o2,o3⟩:=EU o
 obtain ⟨k',hk,k1,k2⟩:=NS k
 have hig:(jl token be).good=true:=by
  have k4:vu fT=true:=by kernel_rfl
  have k6:vu ep=true:=by kernel_rfl
  have l4:EP (some fT) ep=true:=by kernel_rfl
  have hf:(jl token be).fine=true:=by
   rw [xr]; exact mV (by simp only [dX,k4,k6,l4,qV hvt,qV hvm,qW,aW]; rfl)
  have hd:(jl token be).dep<=50:=by rw [xr]; simp [V.dep,pF,eV]
  rw [V.good,hf,decide_eq_true hd]; rfl
 have hiz:(jl token be).sz < 10000:=by
  have h1:fT.length<=100:=of_decide_eq_true (by kernel_rfl)
  have h2:ep.length<=100:=of_decide_eq_true (by kernel_rfl)
  rw [xr]; simp only [eV,V.sz,pI,AD,List.length_nil]; omega
 have wV:(jl token be).nums uJ:=by
  rw [xr]; exact qL (by intro x hx; simp only [List.mem_cons,List.not_mem_nil,or_false] at hx; rcases hx with rfl | rfl <;> exact oL _ _)
 have hw:=LW (v:=jl token be) aa wV
 rw [if_pos hig] at hw
 have hwl:(jl token be).wr.length < 1099511000000:=by
  have h1:(jl token be).fine=true:=by unfold V.good at hig; rw [ak] at hig; exact hig.1
  have:=V.wr_len _ h1; omega
 have hinv:=R4 (seed:=seed) (n:=n') hw hwl aa
 have AW:=Bn seed (n:=o') aa
 have hpub2:=Bn (seed+1) (n:=o') aa
 have Tf:=WK aB (db seed) (jl token be).wr
 have Po:gC (pr seed)=some (gu aB (db seed)):=GB _
 have hsg:gC (kB (ji aB (db seed) (jl token be).wr))=some (ji aB (db seed) (jl token be).wr):=GB _
 have hpi:=IS hvt hvm (Ii (ji aB (db seed) (jl token be).wr)) (Ii (gu aB (db seed))) (msg:=(jl token be).wr) hsg Po hn ho
 rw [Tf,Bool.and_true] at hpi
 have tY:(kB (ji aB (db seed) (jl token be).wr)).length<=129:=by
  have h1:=FE (ji aB (db seed) (jl token be).wr)
  have h2:=Ly (db seed) (jl token be).wr
  omega
 rw [YI _ _ _ hn] at hinv
 rw [IP] at AW hpub2
 have hdp:kY (cf (sE token be (iq n' ++ [(jk,eV (kB (ji aB (db seed) (jl token be).wr)))]))).1 [cC]=jl token be:=by
  rw [yN hvt hvm (Ii _) hn,JU]
 have AX:=Bt seed
 have hpl2:=Bt (seed+1)
 have hP:pr seed=kB (gu aB (db seed)):=rfl
 rw [←hP] at hpi
 clear hP hsg Po Tf
 generalize kB (ji aB (db seed) (jl token be).wr)=g at*
 generalize pr seed=p at*
 generalize pr (seed+1)=p2 at*
 have zp:=Lu AX ho
 have zp2:=Lu hpl2 ho
 have zi:=QX 2 aR hlm hn tY
 have z4:=fun i=>QX i aR hlm hn tY
 have b4:=fun i=>SB i token be n' g
 have hL1:(dw token be (iq n' ++ [(jk,eV g)])).m.length < lim:=by unfold dw lim; simp [V.m_mk]
 generalize iq n' ++ [(jk,eV g)]=L at*
 have Pn:(10000:Nat) < lim:=by decide
 have hpr:=yZ (m:=sE token be L) (t:=mC p o') (msg:=(jl token be).wr) (e:=0) (by rw [F8]; exact bz zi Pn) (bz zp Pn) hwl (fun _=>by rw [hdp]; exact hw)
 rw [hpi] at hpr
 have hbg: ∀ {m:Nat},m < lim->m < fF:=fun h=>by unfold lim at h; unfold fF; omega
 have hT1:(V.mk 5 0 [] [] [(bf,dw token be L)]).m.length < lim:=by unfold lim; simp [V.m_mk]
 have Wf:(C7 (dw token be L)).m.length < lim:=by unfold lim C7; simp [V.m_mk]
 have g1:=LY (C7 (dw token be L)) bS (hbg Wf)
 have g2:=LY (V.mk 5 0 [] [] [(bf,dw token be L)]) bf (hbg hT1)
 rw [Pw] at g1
 rw [JF] at g2
 have s0:=yY (dw token be L) ep (eV (token ++ [120])) hL1
 have s1:=yY (dw token be L) SZ (V.mk 2 1 [] [] []) hL1
 have s3:cR 131 [(dw token be L).enc, .vsl [.str fT] none]=some (kY (dw token be L) [fT]).enc:=R5 (dw token be L) [fT] hL1 (by simp [fF])
 rw [set_0] at s0
 rw [set_1] at s1
 rw [drop_3] at s3
 have sS:=fun Y=>yY (V.mk 5 0 [] [] [(bf,dw token be L)]) bf Y hT1
 have sT:=fun Y=>yY (C7 (dw token be L)) bS (V.mk 5 0 [] [] [(bf,Y)]) Wf
 simp only [Ix] at sS
 simp only [Oc] at sT
 have aT:=a3 (token ++ [120])
 have aI:=r_Int 1
 have bo0:=CG (m:=C7 (xd 0 token be L)) (t:=mC p o') (bz (z4 0) Pn) (bz zp Pn) (qM _ (mO (b4 0)))
 have bo1:=CG (m:=C7 (xd 1 token be L)) (t:=mC p o') (bz (z4 1) Pn) (bz zp Pn) (qM _ (mO (b4 1)))
 have bo2:=CG (m:=C7 (xd 2 token be L)) (t:=mC p2 o') (bz (z4 2) Pn) (bz zp2 Pn) (qM _ (mO (b4 2)))
 have bo3:=CG (m:=C7 (xd 3 token be L)) (t:=mC p o') (bz (z4 3) Pn) (bz zp Pn) (qM _ (mO (b4 3)))
 rw [show xd 0 token be L=dw (token ++ [120]) be L from rfl] at bo0
 rw [show xd 2 token be L=dw token be L from rfl] at bo2
 rw [F8] at hpr hinv
 have sS0:=sS (dw (token ++ [120]) be L)
 have sS1:=sS (xd 1 token be L)
 have sS2:=sS (dw token be L)
 have sS3:=sS (xd 3 token be L)
 have sT0:=sT (dw (token ++ [120]) be L)
 have sT1:=sT (xd 1 token be L)
 have sT2:=sT (dw token be L)
 have sT3:=sT (xd 3 token be L)
 have hcat:token.length<=9223372036854775806:=by omega
 have hsd:=NR seed
 have a3t:=a3 token
 have a3m:=a3 be
 have hdn:decide ((n':Int) < 4)=decide (n' < 4):=decide_eq_decide.2 aa
 have Qr:decide ((o':Int) < 4)=decide (o' < 4):=decide_eq_decide.2 aa
 clear hpi hdp hw hwl hiz wV hig z4 b4 zi zp zp2 sS sT hL1 hT1 Wf tY AX hpl2 a3 hvt hvm Wc
 have Wc:=Bl
 generalize eV (token ++ [120])=tx at*
 generalize V.mk 2 1 [] [] []=one at*
 generalize V.mk 5 0 [] [] [(bf,dw (token ++ [120]) be L)]=T0 at*
 generalize V.mk 5 0 [] [] [(bf,xd 1 token be L)]=T1 at*
 generalize V.mk 5 0 [] [] [(bf,dw token be L)]=T2 at*
 generalize V.mk 5 0 [] [] [(bf,xd 3 token be L)]=T3 at*
 generalize C7 (dw (token ++ [120]) be L)=A0 at*
 generalize C7 (xd 1 token be L)=A1 at*
 generalize C7 (dw token be L)=A2 at*
 generalize C7 (xd 3 token be L)=A3 at*
 generalize dw (token ++ [120]) be L=S0 at*
 generalize xd 1 token be L=S1 at*
 generalize dw token be L=S2 at*
 generalize xd 3 token be L=S3 at*
 generalize mC p o'=P1 at*
 generalize mC p2 o'=P2 at*
 generalize eV token=tt at*
 generalize eV be=mm at*
 generalize decide (n' < 4)=bn at*
 generalize decide (o' < 4)=bo at*
 have Tq:k'=0∨k'=1∨k'=2∨k'=3:=by omega
 rcases Tq with rfl | rfl | rfl | rfl
 ·obtain ⟨b,e1,e2⟩:=bo0
  have k1:IntKind.wrap .u64 0=0:=rfl
  have k2:Int.tmod (IntKind.wrap .u64 k) 4=0:=k2
  cases bn <;> cases bo <;> simp only [wL,az,seval,VX,ae,Wc,d1,d2,a3t,a3m,ES,Qo,n1,n2,n3,o1,o2,o3,hinv,AW,hpr,hdn,Qr,g1,g2,k2,k1,beq_self_eq_true,Bool.not_true,hcat,aT,s0,sS0,sT0,e1,e2]
 ·obtain ⟨b,e1,e2⟩:=bo1
  have k1:IntKind.wrap .u64 1=1:=rfl
  have k2:Int.tmod (IntKind.wrap .u64 k) 4=1:=k2
  cases bn <;> cases bo <;> simp only [wL,az,seval,VX,ae,Wc,d1,d2,a3t,a3m,ES,Qo,n1,n2,n3,o1,o2,o3,hinv,AW,hpr,hdn,Qr,g1,g2,k2,k1,beq_self_eq_true,Bool.not_true,aI,s1,sS1,sT1,e1,e2]
 ·obtain ⟨b,e1,e2⟩:=bo2
  have k1:IntKind.wrap .u64 2=2:=rfl
  have k2:Int.tmod (IntKind.wrap .u64 k) 4=2:=k2
  cases bn <;> cases bo <;> simp only [wL,az,seval,VX,ae,Wc,d1,d2,a3t,a3m,ES,Qo,n1,n2,n3,o1,o2,o3,hinv,AW,hpr,hdn,Qr,g1,g2,k2,k1,beq_self_eq_true,Bool.not_true,hsd,hpub2,sS2,sT2,e1,e2]
 ·obtain ⟨b,e1,e2⟩:=bo3
  have k1:IntKind.wrap .u64 3=3:=rfl
  have k2:Int.tmod (IntKind.wrap .u64 k) 4=3:=k2
  cases bn <;> cases bo <;> simp only [wL,az,seval,VX,ae,Wc,d1,d2,a3t,a3m,ES,Qo,n1,n2,n3,o1,o2,o3,hinv,AW,hpr,hdn,Qr,g1,g2,k2,k1,beq_self_eq_true,Bool.not_true,s3,sS3,sT3,e1,e2]
end Go.Ab
