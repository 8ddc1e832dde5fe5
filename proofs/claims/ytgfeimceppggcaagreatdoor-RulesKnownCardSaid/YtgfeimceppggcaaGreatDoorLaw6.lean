/- What functions of the program, and of the library, answer. Conditions: none. -/
import Derived.Test.YtgfeimceppggcaaGreatDoorLaw5
import Derived.Test.YtgfeimceppggcaaGreatDoorEx
set_option linter.unusedVariables false
set_option linter.unusedSimpArgs false
set_option linter.defProp false
set_option linter.unnecessarySimpa false
namespace Go.Ab
set_option maxHeartbeats 1000000
def C22Fa:=J @F343_7.eq_1 (J @F343_13.eq_1 (J @F343_14.eq_1 (@F343.eq_1)))
set_option maxRecDepth 100000
def wsN:List UInt64→Nat
 | []=>0
 | w ::l=>w.toNat+18446744073709551616*wsN l
theorem wsN_lt: ∀l,wsN l < 2 ^ (64*l.length)
 | []=>by simp [wsN]
 | w ::l=>by
  have:=wsN_lt l
  have:=u_lt w
  rw [wsN,List.length_cons,Nat.mul_succ,Nat.pow_add]; omega
theorem word_at: ∀(s:List UInt64) (j:Nat) (c:UInt64),s[j]? =some c→wsN s / 2 ^ (64*j) % 18446744073709551616=c.toNat
 | b ::l,0,c,h=>by
  have:=u_lt b
  simp only [List.getElem?_cons_zero,Option.some.injEq] at h
  subst h
  rw [wsN,Nat.mul_zero,Nat.pow_zero,Nat.div_one]; omega
 | b ::l,j+1,c,h=>by
  have:=u_lt b
  have ih:=word_at l j c (by simpa using h)
  rw [wsN,show 64*(j+1)=64+64*j by omega,Nat.pow_add,←Nat.div_div_eq_div_mul,show (b.toNat+18446744073709551616*wsN l) / 2 ^ 64=wsN l by omega,ih]
theorem wbit_at {s:List UInt64} {i:Nat} {c:UInt64} (h:s[i / 64]? =some c):(c >>> UInt64.ofNat (i % 64) &&& 1).toNat=wsN s / 2 ^ i % 2:=by
 have hw:=word_at s (i / 64) c h
 rw [UInt64.toNat_and,UInt64.toNat_shiftRight]
 have e1:(UInt64.ofNat (i % 64)).toNat % 64=i % 64:=by
  rw [UInt64.toNat_ofNat',Nat.mod_eq_of_lt (show i % 64 < 2 ^ 64 by omega)]; omega
 rw [e1,Nat.shiftRight_eq_div_pow,show (1:UInt64).toNat=1 from rfl,Nat.and_one_is_mod,←hw]
 have e2:wsN s / 2 ^ i=wsN s / 2 ^ (64*(i / 64)) / 2 ^ (i % 64):=by
  rw [Nat.div_div_eq_div_mul,←Nat.pow_add,show 64*(i / 64)+i % 64=i by omega]
 rw [e2]
 generalize wsN s / 2 ^ (64*(i / 64))=m
 have hk:i % 64 < 64:=Nat.mod_lt _ (by decide)
 generalize i % 64=k at*
 rw [show 18446744073709551616=2 ^ k*2 ^ (64 - k) by rw [←Nat.pow_add,show k+(64 - k)=64 by omega],Nat.mod_mul_right_div_self]
 rw [show 2 ^ (64 - k)=2*2 ^ (63 - k) by rw [←Nat.pow_succ',show (63 - k).succ=64 - k by omega],Nat.mod_mul_right_mod]
theorem r_srest {ws:List UInt64} (hl:ws.length < 1099511627776):cR 343 [.vsl (ws.map U) none]=some (arrE (toLE 32 (wsN ws % LL))):=by
 have hLL:0 < LL:=by decide+kernel
 refine cR_of (F:=F343) rfl ?_
 have hlen:(ws.map U).length=ws.length:=List.length_map _
 have w1:IntKind.wrap .i64 ((ws.length:Int)*64)=((64*ws.length:Nat):Int):=by rw [wrap_i (by omega) (by omega)]; omega
 have w2:IntKind.wrap .i64 (((64*ws.length:Nat):Int) - 1)=((64*ws.length:Nat):Int) - 1:=wrap_i (by omega) (by omega)
 simp only [F343_7,F343_13,F343,EXA,seval,ex_loop,hlen,w1,w2]
 refine ex_whileI (S:=Nat×Nat) (fun p=> [(0, .vsl (ws.map U) none),(2, .ptr 0 0),(3, .ptr 1 0),(4, .fn 378 [.ptr 1 0] []),(5, .int .i64 ((p.1:Int) - 1))]) (fun p=>p.1)
  (fun p σ=>look σ.m 1=some (.own (fourC p.2))∧look σ.m 0=some (.own (List.replicate 32 (.int .u8 0)))∧2≤σ.next∧p.2=wsN ws / 2 ^ p.1 % LL∧p.1≤64*ws.length) ?_ (64*ws.length,0) _ ?_
 ·rintro b ⟨n,r⟩ σ ⟨g1,g0,hnx,hr,hn⟩ ih
  simp only at g1 g0 hnx hr hn
  cases n with
  | zero=>
   rw [Nat.pow_zero,Nat.div_one] at hr
   rw [←hr]
   have hq:=r_snum (X:=r)
   have hL:=toLE_len 32 r
   generalize toLE 32 r=v at*
   have hlv:(u8cells v).length=32:=by rw [u8cells,List.length_map,hL]
   have htv:(u8cells v).take 32=u8cells v:=List.take_of_length_le (by omega)
   unfold fourC at g1
   simp only [List.replicate] at g0
   simp only [arrE,fourE] at hq ⊢
   simp only [C22Fa,EXA,seval,readAt_some,g0,g1,hq,hlv,htv,closed_u8,er_u8,one_u8]
  | succ m=>
   have hi:((m+1:Nat):Int) - 1=(m:Int):=by omega
   have hge:decide ((m:Int)≥0)=true:=by simp
   have hw1:IntKind.wrap .i64 ((m:Int) - 1)=(m:Int) - 1:=wrap_i (by omega) (by omega)
   obtain ⟨c,hc⟩ : ∃c,ws[m / 64]? =some c:=⟨ws[m / 64]'(by omega),List.getElem?_eq_getElem (by omega)⟩
   have hcm:(ws.map U)[m / 64]? =some (U c):=by rw [List.getElem?_map,hc]; rfl
   have hix:=idx_vsl (sz:=1) (c:=none) hcm rfl
   have hbit:=wbit_at hc
   have hble:(c >>> UInt64.ofNat (m % 64) &&& 1).toNat≤1:=by rw [hbit]; omega
   have hr2:r < LL:=by rw [hr]; exact Nat.mod_lt _ hLL
   obtain ⟨σ1,d1,d2,d3,d4⟩:=c_step hr2 hble g1 (by omega)
   have hq':Int.tdiv (m:Int) 64=((m / 64:Nat):Int):=rfl
   have hm':Int.tmod (m:Int) 64=((m % 64:Nat):Int):=rfl
   have hq:IntKind.wrap .i64 ((m / 64:Nat):Int)=((m / 64:Nat):Int):=wrap_i (by omega) (by omega)
   have hm:IntKind.wrap .i64 ((m % 64:Nat):Int)=((m % 64:Nat):Int):=wrap_i (by omega) (by omega)
   have hsh:=sh_r c (m % 64) (by omega)
   have hone:uI 1=1:=rfl
   simp only [U] at hsh hix d1
   simp only [AV.cells] at hix
   simp only [C22Fa,EXA,seval,readAt_some,hi,hge,hq,hm,hq',hm',hix,hsh,w_and,hone,d1,hw1]
   refine ih (m,(2*r+(c >>> UInt64.ofNat (m % 64) &&& 1).toNat) % LL) _ _ (Nat.lt_succ_self m) ⟨d2,?_,by omega,?_,by omega⟩ rfl
   ·rw [d4 0 (by omega) (by omega)]; exact g0
   ·show (2*r+(c >>> UInt64.ofNat (m % 64) &&& 1).toNat) % LL=wsN ws / 2 ^ m % LL
    rw [hbit,hr]
    have e1:wsN ws / 2 ^ m=2*(wsN ws / 2 ^ (m+1))+wsN ws / 2 ^ m % 2:=by
     rw [Nat.pow_succ,←Nat.div_div_eq_div_mul]; omega
    conv=>rhs; rw [e1]
    rw [Nat.add_mod,Nat.mul_mod_mod,←Nat.add_mod]
 ·refine ⟨?_,rfl,Nat.le_refl _,?_,Nat.le_refl _⟩
  ·rw [show fourC 0= [.int .u64 0, .int .u64 0, .int .u64 0, .int .u64 0] from by kernel_rfl]; rfl
  ·show 0=_
   rw [Nat.div_eq_of_lt (wsN_lt ws),Nat.zero_mod]
end Go.Ab
namespace Go.Ab
set_option maxHeartbeats 1000000
def C23Fa:=J @F279_3.eq_1 (J @F279_15.eq_1 (J @F279_16.eq_1 (@F279.eq_1)))
set_option maxRecDepth 100000
theorem chunks1: ∀cs:List AV,chunks 1 cs.length cs=cs
 | []=>rfl
 | c ::cs=>by
  rw [List.length_cons,chunks,if_pos rfl,List.drop_one,List.tail_cons,chunks1 cs]; rfl
theorem closedL_sub {l m:List AV} (h:closedL l=true) (hs: ∀x∈m,x∈l):closedL m=true:=closedL_all.2 fun x hx=>closedL_all.1 h x (hs x hx)
theorem rb_sl1 {σ:Store} {d b off n:Nat} {c:Option Nat} {cs:List AV} (h:look σ.m b=some (.own cs)) (hn:off+n≤cs.length) (hc:closedL cs=true) (ha:cs.all AV.notAgg=true) :
  rb σ (d+1) (.sl b off n 1 c)=some (.vsl ((cs.drop off).take n) none):=by
 have hb:σ.cells b=some cs:=by unfold Store.cells Store.get; rw [h]
 have hm: ∀x∈(cs.drop off).take n,x∈cs:=fun x hx=>List.mem_of_mem_drop (List.mem_of_mem_take hx)
 have hl:((cs.drop off).take n).length=n:=by rw [List.length_take,List.length_drop]; omega
 have ha':((cs.drop off).take n).all AV.notAgg=true:=List.all_eq_true.2 fun x hx=>List.all_eq_true.1 ha x (hm x hx)
 have e:rb σ (d+1) (.sl b off n 1 c)=(match σ.cells b with
   | some cs=>
    if off+n*1≤cs.length∧0 < 1 then
     match mapO (rb σ d) ((cs.drop off).take (n*1)) with
     | some cs'=>if cs'.all AV.notAgg then some (.vsl (chunks 1 n cs') none) else none
     | none=>none
    else none
   | none=>none):=rfl
 rw [e,hb]
 simp only
 rw [Nat.mul_one,if_pos ⟨hn,by decide⟩,mapO_closed' (closedL_sub hc hm)]
 simp only
 rw [if_pos ha']
 conv=>lhs; rw [show n=((cs.drop off).take n).length from hl.symm]
 rw [hl,←hl]; simp only [hl]
 conv=>lhs; rw [show chunks 1 n (List.take n (List.drop off cs))=chunks 1 ((cs.drop off).take n).length ((cs.drop off).take n) by rw [hl]]
 rw [chunks1]
theorem callP_args {f:Nat} {args args':List AV} {σ:Store} {r:AV} (h2:mapO (rb σ rbDepth) args=some args') (he:erL args'=args') (hr:cR f args'=some r) (hf:r.flat=true):callP ipU gU false (.fn f [] []) args σ=some (r,σ):=
 callP_flat (args':=args') rfl h2 (by rw [he]; exact hr) hf
theorem callP_sl {f b off n:Nat} {c:Option Nat} {cs:List AV} {σ:Store} {r:AV} (h:look σ.m b=some (.own cs)) (hn:off+n≤cs.length) (hc:closedL cs=true) (ha:cs.all AV.notAgg=true)
  (he:erL ((cs.drop off).take n)=(cs.drop off).take n) (hr:cR f [.vsl ((cs.drop off).take n) none]=some r) (hf:r.flat=true):callP ipU gU false (.fn f [] []) [.sl b off n 1 c] σ=some (r,σ):=
 callP_args (args':= [.vsl ((cs.drop off).take n) none]) (by rw [mapO_one,show rbDepth=23+1 from rfl,rb_sl1 h hn hc ha]; rfl) (by rw [erL_cons,er_vsl,he,erL_nil]) hr hf
theorem sliceA_all {σ:Store} {b n:Nat} {cs:List AV} (h:look σ.m b=some (.own cs)) (hl:cs.length=n) (hn:0 < n):sliceAOf σ n 1 (.ptr b 0) none none=some (.sl b 0 n 1 (some n)):=by
 have hb:σ.cells b=some cs:=by unfold Store.cells Store.get; rw [h]
 simp [sliceAOf,bounds,hb,hl,hn]
theorem wd_div (n k:Nat):wq n k=UInt64.ofNat (n / 2 ^ (64*k)):=by
 rw [wq,show (18446744073709551616:Nat)=2 ^ 64 from rfl,←Nat.pow_mul]
theorem wd_next {n i k:Nat} {b:UInt8} (hn:n < 256 ^ i):wq (n+256 ^ i*b.toNat) k=if k=i / 8 then wq n k ||| b.toUInt64 <<< UInt64.ofNat (8*(i % 8)) else wq n k:=by
 have hb:=b.toNat_lt
 have e256:256 ^ i=2 ^ (64*(i / 8))*2 ^ (8*(i % 8)):=by
  rw [←Nat.pow_add,show (256:Nat)=2 ^ 8 from rfl,←Nat.pow_mul,show 64*(i / 8)+8*(i % 8)=8*i by omega]
 split
 ·rename_i hk
  subst hk
  apply UInt64.toNat_inj.1
  have hw:(wq n (i / 8)).toNat < 2 ^ (8*(i % 8)):=by
   rw [wd_div,UInt64.toNat_ofNat']
   refine Nat.lt_of_le_of_lt (Nat.mod_le _ _) (Nat.div_lt_of_lt_mul ?_)
   rw [←e256]; exact hn
  rw [or_shl _ _ _ (by omega) hw (show b.toUInt64.toNat < 256 from hb),wd_div,wd_div,UInt64.toNat_ofNat',UInt64.toNat_ofNat']
  have e1:(n+256 ^ i*b.toNat) / 2 ^ (64*(i / 8))=n / 2 ^ (64*(i / 8))+2 ^ (8*(i % 8))*b.toNat:=by
   rw [e256,Nat.mul_assoc,Nat.add_mul_div_left _ _ (Nat.two_pow_pos _)]
  have hw2:n / 2 ^ (64*(i / 8)) < 2 ^ (8*(i % 8)):=Nat.div_lt_of_lt_mul (by rw [←e256]; exact hn)
  have h56:2 ^ (8*(i % 8))≤2 ^ 56:=Nat.pow_le_pow_right (by decide) (by omega)
  have h3:2 ^ (8*(i % 8))*b.toNat≤2 ^ 56*255:=Nat.mul_le_mul h56 (by omega)
  have hb':b.toUInt64.toNat=b.toNat:=rfl
  rw [e1,hb']
  generalize 2 ^ (8*(i % 8))*b.toNat=q at*
  generalize n / 2 ^ (64*(i / 8))=p at*
  generalize 2 ^ (8*(i % 8))=u at*
  omega
 ·rename_i hk
  apply UInt64.toNat_inj.1
  rw [wd_div,wd_div,UInt64.toNat_ofNat',UInt64.toNat_ofNat']
  by_cases h:k < i / 8
  ·have e2:256 ^ i*b.toNat=2 ^ (64*k)*(2 ^ 64*(2 ^ (8*i - 64*k - 64)*b.toNat)):=by
    rw [←Nat.mul_assoc,←Nat.mul_assoc,←Nat.pow_add,←Nat.pow_add,show (256:Nat)=2 ^ 8 from rfl,←Nat.pow_mul,show 64*k+64+(8*i - 64*k - 64)=8*i by omega]
   rw [e2,Nat.add_mul_div_left _ _ (Nat.two_pow_pos _),Nat.add_mul_mod_self_left]
  ·have h1:n+256 ^ i*b.toNat < 256 ^ (i+1):=by
    rw [Nat.pow_succ]
    have:256 ^ i*b.toNat≤256 ^ i*255:=Nat.mul_le_mul_left _ (by omega)
    omega
   have h2:256 ^ (i+1)≤2 ^ (64*k):=by
    rw [show (256:Nat)=2 ^ 8 from rfl,←Nat.pow_mul]
    exact Nat.pow_le_pow_right (by decide) (by omega)
   rw [Nat.div_eq_of_lt (by omega),Nat.div_eq_of_lt (by omega)]
theorem leN_take {s:List UInt8} {i:Nat} {b:UInt8} (h:s[i]? =some b):leN (s.take (i+1))=leN (s.take i)+256 ^ i*b.toNat:=by
 have hi:i < s.length:=(List.getElem?_eq_some_iff.1 h).1
 have hb:s[i]=b:=(List.getElem?_eq_some_iff.1 h).2
 rw [List.take_succ_eq_append_getElem hi,leN_app,hb,List.length_take,Nat.min_eq_left (by omega)]
 simp [leN]
def wC (n:Nat):List AV:= [U (wq n 0),U (wq n 1),U (wq n 2),U (wq n 3),U (wq n 4),U (wq n 5),U (wq n 6),U (wq n 7)]
theorem wC_map (n:Nat):wC n=(List.range 8).map fun k=>U (wq n k):=rfl
theorem wC_at {n j:Nat} (h:j < 8):(wC n)[j]? =some (U (wq n j)):=by
 rw [wC_map,List.getElem?_map,List.getElem?_range h]; rfl
theorem wC_next {n i:Nat} {b:UInt8} (hn:n < 256 ^ i):(wC n).set (i / 8) (U (wq n (i / 8) ||| b.toUInt64 <<< UInt64.ofNat (8*(i % 8))))=wC (n+256 ^ i*b.toNat):=by
 apply List.ext_getElem?
 intro k
 rw [List.getElem?_set]
 by_cases h8:k < 8
 ·rw [wC_at h8,wC_at h8,wd_next hn]
  by_cases hk:i / 8=k
  ·subst hk; simp [wC]; omega
  ·rw [if_neg hk,if_neg (fun h=>hk h.symm)]
 ·have e1: ∀m,(wC m)[k]? =none:=fun m=>List.getElem?_eq_none (by simp [wC]; omega)
  rw [e1,e1]
  split
  ·rename_i hk; simp [wC]; omega
  ·rfl
theorem wC_put {n i:Nat} {b:UInt8} (hn:n < 256 ^ i) (hi:i < 64):(wC n).take (i / 8) ++ [U (wq n (i / 8) ||| b.toUInt64 <<< UInt64.ofNat (8*(i % 8)))] ++(wC n).drop (i / 8+1)=wC (n+256 ^ i*b.toNat):=by
 rw [←wC_next hn,List.set_eq_take_append_cons_drop,if_pos (by simp [wC]; omega),List.append_assoc]; rfl
theorem slice_take {cs:List AV} {c:Option Nat} {n:Nat} (h:n≤cs.length):sliceOf 1 (.vsl cs c) none (some (n:Int)) none=some (.vsl (cs.take n) (c.map (· - 0))):=by
 simp [sliceOf,bounds,h]
theorem r_ofL {s:List UInt8} (h:s.length=64):cR 279 [.vsl (u8cells s) none]=some (arrE (toLE 32 (leN s % LL))):=by
 have hl:(u8cells s).length=64:=by rw [u8cells,List.length_map,h]
 have hsl:=slice_take (cs:=u8cells s) (c:=none) (n:=64) (by omega)
 rw [List.take_of_length_le (by omega)] at hsl
 have hI:((64:Nat):Int)=64:=rfl
 rw [hI] at hsl
 refine cR_of (F:=F279) rfl ?_
 simp only [F279_3,F279_15,F279,EXA,seval,ex_loop,hl,hI,hsl,Option.map_none]
 refine ex_whileI (S:=Nat) (fun n=> [(2, .ptr 0 0),(3, .ptr 1 0),(10, .vsl (u8cells s) none),(11, .int .i64 64),(12, .int .i64 ((64 - n:Nat):Int))]) (fun n=>n)
  (fun n σ=>look σ.m 1=some (.own (wC (leN (s.take (64 - n)))))∧look σ.m 0=some (.own (List.replicate 32 (.int .u8 0)))∧n≤64) ?_ 64 _ ?_
 ·rintro b n σ ⟨g1,g0,hn⟩ ih
  cases n with
  | zero=>
   rw [Nat.sub_zero,List.take_of_length_le (by omega)] at g1
   have hws:wC (leN s)=((List.range 8).map fun k=>wq (leN s) k).map U:=rfl
   have hN:wsN ((List.range 8).map fun k=>wq (leN s) k)=leN s:=by
    have hlt:=leN_lt s
    rw [h] at hlt
    show wsN [wq (leN s) 0,wq (leN s) 1,wq (leN s) 2,wq (leN s) 3,wq (leN s) 4,wq (leN s) 5,wq (leN s) 6,wq (leN s) 7]=leN s
    simp only [wsN,wd_nat,Nat.pow_zero,Nat.pow_succ,Nat.one_mul,Nat.reduceMul]
    rw [show (256:Nat) ^ 64=13407807929942597099574024998205846127479365820592393377723561443721764030073546976801874298166903427690031858186486050853753882811946569946433649006084096 by decide] at hlt
    omega
   have hr:=r_srest (ws:=(List.range 8).map fun k=>wq (leN s) k) (by rw [List.length_map,List.length_range]; decide)
   rw [←hws,hN] at hr
   have hP:=callP_sl (off:=0) (n:=8) (c:=some 8) g1 (by simp [wC]) (by simp [wC,closedL,AV.closed]) (by simp [wC,AV.notAgg]) (by simp only [wC,List.drop_zero,List.take_succ_cons,List.take_zero,erL_cons,er_int,erL_nil]) hr (by simp only [arrE,AV.flat,flat_u8])
   have hL:=toLE_len 32 (leN s % LL)
   generalize toLE 32 (leN s % LL)=v at*
   have hlv:(u8cells v).length=32:=by rw [u8cells,List.length_map,hL]
   have htv:(u8cells v).take 32=u8cells v:=List.take_of_length_le (by omega)
   simp only [List.replicate] at g0
   have hw8:(wC (leN s)).length=8:=rfl
   have hsa:=sliceA_all g1 hw8 (by decide)
   simp only [arrE] at hP ⊢
   simp only [C23Fa,EXA,seval,readAt_some,g0,g1,hw8,hsa,hP,hlv,htv,closed_u8,er_u8,one_u8,decide_eq_true_eq,Int.lt_irrefl]
  | succ m=>
   have hi:64 - (m+1) < 64:=by omega
   generalize hj:64 - (m+1)=j at*
   have hjm:64 - m=j+1:=by omega
   obtain ⟨c,hc⟩ : ∃c,s[j]? =some c:=⟨s[j]'(by omega),List.getElem?_eq_getElem (by omega)⟩
   have hcm:(u8cells s)[j]? =some (.int .u8 (c.toNat:Int)):=by rw [u8cells,List.getElem?_map,hc]; rfl
   have hix:=idx_vsl (sz:=1) (c:=none) hcm rfl
   have hlt:decide ((j:Int) < 64)=true:=decide_eq_true (by omega)
   have hq':Int.tdiv (j:Int) 8=((j / 8:Nat):Int):=rfl
   have hm':Int.tmod (j:Int) 8=((j % 8:Nat):Int):=rfl
   have hq:IntKind.wrap .i64 ((j / 8:Nat):Int)=((j / 8:Nat):Int):=wrap_i (by omega) (by omega)
   have hm:IntKind.wrap .i64 ((j % 8:Nat):Int)=((j % 8:Nat):Int):=wrap_i (by omega) (by omega)
   have h8:IntKind.wrap .i64 (8*((j % 8:Nat):Int))=((8*(j % 8):Nat):Int):=by rw [wrap_i (by omega) (by omega)]; omega
   have hw1:IntKind.wrap .i64 ((j:Int)+1)=((j+1:Nat):Int):=wrap_i (by omega) (by omega)
   have hx:=idx_n (k:= .i64) (n:=8) (b:=1) (j:=j / 8) (by omega)
   have hat:=wC_at (n:=leN (s.take j)) (j:=j / 8) (by omega)
   have hsh:=sh_l c.toUInt64 (8*(j % 8)) (by omega)
   have hnx:=leN_take hc
   have hlt2:leN (s.take j) < 256 ^ j:=by
    have:=leN_lt (s.take j)
    rwa [List.length_take,Nat.min_eq_left (by omega)] at this
   have hset:=wC_put (b:=c) hlt2 hi
   have h7:j / 8≤7:=by omega
   rw [←hnx] at hset
   have hw8:(wC (leN (s.take j))).length=8:=rfl
   simp only [U] at hsh hat hset
   simp only [AV.cells] at hix
   simp only [C23Fa,EXA,seval,readAt_some,hlt,hix,hq,hm,hq',hm',h8,hx,g1,hat,wrap_b,hsh,w_or,uI_nat,hw1,hw8,h7,hset]
   exact ih m _ _ (Nat.lt_succ_self m) ⟨by rw [hjm]; rfl,by simpa [look] using g0,by omega⟩ (by rw [hjm]; rfl)
 ·exact ⟨by kernel_rfl,rfl,Nat.le_refl _⟩
end Go.Ab
namespace Go.Ab
set_option maxHeartbeats 1000000
set_option maxRecDepth 100000
theorem copy_own {σ:Store} {b d n m:Nat} {c e:Option Nat} {cs new:List AV} (hb:look σ.m b=some (.own cs)) (hd:look σ.m d=some (.own new)) (hm:0 < m) (hmn:m≤n) (hc:cs.length=n) (hn:new.length=m) (ho:new.all AV.one=true) :
  copyOf σ 1 (.sl b 0 n 1 c) (.sl d 0 m 1 e)=some (.int .i64 m,{ σ with m:=(b, .own (new ++cs.drop m)) ::σ.m }):=by
 have e1:σ.cells d=some new:=by unfold Store.cells Store.get; rw [hd]
 have e2:σ.owned b=some cs:=by unfold Store.owned Store.get; rw [hb]
 have e3:rowOf σ 1 (.sl d 0 m 1 e)=some new:=by
  simp only [rowOf,if_true,e1]
  rw [if_pos (by omega),List.drop_zero,List.take_of_length_le (by omega)]
 simp only [copyOf,lenOf,e3,e2,Store.set,splice,List.take_zero,List.nil_append,Nat.zero_add,hn]
 rw [if_neg (by omega),if_pos ⟨trivial,by decide,hmn,by omega,by omega,ho⟩]
def lenB:Option Blk→Nat
 | some (.own cs)=>cs.length
 | _=>0
theorem sliceA_len {σ:Store} {b n:Nat} (hn:0 < n) (h:lenB (look σ.m b)=n):sliceAOf σ n 1 (.ptr b 0) none none=some (.sl b 0 n 1 (some n)):=by
 unfold lenB at h
 split at h
 ·rename_i cs e
  exact sliceA_all e h hn
 ·omega
theorem rows4 {a0 a1 a2 a3 b0 b1 b2 b3 d0 d1 d2 d3 q0u q1u q2u q3u cu q0v q1v q2v q3v cv q0w q1w q2w q3w cw q0z q1z q2z q3z cz:UInt64}
  (eu:v4 q0u q1u q2u q3u+T256*cu.toNat=v4 d0 d1 d2 d3+a0.toNat*v4 b0 b1 b2 b3) (ev:v4 q0v q1v q2v q3v+T256*cv.toNat=v4 q1u q2u q3u cu+a1.toNat*v4 b0 b1 b2 b3)
  (ew:v4 q0w q1w q2w q3w+T256*cw.toNat=v4 q1v q2v q3v cv+a2.toNat*v4 b0 b1 b2 b3) (ez:v4 q0z q1z q2z q3z+T256*cz.toNat=v4 q1w q2w q3w cw+a3.toNat*v4 b0 b1 b2 b3) :
  wsN [q0u,q0v,q0w,q0z,q1z,q2z,q3z,cz]=v4 a0 a1 a2 a3*v4 b0 b1 b2 b3+v4 d0 d1 d2 d3:=by
 have em:v4 a0 a1 a2 a3*v4 b0 b1 b2 b3=a0.toNat*v4 b0 b1 b2 b3+18446744073709551616*(a1.toNat*v4 b0 b1 b2 b3+18446744073709551616*(a2.toNat*v4 b0 b1 b2 b3+18446744073709551616*(a3.toNat*v4 b0 b1 b2 b3))):=by
  rw [v4]; simp only [Nat.add_mul,Nat.mul_assoc]
 rw [em]
 clear em
 simp only [wsN]
 generalize a0.toNat*v4 b0 b1 b2 b3=m0 at*
 generalize a1.toNat*v4 b0 b1 b2 b3=m1 at*
 generalize a2.toNat*v4 b0 b1 b2 b3=m2 at*
 generalize a3.toNat*v4 b0 b1 b2 b3=m3 at*
 unfold v4 T256 at*
 omega
theorem w_muladd (a0 a1 a2 a3 b0 b1 b2 b3 d0 d1 d2 d3:UInt64) {A B D:List UInt8} (hA:A.length=32) (hB:B.length=32) (hD:D.length=32) (eA:leN A=v4 a0 a1 a2 a3) (eB:leN B=v4 b0 b1 b2 b3) (eD:leN D=v4 d0 d1 d2 d3) :
  cR 361 [arrE A,arrE B,arrE D]=some (arrE (toLE 32 ((leN A*leN B+leN D) % LL))):=by
 have z0:((0:UInt64).toNat:Int)=0:=rfl
 obtain ⟨q0u,q1u,q2u,q3u,cu,eu,_,_,_,_,_,_,_,_,_,_,_,_,_,_,_,_,_,_,_,_,_,_,_,_,_,_,_,fu0,fu1,fu2,fu3,fu4,fu5,fu6,fu7,fu8,fu9,fu10,fu11,fu12,fu13,fu14,fu15,fu16,fu17,fu18,fu19⟩:=row a0 b0 b1 b2 b3 d0 d1 d2 d3
 obtain ⟨q0v,q1v,q2v,q3v,cv,ev,_,_,_,_,_,_,_,_,_,_,_,_,_,_,_,_,_,_,_,_,_,_,_,_,_,_,_,fv0,fv1,fv2,fv3,fv4,fv5,fv6,fv7,fv8,fv9,fv10,fv11,fv12,fv13,fv14,fv15,fv16,fv17,fv18,fv19⟩:=row a1 b0 b1 b2 b3 q1u q2u q3u cu
 obtain ⟨q0w,q1w,q2w,q3w,cw,ew,_,_,_,_,_,_,_,_,_,_,_,_,_,_,_,_,_,_,_,_,_,_,_,_,_,_,_,fw0,fw1,fw2,fw3,fw4,fw5,fw6,fw7,fw8,fw9,fw10,fw11,fw12,fw13,fw14,fw15,fw16,fw17,fw18,fw19⟩:=row a2 b0 b1 b2 b3 q1v q2v q3v cv
 obtain ⟨q0z,q1z,q2z,q3z,cz,ez,_,_,_,_,_,_,_,_,_,_,_,_,_,_,_,_,_,_,_,_,_,_,_,_,_,_,_,fz0,fz1,fz2,fz3,fz4,fz5,fz6,fz7,fz8,fz9,fz10,fz11,fz12,fz13,fz14,fz15,fz16,fz17,fz18,fz19⟩:=row a3 b0 b1 b2 b3 q1w q2w q3w cw
 have hlA:=r_sload hA
 have hlB:=r_sload hB
 have hlD:=r_sload hD
 rw [eA,fourE_v4] at hlA
 rw [eB,fourE_v4] at hlB
 rw [eD,fourE_v4] at hlD
 have hm:=rows4 eu ev ew ez
 rw [←eA,←eB,←eD] at hm
 have hr:=r_srest (ws:= [q0u,q0v,q0w,q0z,q1z,q2z,q3z,cz]) (show 8 < 1099511627776 by decide)
 rw [hm] at hr
 have hL:=toLE_len 32 ((leN A*leN B+leN D) % LL)
 generalize toLE 32 ((leN A*leN B+leN D) % LL)=v at*
 have hlv:(u8cells v).length=32:=by rw [u8cells,List.length_map,hL]
 have htv:(u8cells v).take 32=u8cells v:=List.take_of_length_le (by omega)
 have hcA:(u8cells A).length=32:=by rw [u8cells,List.length_map,hA]
 have hcB:(u8cells B).length=32:=by rw [u8cells,List.length_map,hB]
 have hcD:(u8cells D).length=32:=by rw [u8cells,List.length_map,hD]
 have htA:(u8cells A).take 32=u8cells A:=List.take_of_length_le (by omega)
 have htB:(u8cells B).take 32=u8cells B:=List.take_of_length_le (by omega)
 have htD:(u8cells D).take 32=u8cells D:=List.take_of_length_le (by omega)
 clear hm eA eB eD eu ev ew ez hA hB hD
 refine cR_of (F:=F361) rfl ?_
 simp only [arrE] at hlA hlB hlD hr ⊢
 simp only [List.map_cons,List.map_nil] at hr
 simp only [U,z0] at fu0 fu1 fu2 fu3 fu4 fu5 fu6 fu7 fu8 fu9 fu10 fu11 fu12 fu13 fu14 fu15 fu16 fu17 fu18 fu19 fv0 fv1 fv2 fv3 fv4 fv5 fv6 fv7 fv8 fv9 fv10 fv11 fv12 fv13 fv14 fv15 fv16 fv17 fv18 fv19 fw0 fw1 fw2 fw3 fw4 fw5 fw6 fw7 fw8 fw9 fw10 fw11 fw12 fw13 fw14 fw15 fw16 fw17 fw18 fw19 fz0 fz1 fz2 fz3 fz4 fz5 fz6 fz7 fz8 fz9 fz10 fz11 fz12 fz13 fz14 fz15 fz16 fz17 fz18 fz19 hlA hlB hlD hr ⊢
 have copy84 {σ:Store} (h:look σ.m 3=some (.own [.int .u64 0, .int .u64 0, .int .u64 0, .int .u64 0, .int .u64 0, .int .u64 0, .int .u64 0, .int .u64 0])) (g:look σ.m 4=some (.own [.int .u64 d0.toNat, .int .u64 d1.toNat, .int .u64 d2.toNat, .int .u64 d3.toNat])):=copy_own (n:=8) (m:=4) (c:=some 8) (e:=some 4) h g (by decide) (by decide) rfl rfl rfl
 have hP (σ:Store) (h:look σ.m 3=some (.own [.int .u64 (q0u.toNat:Int), .int .u64 (q0v.toNat:Int), .int .u64 (q0w.toNat:Int), .int .u64 (q0z.toNat:Int), .int .u64 (q1z.toNat:Int), .int .u64 (q2z.toNat:Int), .int .u64 (q3z.toNat:Int), .int .u64 (cz.toNat:Int)])):callP ipU gU false (.fn 343 [] []) [.sl 3 0 8 1 (some 8)] σ=some (.agg (u8cells v),σ):=
  callP_sl (off:=0) (n:=8) h (Nat.le_refl 8) (by simp [closedL,AV.closed]) (by simp [AV.notAgg]) (by simp only [List.drop_zero,List.take_succ_cons,List.take_zero,erL_cons,er_int,erL_nil]) hr (by simp only [AV.flat,flat_u8])
 simp only [F361,EXA,seval,readAt_some,@sliceA_len,lenB,copy84,ex_loop,ex_inLoop,@wrap_i,@wrap_u,@idx_ptr,@idx_v,hP,hcA,hcB,hcD,htA,htB,htD,hlv,htv,closed_u8,er_u8,one_u8,hlA,hlB,hlD,fu0,fu1,fu2,fu3,fu4,fu5,fu6,fu7,fu8,fu9,fu10,fu11,fu12,fu13,fu14,fu15,fu16,fu17,fu18,fu19,fv0,fv1,fv2,fv3,fv4,fv5,fv6,fv7,fv8,fv9,fv10,fv11,fv12,fv13,fv14,fv15,fv16,fv17,fv18,fv19,fw0,fw1,fw2,fw3,fw4,fw5,fw6,fw7,fw8,fw9,fw10,fw11,fw12,fw13,fw14,fw15,fw16,fw17,fw18,fw19,fz0,fz1,fz2,fz3,fz4,fz5,fz6,fz7,fz8,fz9,fz10,fz11,fz12,fz13,fz14,fz15,fz16,fz17,fz18,fz19]
theorem r_muladd {A B D:List UInt8} (hA:A.length=32) (hB:B.length=32) (hD:D.length=32):cR 361 [arrE A,arrE B,arrE D]=some (arrE (toLE 32 ((leN A*leN B+leN D) % LL))):=by
 obtain ⟨a0,a1,a2,a3,eA⟩:=v4_ex (leN_256 hA)
 obtain ⟨b0,b1,b2,b3,eB⟩:=v4_ex (leN_256 hB)
 obtain ⟨d0,d1,d2,d3,eD⟩:=v4_ex (leN_256 hD)
 exact w_muladd a0 a1 a2 a3 b0 b1 b2 b3 d0 d1 d2 d3 hA hB hD eA eB eD
end Go.Ab
namespace Go.Ab
def rotl (x:UInt64) (k:Nat):UInt64:=x <<< UInt64.ofNat k ||| x >>> UInt64.ofNat (64 - k)
structure V8 where
 a:UInt64
 b:UInt64
 c:UInt64
 d:UInt64
 e:UInt64
 f:UInt64
 g:UInt64
 h:UInt64
def turnV (v:V8) (x:UInt64):V8:=
 let t1:=v.h+(rotl v.e 50 ^^^ rotl v.e 46 ^^^ rotl v.e 23)+((v.e &&& v.f) ^^^ (~~~v.e &&& v.g))+x
 let t2:=(rotl v.a 36 ^^^ rotl v.a 30 ^^^ rotl v.a 25)+((v.a &&& v.b) ^^^ (v.a &&& v.c) ^^^ (v.b &&& v.c))
 ⟨t1+t2,v.a,v.b,v.c,v.d+t1,v.e,v.f,v.g⟩
def sig0 (x:UInt64):UInt64:=rotl x 63 ^^^ rotl x 56 ^^^ x >>> 7
def sig1 (y:UInt64):UInt64:=rotl y 45 ^^^ rotl y 3 ^^^ y >>> 6
def nextW (l:List UInt64):UInt64:=l.getD (l.length - 16) 0+sig0 (l.getD (l.length - 15) 0)+l.getD (l.length - 7) 0+sig1 (l.getD (l.length - 2) 0)
def schW:Nat→List UInt64→List UInt64
 | 0,l=>l
 | n+1,l=>schW n (l ++ [nextW l])
def be8 (l:List UInt8):UInt64:=l.foldl (fun w c=>w <<< 8 ||| c.toUInt64) 0
def blkW (s:List UInt8) (n:Nat):List UInt64:=(List.range n).map fun i=>be8 ((s.drop (8*i)).take 8)
def V8.add (v w:V8):V8:=⟨v.a+w.a,v.b+w.b,v.c+w.c,v.d+w.d,v.e+w.e,v.f+w.f,v.g+w.g,v.h+w.h⟩
def roundV (v:V8):List UInt64→V8
 | []=>v
 | x ::l=>roundV (turnV v x) l
def addL (l k:List UInt64):List UInt64:=List.zipWith (· + ·) l k
def mixV (k:List UInt64) (v:V8) (s:List UInt8):V8:=v.add (roundV v (addL (schW 64 (blkW s 16)) k))
def mixAll (k:List UInt64):Nat→V8→List UInt8→V8
 | 0,v,_=>v
 | n+1,v,s=>mixAll k n (mixV k v (s.take 128)) (s.drop 128)
def be64 (n:Nat):List UInt8:=(toLE 8 n).reverse
def padT (n:Nat):Nat:=(n+17+127) / 128*128
def pad512 (s:List UInt8):List UInt8:=s ++ [128] ++List.replicate (padT s.length - s.length - 9) 0 ++be64 (8*s.length)
def V8.list (v:V8):List UInt64:= [v.a,v.b,v.c,v.d,v.e,v.f,v.g,v.h]
def outV (v:V8):List UInt8:=v.list.flatMap fun w=>(toLE 8 w.toNat).reverse
def KK:List UInt64:= [
 0x428a2f98d728ae22,0x7137449123ef65cd,0xb5c0fbcfec4d3b2f,0xe9b5dba58189dbbc,
 0x3956c25bf348b538,0x59f111f1b605d019,0x923f82a4af194f9b,0xab1c5ed5da6d8118,
 0xd807aa98a3030242,0x12835b0145706fbe,0x243185be4ee4b28c,0x550c7dc3d5ffb4e2,
 0x72be5d74f27b896f,0x80deb1fe3b1696b1,0x9bdc06a725c71235,0xc19bf174cf692694,
 0xe49b69c19ef14ad2,0xefbe4786384f25e3,0x0fc19dc68b8cd5b5,0x240ca1cc77ac9c65,
 0x2de92c6f592b0275,0x4a7484aa6ea6e483,0x5cb0a9dcbd41fbd4,0x76f988da831153b5,
 0x983e5152ee66dfab,0xa831c66d2db43210,0xb00327c898fb213f,0xbf597fc7beef0ee4,
 0xc6e00bf33da88fc2,0xd5a79147930aa725,0x06ca6351e003826f,0x142929670a0e6e70,
 0x27b70a8546d22ffc,0x2e1b21385c26c926,0x4d2c6dfc5ac42aed,0x53380d139d95b3df,
 0x650a73548baf63de,0x766a0abb3c77b2a8,0x81c2c92e47edaee6,0x92722c851482353b,
 0xa2bfe8a14cf10364,0xa81a664bbc423001,0xc24b8b70d0f89791,0xc76c51a30654be30,
 0xd192e819d6ef5218,0xd69906245565a910,0xf40e35855771202a,0x106aa07032bbd1b8,
 0x19a4c116b8d2d0c8,0x1e376c085141ab53,0x2748774cdf8eeb99,0x34b0bcb5e19b48a8,
 0x391c0cb3c5c95a63,0x4ed8aa4ae3418acb,0x5b9cca4f7763e373,0x682e6ff3d6b2b8a3,
 0x748f82ee5defb2fc,0x78a5636f43172f60,0x84c87814a1f0ab72,0x8cc702081a6439ec,
 0x90befffa23631e28,0xa4506cebde82bde9,0xbef9a3f7b2c67915,0xc67178f2e372532b,
 0xca273eceea26619c,0xd186b8c721c0c207,0xeada7dd6cde0eb1e,0xf57d4f7fee6ed178,
 0x06f067aa72176fba,0x0a637dc5a2c898a6,0x113f9804bef90dae,0x1b710b35131c471b,
 0x28db77f523047d84,0x32caab7b40c72493,0x3c9ebe0a15c9bebc,0x431d67c49c100d4c,
 0x4cc5d4becb3e42b6,0x597f299cfc657e2a,0x5fcb6fab3ad6faec,0x6c44198c4a475817]
def HH:V8:=⟨0x6a09e667f3bcc908,0xbb67ae8584caa73b,0x3c6ef372fe94f82b,0xa54ff53a5f1d36f1,0x510e527fade682d1,0x9b05688c2b3e6c1f,0x1f83d9abfb41bd6b,0x5be0cd19137e2179⟩
def sha512 (s:List UInt8):List UInt8:=outV (mixAll KK (padT s.length / 128) HH (pad512 s))
theorem padT_ge (n:Nat):n+17≤padT n∧padT n % 128=0∧padT n < n+145:=by unfold padT; omega
theorem be64_len (n:Nat):(be64 n).length=8:=by rw [be64,List.length_reverse,toLE_len]
theorem pad_len (s:List UInt8):(pad512 s).length=padT s.length:=by
 have:=padT_ge s.length
 simp only [pad512,List.length_append,List.length_cons,List.length_nil,List.length_replicate,be64_len]; omega
theorem outV_len (v:V8):(outV v).length=64:=by
 simp [outV,V8.list,toLE_len]
theorem sha512_len (s:List UInt8):(sha512 s).length=64:=outV_len _
theorem schW_len: ∀n l,(schW n l).length=l.length+n
 | 0,l=>rfl
 | n+1,l=>by rw [schW,schW_len n,List.length_append]; simp; omega
end Go.Ab
namespace Go.Ab
set_option maxHeartbeats 1000000
set_option maxRecDepth 100000
theorem r_rot {x:UInt64} {k:Int} {j:Nat} (h:IntKind.wrap .u64 ((BitVec.ofInt (IntKind.bits .u64) (IntKind.wrap .u64 k) &&& BitVec.ofInt (IntKind.bits .u64) 63).toNat:Int)=(j:Int)) (h0:0 < j) (h1:j < 64) :
  cR 359 [U x, .int .i64 k]=some (U (rotl x j)):=by
 have s1:=sh_l x j h1
 have s2:=sh_r x (64 - j) (by omega)
 have e:IntKind.wrap .u64 (64 - (j:Int))=((64 - j:Nat):Int):=by rw [wrap_u (by omega) (by omega)]; omega
 simp only [U] at s1 s2
 refine cR_of (F:=F359) rfl ?_
 simp only [F359,EXA,seval,readAt_some,U,h,e,s1,s2,w_or,uI_nat,rotl]
def V8.cells (v:V8):List AV:= [U v.a,U v.b,U v.c,U v.d,U v.e,U v.f,U v.g,U v.h]
theorem w_not (x:UInt64):IntKind.wrap .u64 ((BitVec.ofInt (IntKind.bits .u64) (if IntKind.signed .u64=true then -1 else IntKind.max .u64) ^^^ BitVec.ofInt (IntKind.bits .u64) (x.toNat:Int)).toNat:Int)=((~~~x).toNat:Int):=by
 show IntKind.wrap .u64 ((BitVec.ofInt 64 (if IntKind.signed .u64=true then -1 else IntKind.max .u64) ^^^ BitVec.ofInt 64 (x.toNat:Int)).toNat:Int)=_
 rw [wrap_bv,bvU,show BitVec.ofInt 64 (if IntKind.signed .u64=true then -1 else IntKind.max .u64)=BitVec.allOnes 64 by decide,BitVec.allOnes_xor]; rfl
theorem c_turn {b:Nat} {v:V8} {x:UInt64} {σ:Store} (h:look σ.m b=some (.own v.cells)) :
  callS ipU gU (.fn 377 [.ptr b 0] []) [U x] σ=some (.tup [],{ σ with m:=(b, .own (turnV v x).cells) ::σ.m }):=by
 have r1 {y:UInt64}:=r_rot (x:=y) (k:= -14) (j:=50) (by kernel_rfl) (by decide) (by decide)
 have r2 {y:UInt64}:=r_rot (x:=y) (k:= -18) (j:=46) (by kernel_rfl) (by decide) (by decide)
 have r3 {y:UInt64}:=r_rot (x:=y) (k:= -41) (j:=23) (by kernel_rfl) (by decide) (by decide)
 have r4 {y:UInt64}:=r_rot (x:=y) (k:= -28) (j:=36) (by kernel_rfl) (by decide) (by decide)
 have r5 {y:UInt64}:=r_rot (x:=y) (k:= -34) (j:=30) (by kernel_rfl) (by decide) (by decide)
 have r6 {y:UInt64}:=r_rot (x:=y) (k:= -39) (j:=25) (by kernel_rfl) (by decide) (by decide)
 obtain ⟨a,b',c,d,e,f,g,h'⟩:=v
 unfold V8.cells at h ⊢
 simp only [U] at r1 r2 r3 r4 r5 r6 h ⊢
 simp only [turnV]
 refine callS_of (F:=F377) rfl ?_
 simp only [F377,EXA,seval,readAt_some,nilcOf,@idx_ptr,h,r1,r2,r3,r4,r5,r6,w_not,w_add,w_and,w_or,w_xor,uI_nat]
end Go.Ab
namespace Go.Ab
set_option maxHeartbeats 1000000
def H2Fe:=J @F342_2.eq_1 (J @F342_7.eq_1 (J @F342_19.eq_1 (J @F342_20.eq_1 (J @F342_50.eq_1 (J @F342_51.eq_1 (J @F342_59.eq_1 (J @F342_71.eq_1 (J @F342_78.eq_1 (J @F342_90.eq_1 (@F342.eq_1))))))))))
set_option maxRecDepth 100000
theorem schW_succ: ∀n l,schW (n+1) l=schW n l ++ [nextW (schW n l)]
 | 0,l=>rfl
 | n+1,l=>by rw [schW,schW_succ n,←schW]
def wsI (s:List UInt8) (i:Nat):List UInt64:=if i≤16 then blkW s i else schW (i - 16) (blkW s 16)
theorem blkW_len (s:List UInt8) (n:Nat):(blkW s n).length=n:=by simp [blkW]
theorem wsI_len (s:List UInt8) (i:Nat):(wsI s i).length=i:=by
 unfold wsI; split
 ·exact blkW_len _ _
 ·rw [schW_len,blkW_len]; omega
theorem wsI_lo (s:List UInt8) {i:Nat} (h:i < 16):wsI s (i+1)=wsI s i ++ [be8 ((s.drop (8*i)).take 8)]:=by
 unfold wsI
 rw [if_pos (by omega),if_pos (by omega),blkW,List.range_succ,List.map_append]; rfl
theorem wsI_hi (s:List UInt8) {i:Nat} (h:16≤i):wsI s (i+1)=wsI s i ++ [nextW (wsI s i)]:=by
 have e:wsI s i=schW (i - 16) (blkW s 16):=by
  unfold wsI; split
  ·have:i=16:=by omega
   subst this; rfl
  ·rfl
 rw [e,wsI,if_neg (by omega),show i+1 - 16=i - 16+1 by omega,schW_succ]
def wsC (s:List UInt8) (i:Nat):List AV:=(wsI s i).map U ++List.replicate (80 - i) (.int .u64 0)
theorem wsC_len (s:List UInt8) {i:Nat} (h:i≤80):(wsC s i).length=80:=by
 simp [wsC,wsI_len]; omega
theorem wsC_at (s:List UInt8) {i j:Nat} (h:j < i):(wsC s i)[j]? =some (U ((wsI s i).getD j 0)):=by
 rw [wsC,List.getElem?_append_left (by rw [List.length_map,wsI_len]; exact h),List.getElem?_map,List.getD_eq_getElem?_getD,List.getElem?_eq_getElem (by rw [wsI_len]; exact h)]; rfl
theorem wsC_new (s:List UInt8) {i:Nat} (h:i < 80):(wsC s i)[i]? =some (.int .u64 0):=by
 rw [wsC,List.getElem?_append_right (by rw [List.length_map,wsI_len]; omega),List.length_map,wsI_len,Nat.sub_self,List.getElem?_replicate,if_pos (by omega)]
theorem wsC_put (s:List UInt8) {i:Nat} (h:i < 80) {x:UInt64} (hx:wsI s (i+1)=wsI s i ++ [x]):(wsC s i).take i ++ [U x] ++(wsC s i).drop (i+1)=wsC s (i+1):=by
 have hl:((wsI s i).map U).length=i:=by rw [List.length_map,wsI_len]
 rw [wsC,wsC,hx,List.map_append,List.take_left' hl,show (80 - i)=(80 - (i+1))+1 by omega,List.replicate_succ,List.append_cons ((wsI s i).map U) (.int .u64 0) (List.replicate (80 - (i+1)) (.int .u64 0))]
 rw [List.drop_left' (by rw [List.length_append,hl]; rfl)]
 rfl
theorem ex8 {s:List UInt8} (h:s.length=8): ∃b0 b1 b2 b3 b4 b5 b6 b7,s= [b0,b1,b2,b3,b4,b5,b6,b7]:=by
 match s,h with
 | [b0,b1,b2,b3,b4,b5,b6,b7],_=>exact ⟨b0,b1,b2,b3,b4,b5,b6,b7,rfl⟩
theorem slice_mid {cs:List AV} {c:Option Nat} {l n:Nat} (h1:l≤n) (h:n≤cs.length) (ho:cs.all AV.one=true):sliceOf 1 (.vsl cs c) (some (l:Int)) (some (n:Int)) none=some (.vsl ((cs.take n).drop l) (c.map (· - l))):=by
 have e1:(cs.all fun e=>e.cells.length == 1)=true:=by
  rw [List.all_eq_true] at ho ⊢
  intro x hx
  have:=ho x hx
  cases x <;> simp_all [AV.one,AV.cells]
 have e2:(0:Int)≤(l:Int)∧(l:Int)≤(n:Int)∧(n:Int)≤(cs.length:Int):=by omega
 simp only [sliceOf,bounds,Option.getD_some,if_pos e2,e1,or_true,if_true,Int.toNat_natCast]
theorem idx_c {els:List AV} {c:Option Nat} {i:Int} (h0:0≤i):idxOf 1 none (.vsl els c) (.int .i64 i)=(els[i.toNat]?).bind fun e=>if e.cells.length=1 then some (.vptr e.cells 0) else none:=by
 simp only [idxOf,h0,if_true]
 cases els[i.toNat]? <;> rfl
def putAt (l:List AV) (i:Nat) (x:AV):List AV:=l.take i ++ [x] ++l.drop (i+1)
theorem put_fold {l:List AV} {i:Nat} {x:AV}:l.take i ++ [x] ++l.drop (i+1)=putAt l i x:=rfl
theorem put_len {l:List AV} {i:Nat} {x:AV} (h:i < l.length):(putAt l i x).length=l.length:=by
 simp [putAt]; omega
theorem put_at {l:List AV} {i:Nat} {x:AV} (h:i < l.length):(putAt l i x)[i]? =some x:=by
 rw [putAt,List.append_assoc,List.getElem?_append_right (by rw [List.length_take]; omega),List.length_take,Nat.min_eq_left (by omega),Nat.sub_self]; rfl
theorem put_put {l:List AV} {i:Nat} {x y:AV} (h:i < l.length):putAt (putAt l i x) i y=putAt l i y:=by
 have e:(l.take i).length=i:=by simp; omega
 have e2:(l.take i ++ [x]).length=i+1:=by rw [List.length_append,e]; rfl
 unfold putAt
 rw [List.drop_left' e2,List.append_assoc (l.take i) [x],List.take_left' e]
theorem roundV_app: ∀(l m:List UInt64) (v:V8),roundV v (l ++m)=roundV (roundV v l) m
 | [],m,v=>rfl
 | x ::l,m,v=>by rw [List.cons_append,roundV,roundV_app l m,roundV]
theorem c_mix {b:Nat} {v:V8} {s:List UInt8} {ks:List UInt64} {c1 c2:Option Nat} {σ:Store} (hs:s.length=128) (hk:ks.length=80) (h:look σ.m b=some (.own v.cells)) (hn:b < σ.next) :
  ∃σ',callS ipU gU (.fn 342 [] []) [.ptr b 0, .vsl (u8cells s) c1, .vsl (ks.map U) c2] σ=some (.tup [],σ')∧look σ'.m b=some (.own (mixV ks v s).cells)∧σ.next≤σ'.next∧∀j,j < σ.next→j≠b→look σ'.m j=look σ.m j:=by
 refine callSx (F:=F342) rfl ?_
 have hb' (k:Nat): ¬b=σ.next+k:=by omega
 have hb0: ¬b=σ.next:=by omega
 have hb'' (k:Nat): ¬σ.next+k=b:=by omega
 have hb0': ¬σ.next=b:=by omega
 simp only [F342_2,F342_7,F342_19,F342_50,F342_59,F342_71,F342_78,F342_90,F342,EXA,seval,ex_loop]
 refine ex_whileI (S:=Nat) (fun i=> [(0, .ptr b 0),(1, .vsl (u8cells s) c1),(2, .vsl (ks.map U) c2),(6, .ptr σ.next 0),(19, .int .i64 (i:Int))]) (fun i=>80 - i)
  (fun i σ'=>look σ'.m b=some (.own v.cells)∧look σ'.m σ.next=some (.own (wsC s i))∧σ.next < σ'.next∧(∀j,j < σ.next→j≠b→look σ'.m j=look σ.m j)∧i≤80) ?_ 0 _ ?_
 ·rintro B i σ1 ⟨g0,g1,g2,g3,hi⟩ ih
  by_cases h80:i=80
  ·subst h80
   have gt:decide (((80:Nat):Int) < 80)=false:=rfl
   have hlen:=wsC_len s (i:=80) (by decide)
   have htk:(wsC s 80).take 80=wsC s 80:=List.take_of_length_le (by omega)
   have hW:wsC s 80=(wsI s 80).map U:=by rw [wsC,Nat.sub_self,List.replicate_zero,List.append_nil]
   have hne: ¬σ1.next=σ.next:=by omega
   have hb2: ¬b=σ1.next:=by omega
   have hb3: ¬σ1.next=b:=by omega
   have hone:(wsC s 80).all AV.one=true:=by
    rw [hW,List.all_map]; simp [AV.one]
   unfold V8.cells at g0
   simp only [F342_2,F342_7,F342_19,F342_50,F342_51,F342_59,F342_71,F342_78,F342_90,F342,EXA,seval,readAt_some,gt,ex_loop,nilcOf,g0,g1,hlen,htk,hone,hne]
   refine ex_whileI (S:=Nat) (fun i=> [(0, .ptr b 0),(2, .vsl (ks.map U) c2),(14, .ptr σ1.next 0),(15, .fn 377 [.ptr b 0] []),(91, .agg (wsC s 80)),(92, .int .i64 (i:Int))]) (fun i=>80 - i)
    (fun i σ'=>look σ'.m b=some (.own (roundV v ((addL (wsI s 80) ks).take i)).cells)∧look σ'.m σ1.next=some (.own v.cells)∧σ1.next < σ'.next∧(∀j,j < σ.next→j≠b→look σ'.m j=look σ.m j)∧i≤80) ?_ 0 _ ?_
   ·rintro B2 i σ2 ⟨k0,k1,k2,k3,hi2⟩ ih2
    by_cases h82:i=80
    ·subst h82
     have hL:(addL (wsI s 80) ks).length=80:=by rw [addL,List.length_zipWith,wsI_len,hk]; rfl
     rw [List.take_of_length_le (by omega)] at k0
     have hmix:mixV ks v s=v.add (roundV v (addL (wsI s 80) ks)):=rfl
     rw [hmix]
     generalize roundV v (addL (wsI s 80) ks)=r at*
     unfold V8.cells at k0 k1
     clear ih ih2
     simp only [F342_2,F342_7,F342_19,F342_50,F342_51,F342_59,F342_71,F342_72,F342_78,F342_90,F342_91,F342,EXA,seval,readAt_some,gt,ex_loop,ex_inLoop,nilcOf,@wrap_i,@idx_ptr,k0,k1,hb2,hb3]
     refine ⟨?_,by omega,fun j hj hjb=> ?_⟩
     ·simp only [w_add,V8.add,V8.cells,UInt64.add_comm]
     ·have e2: ¬b=j:=fun e=>hjb e.symm
      simp only [e2,if_false]
      exact k3 j hj hjb
    ·have hlt:decide ((i:Int) < 80)=true:=decide_eq_true (by omega)
     have w2:IntKind.wrap .i64 ((i:Int)+1)=((i+1:Nat):Int):=by rw [wrap_i (by omega) (by omega)]; omega
     have hiv:=idxV_agg (n:=80) (k:= .i64) (cs:=wsC s 80) (i:=(i:Int)) (by omega) (by omega)
     have hat:=wsC_at s (i:=80) (j:=i) (by omega)
     obtain ⟨y,hy⟩ : ∃y,ks[i]? =some y:=⟨ks[i]'(by omega),List.getElem?_eq_getElem (by omega)⟩
     have hym:(ks.map U)[i]? =some (U y):=by rw [List.getElem?_map,hy]; rfl
     have hix:=idx_vsl (sz:=1) (c:=c2) hym rfl
     have hL:(addL (wsI s 80) ks)[i]? =some ((wsI s 80).getD i 0+y):=by
      have hw:(wsI s 80)[i]? =some ((wsI s 80).getD i 0):=by
       rw [List.getD_eq_getElem?_getD,List.getElem?_eq_getElem (by rw [wsI_len]; omega)]; rfl
      rw [addL,List.getElem?_zipWith,hw,hy]
     have ht:=c_turn (x:=(wsI s 80).getD i 0+y) k0
     have hta:(addL (wsI s 80) ks).take (i+1)=(addL (wsI s 80) ks).take i ++ [(wsI s 80).getD i 0+y]:=by
      have hi:=(List.getElem?_eq_some_iff.1 hL).1
      rw [List.take_succ_eq_append_getElem hi,(List.getElem?_eq_some_iff.1 hL).2]
     simp only [U] at hix hat ht
     simp only [AV.cells] at hix
     simp only [Int.toNat_natCast] at hiv
     simp only [F342_2,F342_7,F342_19,F342_50,F342_51,F342_59,F342_71,F342_72,F342_78,F342_90,F342,EXA,seval,readAt_some,hlt,w2,hiv,hat,hix,ht,w_add]
     refine ih2 (i+1) _ _ (by omega) ⟨?_,?_,k2,?_,by omega⟩ rfl
     ·rw [hta,roundV_app]; simp [look]; rfl
     ·simpa [look,hb2] using k1
     ·intro j hj hjb
      have e2: ¬b=j:=fun e=>hjb e.symm
      simpa [look,e2] using k3 j hj hjb
   ·refine ⟨?_,?_,Nat.lt_succ_self _,?_,by decide⟩
    ·simpa [look,hb3,roundV,V8.cells] using g0
    ·simp [look,V8.cells]
    ·intro j hj hjb
     have e2: ¬σ1.next=j:=by omega
     simpa [look,e2] using g3 j hj hjb
  ·by_cases h16:i < 16
   ·have hlt:decide ((i:Int) < 80)=true:=decide_eq_true (by omega)
    have hlt2:decide ((i:Int) < 16)=true:=decide_eq_true (by omega)
    have w1:IntKind.wrap .i64 (8*(i:Int))=((8*i:Nat):Int):=by rw [wrap_i (by omega) (by omega)]; omega
    have w2:IntKind.wrap .i64 ((i:Int)+1)=((i+1:Nat):Int):=by rw [wrap_i (by omega) (by omega)]; omega
    have w3:IntKind.wrap .i64 (8*((i+1:Nat):Int))=((8*(i+1):Nat):Int):=by rw [wrap_i (by omega) (by omega)]; omega
    have hsl:=slice_mid (cs:=u8cells s) (c:=c1) (l:=8*i) (n:=8*(i+1)) (by omega) (by rw [u8cells,List.length_map]; omega) (one_u8 s)
    have hch:((u8cells s).take (8*(i+1))).drop (8*i)=u8cells ((s.drop (8*i)).take 8):=by
     rw [u8cells,←List.map_take,←List.map_drop,List.drop_take,show 8*(i+1) - 8*i=8 by omega]; rfl
    obtain ⟨b0,b1,b2,b3,b4,b5,b6,b7,he⟩:=ex8 (s:=(s.drop (8*i)).take 8) (by simp; omega)
    rw [hch,he,show u8cells [b0,b1,b2,b3,b4,b5,b6,b7]= [.int .u8 (b0.toNat:Int), .int .u8 (b1.toNat:Int), .int .u8 (b2.toNat:Int), .int .u8 (b3.toNat:Int), .int .u8 (b4.toNat:Int), .int .u8 (b5.toNat:Int), .int .u8 (b6.toNat:Int), .int .u8 (b7.toNat:Int)] from rfl] at hsl
    have hx:=idx_n (k:= .i64) (n:=80) (b:=σ.next) (j:=i) (by omega)
    have hat:=wsC_new s (i:=i) (by omega)
    have s80:shiftInt .shl .u64 0 8=some (.int .u64 0):=rfl
    have sl8 (x:UInt64):shiftInt .shl .u64 (x.toNat:Int) 8=some (U (x <<< 8)):=sh_l x 8 (by decide)
    have hlen:=wsC_len s hi
    have hput:=wsC_put s (i:=i) (by omega) (wsI_lo s h16)
    have hle:i < (wsC s i).length:=by omega
    have pa {x:AV}:=put_at (x:=x) hle
    have pl {x:AV}:=put_len (x:=x) hle
    have pp {x y:AV}:=put_put (x:=x) (y:=y) hle
    have h79:i≤79:=by omega
    have hbe:be8 [b0,b1,b2,b3,b4,b5,b6,b7]=((((((((b0.toUInt64 <<< 8 ||| b1.toUInt64) <<< 8) ||| b2.toUInt64) <<< 8 ||| b3.toUInt64) <<< 8 ||| b4.toUInt64) <<< 8 ||| b5.toUInt64) <<< 8 ||| b6.toUInt64) <<< 8 ||| b7.toUInt64):=by
     simp [be8]
    rw [he,hbe] at hput
    simp only [U] at hput sl8
    simp only [H2Fe,EXA,seval,readAt_some,ex_loop,ex_inLoop,hlt,hlt2,w1,w2,w3,hsl,hx,g1,hat,hlen,sl8,wrap_b,w_or,uI_nat,@idx_c,Option.bind_some,s80,or_0,put_fold,pa,pl,pp,h79,@wrap_i]
    refine ex_inLoop.1 (ih (i+1) [(0, .ptr b 0),(1, .vsl (u8cells s) c1),(2, .vsl (ks.map U) c2),(6, .ptr σ.next 0),(19, .int .i64 ((i+1:Nat):Int))] _ (by omega) ⟨?_,?_,?_,?_,by omega⟩ rfl)
    ·simpa [look,hb0'] using g0
    ·rw [←hput]; simp [look,putAt]
    ·exact g2
    ·intro j hj hjb
     have e2: ¬σ.next=j:=by omega
     simpa [look,e2] using g3 j hj hjb
   ·have hlt:decide ((i:Int) < 80)=true:=decide_eq_true (by omega)
    have hlt2:decide ((i:Int) < 16)=false:=decide_eq_false (by omega)
    have w2:IntKind.wrap .i64 ((i:Int)+1)=((i+1:Nat):Int):=by rw [wrap_i (by omega) (by omega)]; omega
    have v15:IntKind.wrap .i64 ((i:Int) - 15)=((i - 15:Nat):Int):=by rw [wrap_i (by omega) (by omega)]; omega
    have v2:IntKind.wrap .i64 ((i:Int) - 2)=((i - 2:Nat):Int):=by rw [wrap_i (by omega) (by omega)]; omega
    have v16:IntKind.wrap .i64 ((i:Int) - 16)=((i - 16:Nat):Int):=by rw [wrap_i (by omega) (by omega)]; omega
    have v7:IntKind.wrap .i64 ((i:Int) - 7)=((i - 7:Nat):Int):=by rw [wrap_i (by omega) (by omega)]; omega
    have hx:=idx_n (k:= .i64) (n:=80) (b:=σ.next) (j:=i) (by omega)
    have hx15:=idx_n (k:= .i64) (n:=80) (b:=σ.next) (j:=i - 15) (by omega)
    have hx2:=idx_n (k:= .i64) (n:=80) (b:=σ.next) (j:=i - 2) (by omega)
    have hx16:=idx_n (k:= .i64) (n:=80) (b:=σ.next) (j:=i - 16) (by omega)
    have hx7:=idx_n (k:= .i64) (n:=80) (b:=σ.next) (j:=i - 7) (by omega)
    have a15:=wsC_at s (i:=i) (j:=i - 15) (by omega)
    have a2:=wsC_at s (i:=i) (j:=i - 2) (by omega)
    have a16:=wsC_at s (i:=i) (j:=i - 16) (by omega)
    have a7:=wsC_at s (i:=i) (j:=i - 7) (by omega)
    have hlen:=wsC_len s hi
    have hput:=wsC_put s (i:=i) (by omega) (wsI_hi s (by omega))
    have h79:i≤79:=by omega
    have r1 {y:UInt64}:=r_rot (x:=y) (k:= -1) (j:=63) (by kernel_rfl) (by decide) (by decide)
    have r2 {y:UInt64}:=r_rot (x:=y) (k:= -8) (j:=56) (by kernel_rfl) (by decide) (by decide)
    have r3 {y:UInt64}:=r_rot (x:=y) (k:= -19) (j:=45) (by kernel_rfl) (by decide) (by decide)
    have r4 {y:UInt64}:=r_rot (x:=y) (k:= -61) (j:=3) (by kernel_rfl) (by decide) (by decide)
    have sr7 (x:UInt64):shiftInt .shr .u64 (x.toNat:Int) 7=some (U (x >>> 7)):=sh_r x 7 (by decide)
    have sr6 (x:UInt64):shiftInt .shr .u64 (x.toNat:Int) 6=some (U (x >>> 6)):=sh_r x 6 (by decide)
    have hnx:nextW (wsI s i)=(wsI s i).getD (i - 16) 0+sig0 ((wsI s i).getD (i - 15) 0)+(wsI s i).getD (i - 7) 0+sig1 ((wsI s i).getD (i - 2) 0):=by rw [nextW,wsI_len]
    rw [hnx] at hput
    simp only [sig0,sig1] at hput
    simp only [U] at hput a15 a2 a16 a7 r1 r2 r3 r4 sr7 sr6
    simp only [H2Fe,EXA,seval,readAt_some,hlt,hlt2,w2,v15,v2,v16,v7,hx,hx15,hx2,hx16,hx7,g1,a15,a2,a16,a7,hlen,r1,r2,r3,r4,sr7,sr6,w_add,w_xor,uI_nat,h79,hput]
    refine ih (i+1) _ _ (by omega) ⟨?_,by simp [look],g2,?_,by omega⟩ rfl
    ·simpa [look,hb0'] using g0
    ·intro j hj hjb
     have e2: ¬σ.next=j:=by omega
     simpa [look,e2] using g3 j hj hjb
 ·refine ⟨?_,?_,Nat.lt_succ_self _,?_,by decide⟩
  ·simpa [look,hb0'] using h
  ·simp [look,wsC,wsI,blkW,List.replicate]
  ·intro j hj hjb
   have e2: ¬σ.next=j:=by omega
   simp [look,e2]
end Go.Ab
namespace Go.Ab
set_option maxHeartbeats 1000000
def H3Fa:=J @F376_27.eq_1 (J @F376_46.eq_1 (J @F376_47.eq_1 (J @F376_55.eq_1 (J @F376_70.eq_1 (J @F376_71.eq_1 (@F376.eq_1))))))
def H3Fb:=J @F376_27.eq_1 (J @F376_46.eq_1 (J @F376_55.eq_1 (J @F376_70.eq_1 (@F376.eq_1))))
def H3Fc:=J @F376_27.eq_1 (J @F376_46.eq_1 (J @F376_47.eq_1 (J @F376_55.eq_1 (J @F376_70.eq_1 (@F376.eq_1)))))
set_option maxRecDepth 100000
abbrev bsE (s:List UInt8):AV:= .vsl (u8cells s) none
theorem u8_len (s:List UInt8):(u8cells s).length=s.length:=by rw [u8cells,List.length_map]
theorem u8_app (s t:List UInt8):u8cells (s ++t)=u8cells s ++u8cells t:=by simp [u8cells]
theorem u8_cells (s:List UInt8):(u8cells s).flatMap AV.cells=u8cells s:=by
 induction s with
 | nil=>rfl
 | cons b s ih=>
  have e:u8cells (b ::s)= .int .u8 (b.toNat:Int) ::u8cells s:=rfl
  rw [e,List.flatMap_cons,ih]; rfl
theorem u8_all1 (s:List UInt8):((u8cells s).all fun e=>e.cells.length == 1)=true:=by
 simp [u8cells,AV.cells]
theorem row_u8 {σ:Store} {s:List UInt8} {c:Option Nat}:rowOf σ 1 (.vsl (u8cells s) c)=some (u8cells s):=by
 simp only [rowOf,u8_all1,if_true,u8_cells]
theorem copy_mid {σ:Store} {b off l:Nat} {c e:Option Nat} {cs:List AV} {s:List UInt8} (h:look σ.m b=some (.own cs)) (hl:s.length≤l) (hc:off+l≤cs.length) :
  ∃σ',copyOf σ 1 (.sl b off l 1 c) (.vsl (u8cells s) e)=some (.int .i64 s.length,σ')∧σ'.next=σ.next∧look σ'.m b=some (.own (cs.take off ++u8cells s ++cs.drop (off+s.length)))∧∀j,j≠b→look σ'.m j=look σ.m j:=by
 have ho:σ.owned b=some cs:=by unfold Store.owned Store.get; rw [h]
 by_cases h0:s.length=0
 ·have:=List.eq_nil_of_length_eq_zero h0
  subst this
  refine ⟨σ,?_,rfl,?_,fun _ _=>rfl⟩
  ·simp only [copyOf,lenOf,row_u8]; rfl
  ·rw [h]; simp [u8cells]
 ·refine ⟨{ σ with m:=(b, .own (cs.take off ++u8cells s ++cs.drop (off+s.length))) ::σ.m },?_,rfl,by simp [look],fun j hj=>by simp [look,Ne.symm hj]⟩
  simp only [copyOf,lenOf,row_u8,ho,u8_len,Store.set,splice]
  rw [if_neg h0,if_pos ⟨trivial,by decide,hl,by omega,by omega,one_u8 s⟩]
theorem sumL_take {ls:List (List UInt8)} {i:Nat} {s:List UInt8} (h:ls[i]? =some s):(ls.take (i+1)).flatten=(ls.take i).flatten ++s:=by
 have hi:=(List.getElem?_eq_some_iff.1 h).1
 rw [List.take_succ_eq_append_getElem hi,(List.getElem?_eq_some_iff.1 h).2]; simp
theorem take_le {ls:List (List UInt8)} (i:Nat):(ls.take i).flatten.length≤ls.flatten.length:=by
 conv=>rhs; rw [←List.take_append_drop i ls,List.flatten_append,List.length_append]
 omega
def Joined (x:AV) (σ:Store) (s:List UInt8):Prop:=lenL x=some (.int .i64 s.length)∧
 ∀c:UInt8,∃σ',appendTo σ 1 1 x [.int .u8 (c.toNat:Int)] 1=some (.sl σ.next 0 (s.length+1) 1 none,σ')∧look σ'.m σ.next=some (.own (u8cells (s ++ [c])))∧σ'.next=σ.next+1
theorem join_end {σ:Store} {b:Nat} {s:List UInt8} (h:look σ.m b=some (.own (u8cells s))) (hn:s.length < 1099511627776):Joined (.sl b 0 s.length 1 (some s.length)) σ s:=by
 refine ⟨rfl,fun c=>⟨σ.alloc (u8cells (s ++ [c])),?_,?_,rfl⟩⟩
 ·have hb:σ.cells b=some (u8cells s):=by unfold Store.cells Store.get; rw [h]
  have hr:rowOf σ 1 (.sl b 0 s.length 1 (some s.length))=some (u8cells s):=by
   simp only [rowOf,if_true,hb]
   rw [if_pos (by rw [u8_len]; omega),List.drop_zero,List.take_of_length_le (by rw [u8_len]; omega)]
  unfold appendTo
  simp only [lenOf,hr]
  rw [if_pos ⟨by decide,by decide,by unfold maxBytes; omega,rfl,rfl⟩,if_neg (by decide),if_pos trivial,u8_app]; rfl
 ·simp [Store.alloc,look]
theorem c_join {a:List UInt8} {rest:List (List UInt8)} (hr:0 < rest.length) (hr2:rest.length < 1099511627776) (h0:0 < (a ::rest).flatten.length) (hn:(a ::rest).flatten.length < 1099511627776) :
  ∃x σ',callS ipU gU (.fn 376 [] []) [.vsl ((a ::rest).map bsE) none, .nils] .empty=some (x,σ')∧Joined x σ' (a ::rest).flatten:=by
 generalize hls:a ::rest=ls at*
 have hlen:ls.length=rest.length+1:=by rw [←hls]; rfl
 have hml:(ls.map bsE).length=ls.length:=List.length_map _
 have e0:((ls.length:Int) == 0)=false:=by rw [beq_eq_false_iff_ne]; omega
 have e1:((ls.length:Int) == 1)=false:=by rw [beq_eq_false_iff_ne]; omega
 generalize hN:ls.flatten.length=N at*
 suffices h: ∃x σ',callS ipU gU (.fn 376 [] []) [.vsl (ls.map bsE) none, .nils] .empty=some (x,σ')∧(x= .sl 0 0 N 1 (some N)∧look σ'.m 0=some (.own (u8cells ls.flatten))) by
  obtain ⟨x,σ',h1,rfl,h2⟩:=h
  refine ⟨_,σ',h1,?_⟩
  rw [←hN]; exact join_end h2 (by omega)
 suffices h:Ex ipU gU [.code F376.body] (initFr ([] ++ [.vsl (ls.map bsE) none, .nils] ++ [])) .empty fun fr' σ1=>resAll fr' σ1 F376.res=some (.sl 0 0 N 1 (some N))∧look σ1.m 0=some (.own (u8cells ls.flatten)) by
  obtain ⟨σ',h1,h2⟩:=callSx (id:=376) (F:=F376) rfl h
  exact ⟨_,σ',h1,rfl,h2⟩
 simp only [H3Fb,EXA,seval,ex_loop,hml,e0,e1]
 have hel {i:Nat} {s:List UInt8} (h:ls[i]? =some s):idxOf 1 none (.vsl (ls.map bsE) none) (.int .i64 (i:Int))=some (.vptr [bsE s] 0):=
  idx_vsl (e:=bsE s) (sz:=1) (by rw [List.getElem?_map,h]; rfl) rfl
 refine ex_whileI (S:=Nat) (fun i=> [(0, .vsl (ls.map bsE) none),(1, .nils),(5, .int .i64 ((ls.take i).flatten.length:Int)),(42, .vsl (ls.map bsE) none),(43, .int .i64 ls.length),(44, .int .i64 (i:Int))]) (fun i=>ls.length - i)
  (fun i σ'=>σ'=⟨0, []⟩∧i≤ls.length) ?_ 0 _ ⟨rfl,Nat.zero_le _⟩
 ·rintro B i σ1 ⟨rfl,hi⟩ ih
  by_cases hl:i=ls.length
  ·subst hl
   have gt:decide ((ls.length:Int) < (ls.length:Int))=false:=decide_eq_false (by omega)
   have hfl:(ls.take ls.length).flatten.length=N:=by rw [List.take_length,hN]
   have mk:mkNZOf ⟨0, []⟩ (N:Int)=some (.sl 0 0 N 1 none,⟨1, [(0, .own (List.replicate N .undef))]⟩):=by
    have:N≤maxBytes:=by unfold maxBytes; omega
    simp [mkNZOf,Store.alloc,this]
   have sl3:sliceOf 1 (.sl 0 0 N 1 none) none (some (N:Int)) (some (N:Int))=some (.sl 0 0 N 1 (some N)):=by
    have: ¬N=0:=by omega
    simp [sliceOf,this]
    try omega
   have h0':ls[0]? =some a:=by rw [←hls]; rfl
   have e0:=hel h0'
   have ea:ls.take 1= [a]:=by rw [←hls]; rfl
   have la:a.length≤N:=by
    have:=take_le (ls:=ls) 1
    rw [ea,hN] at this; simpa using this
   obtain ⟨σ2,k1,k2,k3,k4⟩:=copy_mid (σ:=⟨1, [(0, .own (List.replicate N .undef))]⟩) (b:=0) (off:=0) (l:=N) (c:=some N) (e:=none) (s:=a) rfl la (by simp)
   have slR:sliceOf 1 (.vsl (ls.map bsE) none) (some 1) none none=some (.vsl ((ls.map bsE).drop 1) none):=by
    have e2:((ls.map bsE).all fun e=>e.cells.length == 1)=true:=by simp [AV.cells]
    have e3:(0:Int)≤1∧(1:Int)≤((ls.map bsE).length:Int)∧((ls.map bsE).length:Int)≤((ls.map bsE).length:Int):=by rw [hml]; omega
    simp only [sliceOf,bounds,Option.getD_some,Option.getD_none,if_pos e3,e2,or_true,if_true,Int.toNat_natCast]
    rw [List.take_of_length_le (Nat.le_refl _)]; rfl
   have hdl:((ls.map bsE).drop 1).length=rest.length:=by rw [List.length_drop,hml]; omega
   rw [show ((0:Nat):Int)=0 from rfl] at e0
   simp only [H3Fc,EXA,seval,readAt_some,ex_loop,gt,hfl,mk,sl3,e0,k1,slR,hdl]
   rw [show (a.length:Int)=((ls.take (0+1)).flatten.length:Int) by rw [ea]; simp]
   have cpn {σ:Store} {b off l:Nat} {c:Option Nat}:copyOf σ 1 (.sl b off l 1 c) .nils=some (.int .i64 0,σ):=rfl
   refine ex_whileI (S:=Nat) (fun i=> [(1, .nils),(8, .sl 0 0 N 1 (some N)),(9, .int .i64 ((ls.take (i+1)).flatten.length:Int)),(70, .vsl ((ls.map bsE).drop 1) none),(71, .int .i64 rest.length),(72, .int .i64 (i:Int))]) (fun i=>rest.length - i)
    (fun i σ'=>look σ'.m 0=some (.own (u8cells (ls.take (i+1)).flatten ++List.replicate (N - (ls.take (i+1)).flatten.length) .undef))∧i≤rest.length) ?_ 0 _ ?_
   ·rintro B2 i σ3 ⟨g1,hi2⟩ ih2
    by_cases hl2:i=rest.length
    ·subst hl2
     have gt2:decide ((rest.length:Int) < (rest.length:Int))=false:=decide_eq_false (by omega)
     rw [List.take_of_length_le (by omega),hN,Nat.sub_self,List.replicate_zero,List.append_nil] at g1
     simp only [H3Fa,EXA,seval,readAt_some,gt2,g1]
    ·obtain ⟨s,hs⟩ : ∃s,ls[i+1]? =some s:=⟨ls[i+1]'(by omega),List.getElem?_eq_getElem (by omega)⟩
     have e1:idxOf 1 none (.vsl ((ls.map bsE).drop 1) none) (.int .i64 (i:Int))=some (.vptr [bsE s] 0):=
      idx_vsl (e:=bsE s) (sz:=1) (by rw [List.getElem?_drop,Nat.add_comm,List.getElem?_map,hs]; rfl) rfl
     have hlt:decide ((i:Int) < (rest.length:Int))=true:=decide_eq_true (by omega)
     have ht:=sumL_take hs
     have hle:=take_le (ls:=ls) (i+1+1)
     rw [ht,List.length_append,hN] at hle
     have sl4:sliceOf 1 (.sl 0 0 N 1 (some N)) (some ((ls.take (i+1)).flatten.length:Int)) none none=some (.sl 0 (ls.take (i+1)).flatten.length (N - (ls.take (i+1)).flatten.length) 1 (some (N - (ls.take (i+1)).flatten.length))):=by
      have e3:(0:Int)≤((ls.take (i+1)).flatten.length:Int)∧((ls.take (i+1)).flatten.length:Int)≤(N:Int)∧(N:Int)≤(N:Int):=by omega
      simp only [sliceOf,bounds,Option.getD_some,Option.getD_none,if_pos e3,if_true,Int.toNat_natCast]
      rw [Nat.mul_one,Nat.zero_add]; rfl
     have w0:IntKind.wrap .i64 (((ls.take (i+1)).flatten.length:Int)+0)=((ls.take (i+1)).flatten.length:Int):=by rw [wrap_i (by omega) (by omega)]; omega
     obtain ⟨σ4,q1,q2,q3,q4⟩:=copy_mid (b:=0) (off:=(ls.take (i+1)).flatten.length) (l:=N - (ls.take (i+1)).flatten.length) (c:=some (N - (ls.take (i+1)).flatten.length)) (e:=none) (s:=s) g1 (by omega) (by rw [List.length_append,u8_len,List.length_replicate]; omega)
     have w2:IntKind.wrap .i64 (((ls.take (i+1)).flatten.length:Int)+(s.length:Int))=((ls.take (i+1+1)).flatten.length:Int):=by
      rw [ht,List.length_append,wrap_i (by omega) (by omega)]; omega
     have w3:IntKind.wrap .i64 ((i:Int)+1)=((i+1:Nat):Int):=by rw [wrap_i (by omega) (by omega)]; omega
     simp only [H3Fa,EXA,seval,readAt_some,hlt,e1,sl4,cpn,w0,q1,w2,w3]
     refine ih2 (i+1) _ _ (by omega) ⟨?_,by omega⟩ rfl
     rw [q3,List.take_left' (u8_len _),ht,u8_app,List.length_append]
     congr 3
     rw [List.drop_append,List.drop_eq_nil_of_le (by rw [u8_len]; omega),List.nil_append,List.drop_replicate,u8_len]
     congr 1; omega
   ·rw [k3,ea]
    simp
  ·obtain ⟨s,hs⟩ : ∃s,ls[i]? =some s:=⟨ls[i]'(by omega),List.getElem?_eq_getElem (by omega)⟩
   have e1:=hel hs
   have hlt:decide ((i:Int) < (ls.length:Int))=true:=decide_eq_true (by omega)
   have ht:=sumL_take hs
   have hle:=take_le (ls:=ls) (i+1)
   rw [ht,List.length_append] at hle
   have w1:IntKind.wrap .i64 (9223372036854775807 - ((ls.take i).flatten.length:Int))=9223372036854775807 - ((ls.take i).flatten.length:Int):=wrap_i (by omega) (by omega)
   have g1:decide ((s.length:Int) > 9223372036854775807 - ((ls.take i).flatten.length:Int))=false:=decide_eq_false (by omega)
   have w2:IntKind.wrap .i64 (((ls.take i).flatten.length:Int)+(s.length:Int))=((ls.take (i+1)).flatten.length:Int):=by
    rw [ht,List.length_append,wrap_i (by omega) (by omega)]; omega
   have w3:IntKind.wrap .i64 ((i:Int)+1)=((i+1:Nat):Int):=by rw [wrap_i (by omega) (by omega)]; omega
   simp only [H3Fc,EXA,seval,readAt_some,hlt,e1,bsE,u8_len,w1,g1,w2,w3]
   exact ih (i+1) _ _ (by omega) ⟨rfl,by omega⟩ rfl
theorem c_join1 {a:List UInt8} (hn:a.length < 1099511627776) :
  ∃x σ',callS ipU gU (.fn 376 [] []) [.vsl [bsE a] none, .nils] .empty=some (x,σ')∧Joined x σ' a:=by
 by_cases h0:a.length=0
 ·have:=List.eq_nil_of_length_eq_zero h0
  subst this
  refine ⟨.nils, .empty,callS_of (F:=F376) rfl ?_,rfl,fun c=>⟨⟨1, [(0, .own [.int .u8 (c.toNat:Int)])]⟩,?_,rfl,rfl⟩⟩
  ·have hap:appendTo ⟨0, []⟩ 1 1 .nils [] 0=some (.nils,⟨0, []⟩):=by
    simp [appendTo,lenOf,maxBytes]
   have hu:u8cells []= []:=rfl
   have hr:rowOf ⟨0, []⟩ 1 (.vsl [] none)=some []:=rfl
   simp only [H3Fb,EXA,seval,readAt_some,@idx_c,Option.bind_some,bsE,lenOf,hr,hu,hap]
   try rfl
  ·simp [appendTo,lenOf,maxBytes,AV.one,Store.alloc,Store.empty]
 ·have hap:appendTo ⟨0, []⟩ 1 1 .nils (u8cells a) a.length=some (.sl 0 0 a.length 1 none,⟨1, [(0, .own (u8cells a))]⟩):=by
   have hm:a.length≤maxBytes:=by unfold maxBytes; omega
   simp only [appendTo,lenOf]
   rw [if_pos ⟨by decide,by decide,by omega,by rw [u8_len]; omega,one_u8 a⟩,if_neg h0]; rfl
  refine ⟨.sl 0 0 a.length 1 none,⟨1, [(0, .own (u8cells a))]⟩,callS_of (F:=F376) rfl ?_,rfl,fun c=> ?_⟩
  ·simp only [H3Fb,EXA,seval,readAt_some,@idx_c,Option.bind_some,bsE,lenOf,row_u8,u8_len,hap]
   try rfl
  ·obtain ⟨σ',h1,h2,h3,h4⟩:=append_own (σ:=⟨1, [(0, .own (u8cells a))]⟩) (sz:=1) (bytes:=1) (n:=a.length) (k:=1) (ob:=some 0) (cells:=u8cells a) (new:= [.int .u8 (c.toNat:Int)]) ⟨rfl,by rw [u8_len]; omega,show 0 < 1 by decide,by omega⟩ (by decide) (by decide) (by unfold maxBytes; omega) rfl rfl (by decide)
   refine ⟨σ',h1,?_,h3⟩
   rw [u8_app]; exact h2.1
end Go.Ab
namespace Go.Ab
set_option maxHeartbeats 1000000
def H4Fa:=J @F341_7.eq_1 (J @F341_10.eq_1 (J @F341_11.eq_1 (J @F341_18.eq_1 (J @F341_34.eq_1 (J @F341_35.eq_1 (@F341.eq_1))))))
def H4Fc:=J @F341_7.eq_1 (J @F341_10.eq_1 (J @F341_11.eq_1 (J @F341_18.eq_1 (J @F341_34.eq_1 (@F341.eq_1)))))
set_option maxRecDepth 100000
theorem own_push {σ:Store} {b n:Nat} {cs:List AV} {c:UInt8} (h:look σ.m b=some (.own cs)) (hl:cs.length=n) (h0:0 < n) (hb:b < σ.next) (hm:n < 2199023255552) :
  ∃σ',appendTo σ 1 1 (.sl b 0 n 1 none) [.int .u8 (c.toNat:Int)] 1=some (.sl σ.next 0 (n+1) 1 none,σ')∧look σ'.m σ.next=some (.own (cs ++ [.int .u8 (c.toNat:Int)]))∧σ'.next=σ.next+1:=by
 obtain ⟨σ',h1,h2,h3,h4⟩:=append_own (σ:=σ) (sz:=1) (bytes:=1) (n:=n) (k:=1) (ob:=some b) (cells:=cs) (new:= [.int .u8 (c.toNat:Int)]) ⟨h,by omega,hb,h0⟩ (by decide) (by decide) (by unfold maxBytes; omega) rfl rfl (by decide)
 exact ⟨σ',h1,h2.1,h3⟩
theorem u8_snoc (s:List UInt8) (c:UInt8):u8cells s ++ [.int .u8 (c.toNat:Int)]=u8cells (s ++ [c]):=by rw [u8_app]; rfl
def padE (n:Nat):List UInt8:=List.replicate 8 0 ++be64 (8*n)
def padK (n:Nat):Nat:=padT n - n - 17
theorem pad_eq (s:List UInt8):pad512 s=s ++ [128] ++List.replicate (padK s.length) 0 ++padE s.length:=by
 have:=padT_ge s.length
 rw [pad512,padE,padK,show padT s.length - s.length - 9=padT s.length - s.length - 17+8 by omega,←List.replicate_append_replicate]
 simp only [List.append_assoc]
theorem padE_at {n j:Nat} (hn:n < 1099511627776) (h:j < 16):(padE n)[j]? =some (if 15 - j < 8 then UInt8.ofNat (8*n / 2 ^ (8*(15 - j))) else 0):=by
 rw [padE]
 by_cases h8:j < 8
 ·rw [List.getElem?_append_left (by simpa using h8),if_neg (by omega),List.getElem?_replicate,if_pos h8]
 ·rw [List.getElem?_append_right (by simp; omega),if_pos (by omega),List.length_replicate,be64,List.getElem?_reverse (by rw [toLE_len]; omega),toLE_len,toLE_div,List.getElem?_map,List.getElem?_range (by omega),show 8 - 1 - (j - 8)=15 - j by omega]
  rw [Option.map_some,show (256:Nat)=2 ^ 8 from rfl,←Nat.pow_mul]
theorem pad_mod {n k:Nat} (h:k≤padK n):(n+1+k) % 128=112↔k=padK n:=by
 have:=padT_ge n
 unfold padK at*; omega
theorem r_padded {ls:List (List UInt8)} {s:List UInt8} (hn:s.length < 1099511627776) (hj: ∃x σ',callS ipU gU (.fn 376 [] []) [.vsl (ls.map bsE) none, .nils] .empty=some (x,σ')∧Joined x σ' s) :
  cR 341 [.vsl (ls.map bsE) none, .int .i64 128, .int .i64 16]=some (bsE (pad512 s)):=by
 obtain ⟨x,σ0,hc,hl,ha⟩:=hj
 obtain ⟨σ1,a1,a2,a3⟩:=ha 128
 have w1:IntKind.wrap .u64 (s.length:Int)=(s.length:Int):=wrap_u (by omega) (by omega)
 have w2:IntKind.wrap .u64 ((s.length:Int)*8)=((8*s.length:Nat):Int):=by rw [wrap_u (by omega) (by omega)]; omega
 rw [show (((128:UInt8).toNat:Nat):Int)=128 from rfl] at a1
 have hc':callS ipU gU (.fn 376 [] []) [.vsl (ls.map bsE) none, .nils] ⟨0, []⟩=some (x,σ0):=hc
 refine cR_of (F:=F341) rfl ?_
 simp only [F341_7,F341_10,F341_18,F341_34,F341,EXA,seval,readAt_some,ex_loop,hc',hl,w1,w2,lenOf,rowOf,AV.cells,a1]
 have hpl:(padE s.length).length=16:=by simp [padE,be64_len]
 have i64z: ∀i:Int, -9223372036854775808≤i→i < 9223372036854775808→IntKind.wrap .i64 i=i:=fun i=>wrap_i
 have hT:=padT_ge s.length
 have hK:padK s.length=padT s.length - s.length - 17:=rfl
 have c16:IntKind.wrap .i64 112=112:=rfl
 have c15:IntKind.wrap .i64 15=15:=rfl
 rw [show ((s.length+1:Nat))=s.length+1+0 from rfl]
 refine ex_whileI (S:=Nat×Nat) (fun p=> [(1, .int .i64 128),(2, .int .i64 16),(7, .sl p.2 0 (s.length+1+p.1) 1 none),(8, .int .u64 ((8*s.length:Nat):Int))]) (fun p=>padK s.length - p.1)
  (fun p σ'=>look σ'.m p.2=some (.own (u8cells (s ++ [128] ++List.replicate p.1 0)))∧p.2 < σ'.next∧p.1≤padK s.length) ?_ (0,σ0.next) _ ⟨by rw [List.replicate_zero,List.append_nil]; exact a2,by rw [a3]; exact Nat.lt_succ_self _,Nat.zero_le _⟩
 rintro B ⟨k,b⟩ σ2 ⟨g1,g2,g3⟩ ih
 simp only at g1 g2 g3 ih
 have hrem:Int.tmod ((s.length+1+k:Nat):Int) 128=(((s.length+1+k) % 128:Nat):Int):=rfl
 have hrw:IntKind.wrap .i64 (((s.length+1+k) % 128:Nat):Int)=(((s.length+1+k) % 128:Nat):Int):=wrap_i (by omega) (by omega)
 have hmod:=pad_mod g3
 by_cases hk:k=padK s.length
 ·have hne:((((s.length+1+k) % 128:Nat):Int) == 112)=true:=by
   rw [beq_iff_eq]; have:=hmod.2 hk; omega
  simp only [H4Fc,EXA,seval,readAt_some,ex_loop,hrem,hrw,hne,bne,c16,c15]
  subst hk
  clear ih
  rw [show ((s.length+1+padK s.length:Nat))=s.length+1+padK s.length+0 from rfl]
  refine ex_whileI (S:=Nat×Nat) (fun p=> [(7, .sl p.2 0 (s.length+1+padK s.length+p.1) 1 none),(8, .int .u64 ((8*s.length:Nat):Int)),(9, .int .i64 (15 - (p.1:Int)))]) (fun p=>16 - p.1)
   (fun p σ'=>look σ'.m p.2=some (.own (u8cells (s ++ [128] ++List.replicate (padK s.length) 0 ++(padE s.length).take p.1)))∧p.2 < σ'.next∧p.1≤16) ?_ (0,b) _ ⟨by rw [List.take_zero,List.append_nil]; exact g1,g2,Nat.zero_le _⟩
  rintro B2 ⟨j,b2⟩ σ3 ⟨k1,k2,k3⟩ ih2
  simp only at k1 k2 k3 ih2
  by_cases hj:j=16
  ·subst hj
   have hge:decide ((15:Int) - ((16:Nat):Int)≥0)=false:=rfl
   rw [List.take_of_length_le (by omega),←pad_eq] at k1
   have hlen:=pad_len s
   have hR:rbE σ3 (.sl b2 0 (s.length+1+padK s.length+16) 1 none)=some (bsE (pad512 s)):=by
    have hcl:(u8cells (pad512 s)).length=s.length+1+padK s.length+16:=by rw [u8_len]; omega
    have:=rb_sl1 (d:=23) (off:=0) (n:=s.length+1+padK s.length+16) (c:=none) k1 (by omega) (closed_u8 _) (by
     have:=one_u8 (pad512 s)
     rw [List.all_eq_true] at this ⊢
     intro x hx; have:=this x hx
     cases x <;> simp_all [AV.one,AV.notAgg])
    rw [List.drop_zero,List.take_of_length_le (by omega)] at this
    unfold rbE
    rw [show rbDepth=23+1 from rfl,this,Option.map_some,er_vsl,er_u8]
   simp only [H4Fa,EXA,seval,readAt_some,hge,hR]
  ·have hge:decide ((15:Int) - (j:Int)≥0)=true:=decide_eq_true (by omega)
   have hat:=padE_at hn (show j < 16 by omega)
   have hcl:(u8cells (s ++ [128] ++List.replicate (padK s.length) 0 ++(padE s.length).take j)).length=s.length+1+padK s.length+j:=by
    rw [u8_len]; simp; omega
   have hw:IntKind.wrap .i64 (15 - (j:Int) - 1)=15 - ((j+1:Nat):Int):=by rw [wrap_i (by omega) (by omega)]; omega
   have htk: ∀c,(padE s.length)[j]? =some c→(padE s.length).take (j+1)=(padE s.length).take j ++ [c]:=by
    intro c hc
    have hi:=(List.getElem?_eq_some_iff.1 hc).1
    rw [List.take_succ_eq_append_getElem hi,(List.getElem?_eq_some_iff.1 hc).2]
   by_cases h8:15 - j < 8
   ·rw [if_pos h8] at hat
    have hl8:decide ((15:Int) - (j:Int) < 8)=true:=decide_eq_true (by omega)
    have hm8:IntKind.wrap .i64 (8*(15 - (j:Int)))=((8*(15 - j):Nat):Int):=by rw [wrap_i (by omega) (by omega)]; omega
    have hsh:shiftInt .shr .u64 ((8*s.length:Nat):Int) ((8*(15 - j):Nat):Int)=some (.int .u64 ((8*s.length / 2 ^ (8*(15 - j)):Nat):Int)):=by
     have hu:((8*s.length:Nat):Int)=((UInt64.ofNat (8*s.length)).toNat:Int):=by
      rw [UInt64.toNat_ofNat',Nat.mod_eq_of_lt (by omega)]
     have:=sh_r (UInt64.ofNat (8*s.length)) (8*(15 - j)) (by omega)
     rw [hu,this,U,UInt64.toNat_shiftRight,Nat.shiftRight_eq_div_pow,UInt64.toNat_ofNat',Nat.mod_eq_of_lt (show 8*s.length < 2 ^ 64 by omega),UInt64.toNat_ofNat',Nat.mod_eq_of_lt (show 8*(15 - j) < 2 ^ 64 by omega),Nat.mod_eq_of_lt (show 8*(15 - j) < 64 by omega)]
    have hcv:IntKind.wrap .u8 ((8*s.length / 2 ^ (8*(15 - j)):Nat):Int)=((UInt8.ofNat (8*s.length / 2 ^ (8*(15 - j)))).toNat:Int):=by
     rw [wrap8,UInt8.toNat_ofNat']
    obtain ⟨σ4,q1,q2,q3⟩:=own_push (c:=UInt8.ofNat (8*s.length / 2 ^ (8*(15 - j)))) k1 hcl (by omega) k2 (by omega)
    generalize 8*s.length / 2 ^ (8*(15 - j))=y at*
    simp only [H4Fa,EXA,seval,readAt_some,hge,hl8,hm8,hsh,hcv,lenOf,rowOf,AV.cells,q1,hw]
    refine ih2 (j+1,σ3.next) _ _ (by show 16 - (j+1) < 16 - j; omega) ⟨?_,by rw [q3]; exact Nat.lt_succ_self _,by show j+1≤16; omega⟩ rfl
    show look σ4.m σ3.next=_
    rw [q2,u8_snoc,htk _ hat,List.append_assoc]
   ·rw [if_neg h8] at hat
    have hl8:decide ((15:Int) - (j:Int) < 8)=false:=decide_eq_false (by omega)
    obtain ⟨σ4,q1,q2,q3⟩:=own_push (c:=0) k1 hcl (by omega) k2 (by omega)
    rw [show (((0:UInt8).toNat:Nat):Int)=0 from rfl] at q1
    simp only [H4Fa,EXA,seval,readAt_some,hge,hl8,lenOf,rowOf,AV.cells,q1,hw]
    refine ih2 (j+1,σ3.next) _ _ (by show 16 - (j+1) < 16 - j; omega) ⟨?_,by rw [q3]; exact Nat.lt_succ_self _,by show j+1≤16; omega⟩ rfl
    show look σ4.m σ3.next=_
    rw [q2,u8_snoc,htk _ hat,List.append_assoc]
 ·have hne:((((s.length+1+k) % 128:Nat):Int) == 112)=false:=by
   rw [beq_eq_false_iff_ne]; intro hc; exact hk (hmod.1 (by omega))
  have hcl:(u8cells (s ++ [128] ++List.replicate k 0)).length=s.length+1+k:=by rw [u8_len]; simp; omega
  obtain ⟨σ4,q1,q2,q3⟩:=own_push (c:=0) g1 hcl (by omega) g2 (by omega)
  rw [show (((0:UInt8).toNat:Nat):Int)=0 from rfl] at q1
  simp only [H4Fc,EXA,seval,readAt_some,hrem,hrw,hne,bne,c16,lenOf,rowOf,AV.cells,q1]
  refine ih (k+1,σ2.next) _ _ (by show padK s.length - (k+1) < padK s.length - k; omega) ⟨?_,by rw [q3]; exact Nat.lt_succ_self _,by show k+1≤padK s.length; omega⟩ rfl
  show look σ4.m σ2.next=_
  rw [q2,u8_snoc,List.append_assoc,List.replicate_succ']
end Go.Ab
namespace Go.Ab
set_option maxHeartbeats 1000000
def H5Fa:=J @F375_20.eq_1 (J @F375_30.eq_1 (J @F375_31.eq_1 (J @F375_37.eq_1 (J @F375_38.eq_1 (@F375.eq_1)))))
def H5Fb:=J @F375_20.eq_1 (J @F375_30.eq_1 (J @F375_37.eq_1 (@F375.eq_1)))
def H5Fc:= @F392.eq_1
set_option maxRecDepth 100000
def belowF (p whole:UInt64) (cube:Bool) (low:UInt64):Bool:=
 let h:=mulHi low low; let s0:=low*low
 let h2:=mulHi low (2*whole); let l2:=low*(2*whole)
 let s1:=h+l2; let c:=addC h l2 0
 let s2:=whole*whole+h2+c
 if cube=true then
  let a1:=mulHi s0 low; let b1:=mulHi s1 low; let b0:=s1*low
  let c1:=mulHi s0 whole; let c0:=s0*whole
  let d1:=mulHi s2 low; let d0:=s2*low
  let e1:=mulHi s1 whole; let e0:=s1*whole
  let w1:=a1+b0; let k1:=addC a1 b0 0
  let k2:=addC w1 c0 0
  let w2:=b1+c1+k1; let k3:=addC b1 c1 k1
  let w2':=w2+d0+k2; let k4:=addC w2 d0 k2
  let k5:=addC w2' e0 0
  decide ((s2*whole+d1+e1+k3+k4+k5).toNat < p.toNat)
 else decide (s2.toNat < p.toNat)
theorem r_below (p whole low:UInt64) (cube:Bool):cR 392 [.agg [U p,U whole, .bool cube],U low]=some (.bool (belowF p whole cube low)):=by
 have m1:=r_mul64 low low
 have m2:=r_mul64 low (2*whole)
 have prm_two:(2:Int)*(whole.toNat:Int)=((2:UInt64).toNat:Int)*(whole.toNat:Int):=rfl
 have w2:=w_mul 2 whole
 rw [←prm_two] at w2
 have z0:((0:UInt64).toNat:Int)=0:=rfl
 have ad0 (x y:UInt64):extOf .add64 [U x,U y, .int .u64 0]=some (.tup [U (x+y),U (addC x y 0)]):=by
  have:=x_add64 x y 0 (by decide)
  rw [UInt64.add_zero] at this
  exact this
 refine cR_of (F:=F392) rfl ?_
 cases cube with
 | false=>
  simp only [U] at m1 m2 ad0 ⊢
  simp only [H5Fc,EXA,seval,readAt_some,w2,m1,m2,ad0,w_mul,w_add,belowF]
  simp only [Int.ofNat_lt,if_false,Bool.false_eq_true]
 | true=>
  simp only [belowF,if_true]
  have n1:=r_mul64 (low*low) low
  have n2:=r_mul64 (mulHi low low+low*(2*whole)) low
  have n3:=r_mul64 (low*low) whole
  have n4:=r_mul64 (whole*whole+mulHi low (2*whole)+addC (mulHi low low) (low*(2*whole)) 0) low
  have n5:=r_mul64 (mulHi low low+low*(2*whole)) whole
  generalize hs2:whole*whole+mulHi low (2*whole)+addC (mulHi low low) (low*(2*whole)) 0=s2 at*
  generalize hs1:mulHi low low+low*(2*whole)=s1 at*
  have k1:=addC_le (mulHi (low*low) low) (s1*low) 0 (by decide)
  have k2:=addC_le (mulHi (low*low) low+s1*low) (low*low*whole) 0 (by decide)
  have x3:=x_add64 (mulHi s1 low) (mulHi (low*low) whole) _ k1
  have x4:=x_add64 (mulHi s1 low+mulHi (low*low) whole+addC (mulHi (low*low) low) (s1*low) 0) (s2*low) _ k2
  simp only [U] at m1 m2 n1 n2 n3 n4 n5 x3 x4 ad0 ⊢
  simp only [H5Fc,EXA,seval,readAt_some,w2,m1,m2,n1,n2,n3,n4,n5,hs1,hs2,ad0,x3,x4,w_mul,w_add,Int.ofNat_lt]
  try rfl
def loopB (p whole:UInt64) (cube:Bool):Nat→UInt64→UInt64
 | 0,low=>low
 | n+1,low=>loopB p whole cube n (if decide (low.toNat < (low+UInt64.ofNat (2 ^ n)).toNat) && belowF p whole cube (low+UInt64.ofNat (2 ^ n)) then low+UInt64.ofNat (2 ^ n) else low)
def bitN:Nat→UInt64
 | 0=>0
 | n+1=>UInt64.ofNat (2 ^ n)
theorem bitN_half {n:Nat} (h:n < 64):shiftInt .shr .u64 ((bitN (n+1)).toNat:Int) 1=some (U (bitN n)):=by
 have h1:=sh_r (bitN (n+1)) 1 (by decide)
 rw [show ((1:Nat):Int)=1 from rfl] at h1
 rw [h1]
 congr 2
 cases n with
 | zero=>rfl
 | succ m=>
  apply UInt64.toNat_inj.1
  show (UInt64.ofNat (2 ^ (m+1)) >>> UInt64.ofNat 1).toNat=(UInt64.ofNat (2 ^ m)).toNat
  rw [UInt64.toNat_shiftRight,show (UInt64.ofNat 1).toNat % 64=1 from rfl,Nat.shiftRight_eq_div_pow,UInt64.toNat_ofNat',UInt64.toNat_ofNat']
  have l1:2 ^ (m+1) < 2 ^ 64:=Nat.pow_lt_pow_right (by decide) (by omega)
  have l2:2 ^ m < 2 ^ 64:=Nat.pow_lt_pow_right (by decide) (by omega)
  rw [Nat.mod_eq_of_lt l1,Nat.mod_eq_of_lt l2,Nat.pow_succ]; omega
theorem bitN_pos {n:Nat} (h:n < 64):decide (((bitN (n+1)).toNat:Int) > 0)=true:=by
 have l2:2 ^ n < 2 ^ 64:=Nat.pow_lt_pow_right (by decide) h
 have:=Nat.two_pow_pos n
 apply decide_eq_true
 show ((UInt64.ofNat (2 ^ n)).toNat:Int) > 0
 rw [UInt64.toNat_ofNat',Nat.mod_eq_of_lt l2]; omega
structure PreR (p:UInt64) (cube:Bool) (whole y:UInt64):Prop where
 pre: ∃fp x0 x1 g d e,floOf (U p)=some fp∧cR 390 [fp]=some x0∧cR 391 [fp]=some x1∧fp.closed=true∧fp.er=fp∧intOf .u64 (if cube=true then x1 else x0)=some (U whole)∧floOf (U whole)=some g∧
  bin .sub (if cube=true then x1 else x0) g=some d∧bin .mul d (.lit (.float .f64 4814348001659060224))=some e∧intOf .u64 e=some (U y)
theorem w_sub (x y:UInt64):IntKind.wrap .u64 ((x.toNat:Int) - (y.toNat:Int))=((x - y).toNat:Int):=by
 have e: ∀i:Int,IntKind.wrap .u64 i=i % 18446744073709551616:=by
  intro i
  simp only [IntKind.wrap,IntKind.bits,IntKind.signed]
  simp
 have hx:=u_lt x; have hy:=u_lt y
 rw [e,UInt64.toNat_sub]
 omega
theorem bits_loop {p whole low0:UInt64} {cube:Bool} {σ:Store} (h:look σ.m 0=some (.own [.int .u64 p.toNat, .int .u64 whole.toNat, .bool cube])) :
  Ex ipU gU [.code F375_31, .inLoop [2,6,7] F375_31, .inBlock 0, .code F375_38] [(2, .ptr 0 0),(6,U low0),(7, .int .u64 524288)] σ fun fr' σ1=>rbE σ1 ((look fr' 4).getD .undef)=some (.int .u64 ((loopB p whole cube 20 low0).toNat:Int)):=by
 have h20:(524288:Int)=((bitN 20).toNat:Int):=by decide
 rw [h20]
 refine ex_whileI (S:=Nat×UInt64) (fun q=> [(2, .ptr 0 0),(6,U q.2),(7,U (bitN q.1))]) (fun q=>q.1)
  (fun q σ'=>look σ'.m 0=some (.own [.int .u64 p.toNat, .int .u64 whole.toNat, .bool cube])∧q.1≤20∧loopB p whole cube q.1 q.2=loopB p whole cube 20 low0) ?_ (20,low0) _ ⟨h,Nat.le_refl _,rfl⟩
 rintro B ⟨n,low⟩ σ2 ⟨g1,g2,g3⟩ ih
 simp only at g1 g2 g3 ih
 cases n with
 | zero=>
  have hz:decide (((bitN 0).toNat:Int) > 0)=false:=rfl
  rw [←g3]
  simp only [H5Fa,EXA,seval,readAt_some,U,hz,loopB]
 | succ m=>
  have hp:=bitN_pos (n:=m) (by omega)
  have hh:=bitN_half (n:=m) (by omega)
  have hb:=r_below p whole (low+bitN (m+1)) cube
  have hg:decide (((low+bitN (m+1)).toNat:Int) > (low.toNat:Int))=decide (low.toNat < (low+bitN (m+1)).toNat):=decide_eq_decide.2 (by omega)
  have hL:loopB p whole cube (m+1) low=loopB p whole cube m (if decide (low.toNat < (low+bitN (m+1)).toNat) && belowF p whole cube (low+bitN (m+1)) then low+bitN (m+1) else low):=rfl
  rw [hL] at g3
  simp only [U] at hb hh
  generalize bitN (m+1)=bt at*
  by_cases c1:low.toNat < (low+bt).toNat
  ·rw [decide_eq_true c1] at hg g3
   by_cases c2:belowF p whole cube (low+bt)=true
   ·rw [c2] at hb g3
    simp only [H5Fa,EXA,seval,readAt_some,U,hp,w_add,hg,g1,hb,hh]
    exact ih (m,low+bt) _ _ (Nat.lt_succ_self m) ⟨g1,by show m≤20; omega,g3⟩ rfl
   ·rw [Bool.not_eq_true] at c2
    rw [c2] at hb g3
    simp only [H5Fa,EXA,seval,readAt_some,U,hp,w_add,hg,g1,hb,hh]
    exact ih (m,low) _ _ (Nat.lt_succ_self m) ⟨g1,by show m≤20; omega,g3⟩ rfl
  ·rw [decide_eq_false c1] at hg g3
   simp only [H5Fa,EXA,seval,readAt_some,U,hp,w_add,hg,g1,hh]
   exact ih (m,low) _ _ (Nat.lt_succ_self m) ⟨g1,by show m≤20; omega,g3⟩ rfl
theorem r_bits {p whole y:UInt64} {cube all:Bool} (h:PreR p cube whole y):cR 375 [.agg [U p, .int .u64 0, .bool cube], .bool all]=some (U (if all=true then loopB p whole cube 20 (y <<< 18 - 262144) else y <<< 18)):=by
 obtain ⟨fp,x0,x1,g,d,e,e1,e2,e3,e4,e5,e6,e7,e8,e9,e10⟩:=h
 have s18:shiftInt .shl .u64 (y.toNat:Int) 18=some (U (y <<< 18)):=sh_l y 18 (by decide)
 have hsub:IntKind.wrap .u64 (((y <<< 18).toNat:Int) - 262144)=(((y <<< 18) - 262144).toNat:Int):=w_sub (y <<< 18) 262144
 refine cR_of (F:=F375) rfl ?_
 cases cube with
 | false=>
  simp only [if_false,Bool.false_eq_true] at e6 e8
  simp only [U] at e1 e6 e7 e10 s18 ⊢
  cases all with
  | false=>simp only [H5Fb,EXA,seval,readAt_some,e1,e2,e4,e5,e6,e7,e8,e9,e10,s18]
  | true=>
   simp only [H5Fb,EXA,seval,readAt_some,ex_loop,e1,e2,e4,e5,e6,e7,e8,e9,e10,s18,hsub]
   exact bits_loop rfl
 | true=>
  simp only [if_true] at e6 e8
  simp only [U] at e1 e6 e7 e10 s18 ⊢
  cases all with
  | false=>simp only [H5Fb,EXA,seval,readAt_some,e1,e2,e3,e4,e5,e6,e7,e8,e9,e10,s18]
  | true=>
   simp only [H5Fb,EXA,seval,readAt_some,ex_loop,e1,e2,e3,e4,e5,e6,e7,e8,e9,e10,s18,hsub]
   exact bits_loop rfl
end Go.Ab
namespace Go.Ab
set_option maxHeartbeats 1000000
set_option maxRecDepth 100000
noncomputable def runR (f:Nat) (x:AV):Option AV:=(scall ipU (run ipU gU 200) (.fn f [] []) [x] .empty).bind (fun x=>rbE x.2 x.1)
noncomputable def preF (p:UInt64) (cube:Bool):Option (UInt64×UInt64):=
 (floOf (U p)).bind fun fp=>(runR 390 fp).bind fun x0=>(runR 391 fp).bind fun x1=>
 (intOf .u64 (if cube=true then x1 else x0)).bind fun w=>(floOf w).bind fun g=>(bin .sub (if cube=true then x1 else x0) g).bind fun d=>
 (bin .mul d (.lit (.float .f64 4814348001659060224))).bind fun e=>(intOf .u64 e).bind fun y=>
 match w,y with
 | .int .u64 wi, .int .u64 yi=>if 0≤wi∧wi < 18446744073709551616∧0≤yi∧yi < 18446744073709551616 then some (UInt64.ofNat wi.toNat,UInt64.ofNat yi.toNat) else none
 | _,_=>none
theorem pre_sound {p:UInt64} {cube:Bool} {w y:UInt64} (h:preF p cube=some (w,y)):PreR p cube w y:=by
 simp only [preF,Option.bind_eq_some_iff] at h
 obtain ⟨fp,e1,x0,e2,x1,e3,wv,e4,g,e5,d,e6,e,e7,yv,e8,h⟩:=h
 split at h
 ·rename_i wi yi
  split at h
  ·rename_i hr
   simp only [Option.some.injEq,Prod.mk.injEq] at h
   obtain ⟨rfl,rfl⟩:=h
   obtain ⟨h0,h1,h2,h3⟩:=hr
   have ew:AV.int .u64 wi=U (UInt64.ofNat wi.toNat):=by
    unfold U; rw [UInt64.toNat_ofNat',Nat.mod_eq_of_lt (show wi.toNat < 2 ^ 64 by omega),Int.toNat_of_nonneg h0]
   have ey:AV.int .u64 yi=U (UInt64.ofNat yi.toNat):=by
    unfold U; rw [UInt64.toNat_ofNat',Nat.mod_eq_of_lt (show yi.toNat < 2 ^ 64 by omega),Int.toNat_of_nonneg h2]
   rw [ew] at e4 e5
   rw [ey] at e8
   have hf:fp= .lit (.float .f64 (FloatKind.f64.nearest (p.toNat:Int))):=by
    unfold U floOf at e1; exact (Option.some.inj e1).symm
   exact ⟨⟨fp,x0,x1,g,d,e,e1,cR_closed 200 e2,cR_closed 200 e3,by rw [hf]; rfl,by rw [hf,er_lit],e4,e5,e6,e7,e8⟩⟩
  ·cases h
 ·cases h
def primesL:List UInt64:= [2,3,5,7,11,13,17,19,23,29,31,37,41,43,47,53,59,61,67,71,73,79,83,89,97,101,103,107,109,113,127,131,137,139,149,151,157,163,167,173,179,181,191,193,197,199,211,223,227,229,233,239,241,251,257,263,269,271,277,281,283,293,307,311,313,317,331,337,347,349,353,359,367,373,379,383,389,397,401,409]
noncomputable def rootF (cube all:Bool) (p:UInt64):Option UInt64:=(preF p cube).map fun (q:UInt64×UInt64)=>if all=true then loopB p q.1 cube 20 (q.2 <<< 18 - 262144) else q.2 <<< 18
theorem root_sound {p r:UInt64} {cube all:Bool} (h:rootF cube all p=some r):cR 375 [.agg [U p, .int .u64 0, .bool cube], .bool all]=some (U r):=by
 unfold rootF at h
 rw [Option.map_eq_some_iff] at h
 obtain ⟨⟨w,y⟩,h1,rfl⟩:=h
 exact r_bits (pre_sound h1)
theorem tab8:(primesL.take 8).map (rootF false true)=HH.list.map some:=by kernel_rfl
theorem tab80:primesL.map (rootF true true)=KK.map some:=by kernel_rfl
end Go.Ab
namespace Go.Ab
set_option maxHeartbeats 1000000
def H7Fa:=J @F340_3.eq_1 (J @F340_15.eq_1 (J @F340_16.eq_1 (@F340.eq_1)))
def H7Fc:=J @F374_7.eq_1 (J @F374_17.eq_1 (J @F374_23.eq_1 (J @F374_24.eq_1 (J @F374_37.eq_1 (J @F374_38.eq_1 (@F374.eq_1))))))
def H7Fd:=J @F374_7.eq_1 (J @F374_17.eq_1 (J @F374_23.eq_1 (J @F374_37.eq_1 (J @F374_38.eq_1 (@F374.eq_1)))))
set_option maxRecDepth 100000
def markF (p:Nat):Nat→Nat→Nat→Option Nat
 | 0,_,_=>none
 | f+1,q,m=>if q < 410 then markF p f (q+p) (m ||| 2 ^ q) else some m
def sieveF (n:Nat):Nat→Nat→Nat→List Nat→Option (List Nat)
 | 0,_,_,_=>none
 | f+1,p,m,out=>if out.length < n then (if p < 410 then (if m.testBit p then sieveF n f (p+1) m out else (markF p 411 (p*p) m).bind fun m'=>sieveF n f (p+1) m' (out ++ [p])) else none) else some out
def noC (m:Nat):List AV:=(List.range 410).map fun i=> .bool (m.testBit i)
theorem noC_len (m:Nat):(noC m).length=410:=by simp [noC]
theorem noC_at {m p:Nat} (h:p < 410):(noC m)[p]? =some (.bool (m.testBit p)):=by
 rw [noC,List.getElem?_map,List.getElem?_range h]; rfl
theorem noC_put {m q:Nat} (h:q < 410):(noC m).take q ++ [.bool true] ++(noC m).drop (q+1)=noC (m ||| 2 ^ q):=by
 have e:(noC m).set q (.bool true)=noC (m ||| 2 ^ q):=by
  apply List.ext_getElem?
  intro k
  rw [List.getElem?_set]
  by_cases hk:k < 410
  ·rw [noC_at hk,noC_at hk,Nat.testBit_or,Nat.testBit_two_pow]
   by_cases hq:q=k
   ·subst hq; simp [noC_len,h]
   ·simp [hq]
  ·have e1: ∀m,(noC m)[k]? =none:=fun m=>List.getElem?_eq_none (by rw [noC_len]; omega)
   rw [e1,e1]
   split
   ·rename_i hq; rw [if_neg (by rw [noC_len]; omega)]
   ·rfl
 rw [←e,List.set_eq_take_append_cons_drop,if_pos (by rw [noC_len]; exact h),List.append_assoc]; rfl
def numC (l:List Nat):List AV:=l.map fun (p:Nat)=> .int .u64 (p:Int)
def PrimesP (x:AV) (σ:Store) (out:List Nat):Prop:=∃ob,x=slOf 1 ob out.length∧OwnSl σ 1 ob out.length (numC out)
theorem c_primes {n f:Nat} {out:List Nat} (h:sieveF n f 2 0 []=some out) (hn:n < 1000): ∃x σ',callS ipU gU (.fn 374 [] []) [.int .i64 (n:Int)] .empty=some (x,σ')∧PrimesP x σ' out:=by
 suffices hs:Ex ipU gU [.code F374.body] (initFr ([] ++ [.int .i64 (n:Int)] ++ [])) .empty fun fr' σ1=>∃r,resAll fr' σ1 F374.res=some r∧PrimesP r σ1 out by
  obtain ⟨k,fr',σ1,h1,r,h2,h3⟩:=hs
  exact ⟨r,σ1,callS_of (id:=374) (F:=F374) rfl ⟨k,fr',σ1,h1,h2,rfl⟩,h3⟩
 simp only [F374_7,F374_17,F374_23,F374_24,F374_37,F374,EXA,seval,ex_loop]
 refine ex_whileI (S:=Nat×Nat×Nat×List Nat×Option Nat) (fun q=> [(0, .int .i64 (n:Int)),(3, .ptr 0 0),(4,slOf 1 q.2.2.2.2 q.2.2.2.1.length),(5, .int .i64 (q.2.1:Int))]) (fun q=>q.1)
  (fun q σ'=>look σ'.m 0=some (.own (noC q.2.2.1))∧OwnSl σ' 1 q.2.2.2.2 q.2.2.2.1.length (numC q.2.2.2.1)∧q.2.2.2.2≠some 0∧1≤σ'.next∧sieveF n q.1 q.2.1 q.2.2.1 q.2.2.2.1=some out) ?_ (f,2,0, [],none) _ ⟨by kernel_rfl,⟨rfl,rfl⟩,by simp,Nat.le_refl _,h⟩
 rintro B ⟨f,p,m,l,ob⟩ σ1 ⟨g0,g1,g2,g3,g4⟩ ih
 simp only at g0 g1 g2 g3 g4 ih
 cases f with
 | zero=>simp [sieveF] at g4
 | succ f=>
  have hlen:=lenL_slOf g1
  rw [sieveF] at g4
  by_cases hl:l.length < n
  ·rw [if_pos hl] at g4
   by_cases hp:p < 410
   ·rw [if_pos hp] at g4
    have hlt:decide ((l.length:Int) < (n:Int))=true:=decide_eq_true (by omega)
    have hx:=idx_n (k:= .i64) (n:=410) (b:=0) (j:=p) hp
    have hat:=noC_at (m:=m) hp
    have w1:IntKind.wrap .i64 ((p:Int)+1)=((p+1:Nat):Int):=by rw [wrap_i (by omega) (by omega)]; omega
    cases hb:m.testBit p with
    | true=>
     rw [hb,if_pos rfl] at g4
     rw [hb] at hat
     simp only [H7Fd,EXA,seval,readAt_some,hlen,hlt,hx,g0,hat,w1]
     exact ih (f,p+1,m,l,ob) _ _ (Nat.lt_succ_self f) ⟨g0,g1,g2,g3,g4⟩ rfl
    | false=>
     rw [hb,if_neg (by decide),Option.bind_eq_some_iff] at g4
     obtain ⟨m',hm,g5⟩:=g4
     rw [hb] at hat
     have w2:IntKind.wrap .u64 (p:Int)=(p:Int):=wrap_u (by omega) (by omega)
     have hpp:p*p < 410*410:=Nat.mul_lt_mul'' hp hp
     have w3:IntKind.wrap .i64 ((p:Int)*(p:Int))=((p*p:Nat):Int):=by rw [wrap_i (by rw [←Int.natCast_mul]; omega) (by rw [←Int.natCast_mul]; omega),Int.natCast_mul]
     obtain ⟨σ2,a1,a2,a3,a4⟩:=append_own (bytes:=8) (k:=1) (new:= [.int .u64 (p:Int)]) g1 (by decide) (by decide) (by unfold maxBytes; omega) rfl rfl (by decide)
     have a0:look σ2.m 0=some (.own (noC m)):=by
      have:=a4 0 (by omega) g2
      unfold Store.get at this; rw [this]; exact g0
     simp only [H7Fd,EXA,seval,readAt_some,ex_loop,hlen,hlt,hx,g0,hat,w2,w3,lenOf,rowOf,AV.cells,a1]
     refine ex_whileI (S:=Nat×Nat×Nat) (fun q=> [(0, .int .i64 (n:Int)),(3, .ptr 0 0),(4,slOf 1 (some σ1.next) (l.length+1)),(5, .int .i64 (p:Int)),(6, .int .i64 (q.2.1:Int))]) (fun q=>q.1)
      (fun q σ'=>look σ'.m 0=some (.own (noC q.2.2))∧OwnSl σ' 1 (some σ1.next) (l.length+1) (numC (l ++ [p]))∧1≤σ'.next∧q.2.1 < 1000000∧markF p q.1 q.2.1 q.2.2=some m') ?_ (411,p*p,m) _ ⟨a0,by rw [numC,List.map_append]; exact a2,by omega,by show p*p < 1000000; omega,hm⟩
     rintro B2 ⟨g,q,mm⟩ σ3 ⟨k0,k1,k2,k3,k4⟩ ih2
     simp only at k0 k1 k2 k3 k4 ih2
     cases g with
     | zero=>simp [markF] at k4
     | succ g=>
      rw [markF] at k4
      by_cases hq:q < 410
      ·rw [if_pos hq] at k4
       have hlq:decide ((q:Int) < 410)=true:=decide_eq_true (by omega)
       have hxq:=idx_n (k:= .i64) (n:=410) (b:=0) (j:=q) hq
       have hput:=noC_put (m:=mm) hq
       have w4:IntKind.wrap .i64 ((q:Int)+(p:Int))=((q+p:Nat):Int):=by rw [wrap_i (by omega) (by omega)]; omega
       have hnl:=noC_len mm
       have hq9:q≤409:=by omega
       simp only [H7Fc,EXA,seval,readAt_some,hlq,hxq,k0,hnl,hq9,hput,w4]
       refine ih2 (g,q+p,mm ||| 2 ^ q) _ _ (Nat.lt_succ_self g) ⟨by simp [look],?_,k2,by show q+p < 1000000; omega,k4⟩ rfl
       obtain ⟨o1,o2,o3,o4⟩:=k1
       refine ⟨?_,o2,o3,o4⟩
       unfold Store.get at o1 ⊢
       have: ¬0=σ1.next:=by omega
       simpa [look,this] using o1
      ·rw [if_neg hq] at k4
       have hmm:mm=m':=Option.some.inj k4
       subst hmm
       have hlq:decide ((q:Int) < 410)=false:=decide_eq_false (by omega)
       simp only [H7Fc,EXA,seval,readAt_some,hlq,w1]
       refine ih (f,p+1,mm,l ++ [p],some σ1.next) _ _ (Nat.lt_succ_self f) ⟨k0,?_,by simp; omega,k2,g5⟩ (by simp only [List.length_append]; rfl)
       rw [List.length_append]; exact k1
   ·rw [if_neg hp] at g4; cases g4
  ·rw [if_neg hl] at g4
   have hlo:l=out:=Option.some.inj g4
   subst hlo
   have hlt:decide ((l.length:Int) < (n:Int))=false:=decide_eq_false (by omega)
   simp only [H7Fd,EXA,seval,readAt_some,hlen,hlt]
   exact ⟨_,rfl,ob,rfl,g1⟩
theorem sieve80:sieveF 80 500 2 0 []=some (primesL.map UInt64.toNat):=by decide+kernel
theorem sieve8:sieveF 8 500 2 0 []=some ((primesL.take 8).map UInt64.toNat):=by decide+kernel
theorem er_U: ∀l:List UInt64,erL (l.map U)=l.map U
 | []=>erL_nil
 | x ::l=>by rw [List.map_cons,erL_cons,er_U l,er_int]
theorem r_stable {n f:Nat} {ps rs:List UInt64} {cube all:Bool} (h:sieveF n f 2 0 []=some (ps.map UInt64.toNat)) (hn:n < 1000) (hr:ps.map (rootF cube all)=rs.map some) (h0:0 < ps.length) (hps:ps.length < 1000):cR 340 [.int .i64 (n:Int), .bool cube, .bool all]=some (.vsl (rs.map U) none):=by
 obtain ⟨x,σ0,hc,ob,rfl,ho⟩:=c_primes h hn
 have hc':callS ipU gU (.fn 374 [] []) [.int .i64 (n:Int)] ⟨0, []⟩=some (slOf 1 ob (ps.map UInt64.toNat).length,σ0):=hc
 have hlen:=lenL_slOf ho
 have hpl:(ps.map UInt64.toNat).length=ps.length:=List.length_map _
 have hrl:rs.length=ps.length:=by
  have:=congrArg List.length hr; simpa using this.symm
 have hroot {i:Nat} {p:UInt64} (hp:ps[i]? =some p): ∃r,rs[i]? =some r∧rootF cube all p=some r:=by
  have h1:(ps.map (rootF cube all))[i]? =(rs.map some)[i]? :=by rw [hr]
  rw [List.getElem?_map,List.getElem?_map,hp] at h1
  cases hri:rs[i]? with
  | none=>rw [hri] at h1; cases h1
  | some r=>rw [hri] at h1; exact ⟨r,rfl,Option.some.inj h1⟩
 have hnum:numC (ps.map UInt64.toNat)=ps.map U:=by rw [numC,List.map_map]; rfl
 rw [hnum,hpl] at ho
 rw [hpl] at hlen hc'
 refine cR_of (F:=F340) rfl ?_
 simp only [F340_3,F340_15,F340,EXA,seval,ex_loop,hc',hlen]
 refine ex_whileI (S:=Nat) (fun i=> [(1, .bool cube),(2, .bool all),(7,slOf 1 ob ps.length),(12,slOf 1 ob ps.length),(13, .int .i64 ps.length),(14, .int .i64 (i:Int))]) (fun i=>ps.length - i)
  (fun i σ'=>OwnSl σ' 1 ob ps.length ((rs.take i).map U ++(ps.drop i).map U)∧i≤ps.length) ?_ 0 _ ⟨ho,Nat.zero_le _⟩
 rintro B i σ1 ⟨g1,g2⟩ ih
 obtain ⟨b,rfl⟩ : ∃b,ob=some b:=by
  cases ob with
  | none=>have:=g1.1; omega
  | some b=>exact ⟨b,rfl⟩
 obtain ⟨o1,o2,o3,o4⟩:=g1
 have o1':look σ1.m b=some (.own ((rs.take i).map U ++(ps.drop i).map U)):=o1
 by_cases hi:i=ps.length
 ·subst hi
  have gt:decide ((ps.length:Int) < (ps.length:Int))=false:=decide_eq_false (by omega)
  rw [List.take_of_length_le (by omega),List.drop_length,List.map_nil,List.append_nil] at o1'
  have hR:rbE σ1 (slOf 1 (some b) ps.length)=some (.vsl (rs.map U) none):=by
   have hcl:closedL (rs.map U)=true:=closedL_all.2 (by intro x hx; obtain ⟨y,_,rfl⟩:=List.mem_map.1 hx; rfl)
   have hna:(rs.map U).all AV.notAgg=true:=by simp [AV.notAgg]
   have he:=er_U rs
   have:=rb_sl1 (d:=23) (off:=0) (n:=ps.length) (c:=none) o1' (by rw [List.length_map]; omega) hcl hna
   rw [List.drop_zero,List.take_of_length_le (by rw [List.length_map]; omega)] at this
   unfold rbE slOf
   rw [show rbDepth=23+1 from rfl]
   simp only
   rw [this,Option.map_some,er_vsl,he]
  simp only [H7Fa,EXA,seval,readAt_some,gt,hR]
 ·obtain ⟨p,hp⟩ : ∃p,ps[i]? =some p:=⟨ps[i]'(by omega),List.getElem?_eq_getElem (by omega)⟩
  obtain ⟨r,hri,hrf⟩:=hroot hp
  have hroot:=root_sound hrf
  have hlt:decide ((i:Int) < (ps.length:Int))=true:=decide_eq_true (by omega)
  have hidx:idxOf 1 none (slOf 1 (some b) ps.length) (.int .i64 (i:Int))=some (.ptr b i):=by
   have:i < ps.length:=by omega
   simp [idxOf,slOf,this]
  have hlt2:((rs.take i).map U).length=i:=by rw [List.length_map,List.length_take]; omega
  have hat:((rs.take i).map U ++(ps.drop i).map U)[i]? =some (U p):=by
   rw [List.getElem?_append_right (by omega),hlt2,Nat.sub_self,List.getElem?_map,List.getElem?_drop,Nat.add_zero,hp]; rfl
  have hput:((rs.take i).map U ++(ps.drop i).map U).take i ++ [U r] ++((rs.take i).map U ++(ps.drop i).map U).drop (i+1)=(rs.take (i+1)).map U ++(ps.drop (i+1)).map U:=by
   have hir:=(List.getElem?_eq_some_iff.1 hri).1
   rw [List.take_left' hlt2,List.take_succ_eq_append_getElem hir,(List.getElem?_eq_some_iff.1 hri).2,List.map_append,List.drop_append,List.drop_eq_nil_of_le (by omega),List.nil_append,hlt2,show i+1 - i=1 by omega,←List.map_drop,List.drop_drop]; rfl
  have hle:i+1≤((rs.take i).map U ++(ps.drop i).map U).length:=by rw [o2]; omega
  have w1:IntKind.wrap .i64 ((i:Int)+1)=((i+1:Nat):Int):=by rw [wrap_i (by omega) (by omega)]; omega
  simp only [U] at hroot hat hput
  simp only [H7Fa,EXA,seval,readAt_some,hlt,hidx,o1',hat,hroot,w1,hle,hput]
  refine ih (i+1) _ _ (by omega) ⟨⟨?_,?_,o3,o4⟩,by omega⟩ rfl
  ·unfold Store.get; simp [look]
  ·simp; omega
theorem tabKK:cR 340 [.int .i64 80, .bool true, .bool true]=some (.vsl (KK.map U) none):=r_stable (n:=80) sieve80 (by decide) tab80 (by decide) (by decide)
theorem tabHH:cR 340 [.int .i64 8, .bool false, .bool true]=some (.vsl (HH.list.map U) none):=r_stable (n:=8) sieve8 (by decide) tab8 (by decide) (by decide)
end Go.Ab
