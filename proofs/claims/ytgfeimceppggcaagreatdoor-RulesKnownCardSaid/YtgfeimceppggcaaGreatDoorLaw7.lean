/- What functions of the program, and of the library, answer. Conditions: none. -/
import Derived.Test.YtgfeimceppggcaaGreatDoorLaw6
import Derived.Test.YtgfeimceppggcaaGreatDoorLaw4
import Derived.Test.YtgfeimceppggcaaGreatDoorEx
set_option linter.unusedVariables false
set_option linter.unusedSimpArgs false
set_option linter.defProp false
set_option linter.unnecessarySimpa false
namespace Go.Ab
set_option maxHeartbeats 1000000
set_option maxRecDepth 100000
theorem toLE8r (n:Nat):(toLE 8 n).reverse= [UInt8.ofNat (n / 72057594037927936),UInt8.ofNat (n / 281474976710656),UInt8.ofNat (n / 1099511627776),UInt8.ofNat (n / 4294967296),UInt8.ofNat (n / 16777216),UInt8.ofNat (n / 65536),UInt8.ofNat (n / 256),UInt8.ofNat (n / 1)]:=by
 rw [toLE_div]; rfl
theorem outV64 (v:V8):outV v= [UInt8.ofNat (v.a.toNat / 72057594037927936),UInt8.ofNat (v.a.toNat / 281474976710656),UInt8.ofNat (v.a.toNat / 1099511627776),UInt8.ofNat (v.a.toNat / 4294967296),UInt8.ofNat (v.a.toNat / 16777216),UInt8.ofNat (v.a.toNat / 65536),UInt8.ofNat (v.a.toNat / 256),UInt8.ofNat (v.a.toNat / 1),UInt8.ofNat (v.b.toNat / 72057594037927936),UInt8.ofNat (v.b.toNat / 281474976710656),UInt8.ofNat (v.b.toNat / 1099511627776),UInt8.ofNat (v.b.toNat / 4294967296),UInt8.ofNat (v.b.toNat / 16777216),UInt8.ofNat (v.b.toNat / 65536),UInt8.ofNat (v.b.toNat / 256),UInt8.ofNat (v.b.toNat / 1),UInt8.ofNat (v.c.toNat / 72057594037927936),UInt8.ofNat (v.c.toNat / 281474976710656),UInt8.ofNat (v.c.toNat / 1099511627776),UInt8.ofNat (v.c.toNat / 4294967296),UInt8.ofNat (v.c.toNat / 16777216),UInt8.ofNat (v.c.toNat / 65536),UInt8.ofNat (v.c.toNat / 256),UInt8.ofNat (v.c.toNat / 1),UInt8.ofNat (v.d.toNat / 72057594037927936),UInt8.ofNat (v.d.toNat / 281474976710656),UInt8.ofNat (v.d.toNat / 1099511627776),UInt8.ofNat (v.d.toNat / 4294967296),UInt8.ofNat (v.d.toNat / 16777216),UInt8.ofNat (v.d.toNat / 65536),UInt8.ofNat (v.d.toNat / 256),UInt8.ofNat (v.d.toNat / 1),UInt8.ofNat (v.e.toNat / 72057594037927936),UInt8.ofNat (v.e.toNat / 281474976710656),UInt8.ofNat (v.e.toNat / 1099511627776),UInt8.ofNat (v.e.toNat / 4294967296),UInt8.ofNat (v.e.toNat / 16777216),UInt8.ofNat (v.e.toNat / 65536),UInt8.ofNat (v.e.toNat / 256),UInt8.ofNat (v.e.toNat / 1),UInt8.ofNat (v.f.toNat / 72057594037927936),UInt8.ofNat (v.f.toNat / 281474976710656),UInt8.ofNat (v.f.toNat / 1099511627776),UInt8.ofNat (v.f.toNat / 4294967296),UInt8.ofNat (v.f.toNat / 16777216),UInt8.ofNat (v.f.toNat / 65536),UInt8.ofNat (v.f.toNat / 256),UInt8.ofNat (v.f.toNat / 1),UInt8.ofNat (v.g.toNat / 72057594037927936),UInt8.ofNat (v.g.toNat / 281474976710656),UInt8.ofNat (v.g.toNat / 1099511627776),UInt8.ofNat (v.g.toNat / 4294967296),UInt8.ofNat (v.g.toNat / 16777216),UInt8.ofNat (v.g.toNat / 65536),UInt8.ofNat (v.g.toNat / 256),UInt8.ofNat (v.g.toNat / 1),UInt8.ofNat (v.h.toNat / 72057594037927936),UInt8.ofNat (v.h.toNat / 281474976710656),UInt8.ofNat (v.h.toNat / 1099511627776),UInt8.ofNat (v.h.toNat / 4294967296),UInt8.ofNat (v.h.toNat / 16777216),UInt8.ofNat (v.h.toNat / 65536),UInt8.ofNat (v.h.toNat / 256),UInt8.ofNat (v.h.toNat / 1)]:=by
 simp only [outV,V8.list,List.flatMap_cons,List.flatMap_nil,toLE8r,List.cons_append,List.nil_append,List.append_nil]
theorem wbyte (w:UInt64) {k:Int} (h0:0≤k) (h1:k < 64):shiftInt .shr .u64 (w.toNat:Int) k=some (.int .u64 ((w.toNat / 2 ^ k.toNat:Nat):Int)):=by
 have:=sh_r w k.toNat (by omega)
 rw [Int.toNat_of_nonneg h0] at this
 rw [this,U,UInt64.toNat_shiftRight,Nat.shiftRight_eq_div_pow,UInt64.toNat_ofNat',Nat.mod_eq_of_lt (show k.toNat < 2 ^ 64 by omega),Nat.mod_eq_of_lt (show k.toNat < 64 by omega)]
theorem wb8 (n m:Nat):IntKind.wrap .u8 ((n / m:Nat):Int)=((UInt8.ofNat (n / m)).toNat:Int):=by
 rw [wrap8,UInt8.toNat_ofNat']
theorem row_U {σ:Store} {l:List UInt64} {c:Option Nat}:rowOf σ 1 (.vsl (l.map U) c)=some (l.map U):=by
 have h1:((l.map U).all fun e=>e.cells.length == 1)=true:=by simp [AV.cells]
 have h2:(l.map U).flatMap AV.cells=l.map U:=by
  induction l with
  | nil=>rfl
  | cons x l ih=>rw [List.map_cons,List.flatMap_cons,ih (by simp [AV.cells])]; rfl
 simp only [rowOf,h1,if_true,h2]
theorem slice_from {cs:List AV} {c:Option Nat} {l:Nat} (h:l≤cs.length) (ho:cs.all AV.one=true):sliceOf 1 (.vsl cs c) (some (l:Int)) none none=some (.vsl (cs.drop l) (c.map (· - l))):=by
 have e1:(cs.all fun e=>e.cells.length == 1)=true:=by
  rw [List.all_eq_true] at ho ⊢
  intro x hx
  have:=ho x hx
  cases x <;> simp_all [AV.one,AV.cells]
 have e2:(0:Int)≤(l:Int)∧(l:Int)≤(cs.length:Int)∧(cs.length:Int)≤(cs.length:Int):=by omega
 simp only [sliceOf,bounds,Option.getD_some,Option.getD_none,if_pos e2,e1,or_true,if_true,Int.toNat_natCast]
 rw [List.take_of_length_le (Nat.le_refl _)]
theorem u8_take (s:List UInt8) (n:Nat):(u8cells s).take n=u8cells (s.take n):=by simp [u8cells]
theorem u8_drop (s:List UInt8) (n:Nat):(u8cells s).drop n=u8cells (s.drop n):=by simp [u8cells]
theorem r_sum512 {ls:List (List UInt8)} {s:List UInt8} (hn:s.length < 1099511627776) (hj: ∃x σ',callS ipU gU (.fn 376 [] []) [.vsl (ls.map bsE) none, .nils] .empty=some (x,σ')∧Joined x σ' s)
  (hcl:closedL (ls.map bsE)=true) (her:erL (ls.map bsE)=ls.map bsE):cR 278 [.vsl (ls.map bsE) none]=some (arrE (sha512 s)):=by
 have hp:=r_padded hn hj
 have hK:=tabKK
 have hH:=tabHH
 have hlenP:=pad_len s
 have hT:=padT_ge s.length
 have hcopy:copyOf ⟨2, [(1, .own (List.replicate 8 (.int .u64 0))),(0, .own (List.replicate 64 (.int .u8 0)))]⟩ 1 (.sl 1 0 8 1 (some 8)) (.vsl (HH.list.map U) none)=some (.int .i64 8,⟨2, [(1, .own HH.cells),(1, .own (List.replicate 8 (.int .u64 0))),(0, .own (List.replicate 64 (.int .u8 0)))]⟩):=by
  simp only [copyOf,lenOf,row_U]
  rfl
 generalize hP:pad512 s=P at*
 have hsha:sha512 s=outV (mixAll KK (padT s.length / 128) HH P):=by rw [sha512,hP]
 rw [hsha]
 simp only [List.replicate] at hcopy
 refine cR_of (F:=F278) rfl ?_
 simp only [F278_8,F278_14,F278_20,F278_32,F278,EXA,seval,readAt_some,@sliceA_len,lenB,ex_loop,hK,hH,hcopy,hcl,her,hp]
 generalize hN:padT s.length / 128=N at*
 generalize hR:mixAll KK N HH P=R at*
 have hKl:KK.length=80:=rfl
 refine ex_whileI (S:=Nat×V8×List UInt8) (fun q=> [(2, .ptr 0 0),(3, .vsl (KK.map U) none),(4, .ptr 1 0),(5,bsE q.2.2)]) (fun q=>q.1)
  (fun q σ'=>look σ'.m 1=some (.own q.2.1.cells)∧look σ'.m 0=some (.own (List.replicate 64 (.int .u8 0)))∧2≤σ'.next∧q.2.2.length=128*q.1∧mixAll KK q.1 q.2.1 q.2.2=R) ?_ (N,HH,P) _ ⟨rfl,rfl,Nat.le_refl _,by show P.length=128*N; omega,hR⟩
 rintro B ⟨k,v,rest⟩ σ1 ⟨g1,g0,g2,g3,g4⟩ ih
 simp only at g1 g0 g2 g3 g4 ih
 cases k with
 | zero=>
  have hr0:rest= []:=List.eq_nil_of_length_eq_zero (by omega)
  subst hr0
  have hv:v=R:=g4
  subst hv
  have hu:u8cells []= []:=rfl
  have hne: ¬σ1.next=0:=by omega
  have hne1: ¬σ1.next=1:=by omega
  rw [outV64]
  unfold V8.cells at g1
  simp only [List.replicate] at g0
  simp only [bsE,hu]
  simp only [arrE,u8cells,List.map_cons,List.map_nil]
  simp only [F278_8,F278_14,F278_15,F278_20,F278_32,F278_33,F278,EXA,seval,readAt_some,ex_loop,ex_inLoop,@wrap_i,@idx_ptr,U,g1,g0,hne,hne1,@wbyte,wb8]
 | succ m=>
  have hgt:decide ((rest.length:Int) > 0)=true:=decide_eq_true (by omega)
  have hle:128≤(u8cells rest).length:=by rw [u8_len]; omega
  have s1:sliceOf 1 (.vsl (u8cells rest) none) none (some 128) none=some (.vsl ((u8cells rest).take 128) none):=slice_take (n:=128) hle
  have s2:sliceOf 1 (.vsl (u8cells rest) none) (some 128) none none=some (.vsl ((u8cells rest).drop 128) none):=slice_from (l:=128) hle (one_u8 rest)
  rw [u8_take] at s1
  rw [u8_drop] at s2
  obtain ⟨σ2,m1,m2,m3,m4⟩:=c_mix (b:=1) (v:=v) (s:=rest.take 128) (ks:=KK) (c1:=none) (c2:=none) (by rw [List.length_take]; omega) hKl g1 (by omega)
  simp only [F278_8,F278_14,F278_15,F278_20,F278_32,F278,EXA,seval,readAt_some,bsE,u8_len,hgt,s1,s2,m1]
  refine ih (m,mixV KK v (rest.take 128),rest.drop 128) _ _ (Nat.lt_succ_self m) ⟨m2,?_,by omega,by show (rest.drop 128).length=128*m; rw [List.length_drop]; omega,g4⟩ rfl
  rw [m4 0 (by omega) (by decide)]; exact g0
theorem bs_closed: ∀ls:List (List UInt8),closedL (ls.map bsE)=true
 | []=>rfl
 | s ::ls=>by simp only [List.map_cons,closedL,AV.closed,closed_u8,bs_closed ls,Bool.and_self]
theorem bs_er: ∀ls:List (List UInt8),erL (ls.map bsE)=ls.map bsE
 | []=>erL_nil
 | s ::ls=>by rw [List.map_cons,erL_cons,bs_er ls,er_vsl,er_u8]
theorem r_sha1 {a:List UInt8} (hn:a.length < 1099511627776):cR 278 [.vsl [bsE a] none]=some (arrE (sha512 a)):=
 r_sum512 (ls:= [a]) hn (c_join1 hn) (bs_closed _) (bs_er _)
theorem r_shaN {a:List UInt8} {rest:List (List UInt8)} (hr:0 < rest.length) (hr2:rest.length < 1099511627776) (h0:0 < a.length) (hn:(a ::rest).flatten.length < 1099511627776) :
  cR 278 [.vsl ((a ::rest).map bsE) none]=some (arrE (sha512 (a ::rest).flatten)):=
 r_sum512 hn (c_join hr hr2 (by rw [List.flatten_cons,List.length_append]; omega) hn) (bs_closed _) (bs_er _)
end Go.Ab
namespace Go.Ab
set_option maxHeartbeats 1000000
set_option maxRecDepth 100000
theorem r_sumN {a:List UInt8} {rest:List (List UInt8)} (hr:0 < rest.length) (hr2:rest.length < 1099511627776) (h0:0 < a.length) (hn:(a ::rest).flatten.length < 1099511627776) :
  cR 226 [.vsl ((a ::rest).map bsE) none]=some (arrE (toLE 32 (leN (sha512 (a ::rest).flatten) % LL))):=by
 have hs:=r_shaN hr hr2 h0 hn
 have hO:=r_ofL (sha512_len (a ::rest).flatten)
 have hcl:=bs_closed (a ::rest)
 have her:=bs_er (a ::rest)
 generalize (a ::rest).map bsE=l at*
 have h64:=sha512_len (a ::rest).flatten
 generalize sha512 (a ::rest).flatten=H at*
 have hl:(u8cells H).length=64:=by rw [u8_len,h64]
 have ht:(u8cells H).take 64=u8cells H:=List.take_of_length_le (by omega)
 have hL:=toLE_len 32 (leN H % LL)
 generalize toLE 32 (leN H % LL)=v at*
 have hlv:(u8cells v).length=32:=by rw [u8_len,hL]
 have htv:(u8cells v).take 32=u8cells v:=List.take_of_length_le (by omega)
 have hP (σ:Store) (h:look σ.m 1=some (.own (u8cells H))):callP ipU gU false (.fn 279 [] []) [.sl 1 0 64 1 (some 64)] σ=some (arrE v,σ):=
  callP_sl (off:=0) (n:=64) h (by omega) (closed_u8 _) (by
   have:=one_u8 H
   rw [List.all_eq_true] at this ⊢
   intro x hx; have:=this x hx
   cases x <;> simp_all [AV.one,AV.notAgg]) (by rw [List.drop_zero,ht,er_u8]) (by rw [List.drop_zero,ht]; exact hO) (by simp only [arrE,AV.flat,flat_u8])
 refine cR_of (F:=F226) rfl ?_
 simp only [arrE] at hs hP ⊢
 simp only [F226,EXA,seval,readAt_some,@sliceA_len,lenB,hcl,her,hs,hl,ht,hP,hlv,htv,one_u8,closed_u8,er_u8]
end Go.Ab
namespace Go.Ab
set_option maxHeartbeats 1000000
set_option maxRecDepth 100000
theorem leN_mid (b0 b1 b2 b3 b4 b5 b6 b7 b8 b9 b10 b11 b12 b13 b14 b15 b16 b17 b18 b19 b20 b21 b22 b23 b24 b25 b26 b27 b28 b29 b30 b31:UInt8):leN [b0,b1,b2,b3,b4,b5,b6,b7,b8,b9,b10,b11,b12,b13,b14,b15,b16,b17,b18,b19,b20,b21,b22,b23,b24,b25,b26,b27,b28,b29,b30,b31]=b0.toNat+256*leN [b1,b2,b3,b4,b5,b6,b7,b8,b9,b10,b11,b12,b13,b14,b15,b16,b17,b18,b19,b20,b21,b22,b23,b24,b25,b26,b27,b28,b29,b30]+2 ^ 248*b31.toNat:=by
 have e1:leN [b31]=b31.toNat:=by simp [leN]
 rw [leN,show [b1,b2,b3,b4,b5,b6,b7,b8,b9,b10,b11,b12,b13,b14,b15,b16,b17,b18,b19,b20,b21,b22,b23,b24,b25,b26,b27,b28,b29,b30,b31]= [b1,b2,b3,b4,b5,b6,b7,b8,b9,b10,b11,b12,b13,b14,b15,b16,b17,b18,b19,b20,b21,b22,b23,b24,b25,b26,b27,b28,b29,b30] ++ [b31] from rfl,leN_app,e1,show [b1,b2,b3,b4,b5,b6,b7,b8,b9,b10,b11,b12,b13,b14,b15,b16,b17,b18,b19,b20,b21,b22,b23,b24,b25,b26,b27,b28,b29,b30].length=30 from rfl,show (256:Nat) ^ 30=2 ^ 240 by decide]
 omega
theorem w_248 (b:UInt8):IntKind.wrap .u8 ((BitVec.ofInt (IntKind.bits .u8) (b.toNat:Int) &&& BitVec.ofInt (IntKind.bits .u8) 248).toNat:Int)=((b &&& 248).toNat:Int):=
 eq_of_beq (byte_all (p:=fun b=>IntKind.wrap .u8 ((BitVec.ofInt (IntKind.bits .u8) (b.toNat:Int) &&& BitVec.ofInt (IntKind.bits .u8) 248).toNat:Int) == ((b &&& 248).toNat:Int)) (by kernel_rfl) b)
theorem w_127 (b:UInt8):IntKind.wrap .u8 ((BitVec.ofInt (IntKind.bits .u8) (b.toNat:Int) &&& BitVec.ofInt (IntKind.bits .u8) 127).toNat:Int)=((b &&& 127).toNat:Int):=
 eq_of_beq (byte_all (p:=fun b=>IntKind.wrap .u8 ((BitVec.ofInt (IntKind.bits .u8) (b.toNat:Int) &&& BitVec.ofInt (IntKind.bits .u8) 127).toNat:Int) == ((b &&& 127).toNat:Int)) (by kernel_rfl) b)
theorem w_o64 (b:UInt8):IntKind.wrap .u8 ((BitVec.ofInt (IntKind.bits .u8) (b.toNat:Int) ||| BitVec.ofInt (IntKind.bits .u8) 64).toNat:Int)=((b ||| 64).toNat:Int):=
 eq_of_beq (byte_all (p:=fun b=>IntKind.wrap .u8 ((BitVec.ofInt (IntKind.bits .u8) (b.toNat:Int) ||| BitVec.ofInt (IntKind.bits .u8) 64).toNat:Int) == ((b ||| 64).toNat:Int)) (by kernel_rfl) b)
theorem n_248 (b:UInt8):(b &&& 248).toNat=b.toNat / 8*8:=eq_of_beq (byte_all (p:=fun b=>(b &&& 248).toNat == b.toNat / 8*8) (by kernel_rfl) b)
theorem n_top (b:UInt8):(b &&& 127 ||| 64).toNat=b.toNat % 64+64:=eq_of_beq (byte_all (p:=fun b=>(b &&& 127 ||| 64).toNat == b.toNat % 64+64) (by kernel_rfl) b)
theorem clamp (b0 b1 b2 b3 b4 b5 b6 b7 b8 b9 b10 b11 b12 b13 b14 b15 b16 b17 b18 b19 b20 b21 b22 b23 b24 b25 b26 b27 b28 b29 b30 b31:UInt8): [b0 &&& 248,b1,b2,b3,b4,b5,b6,b7,b8,b9,b10,b11,b12,b13,b14,b15,b16,b17,b18,b19,b20,b21,b22,b23,b24,b25,b26,b27,b28,b29,b30,b31 &&& 127 ||| 64]=toLE 32 (leN [b0,b1,b2,b3,b4,b5,b6,b7,b8,b9,b10,b11,b12,b13,b14,b15,b16,b17,b18,b19,b20,b21,b22,b23,b24,b25,b26,b27,b28,b29,b30,b31] % 2 ^ 254 / 8*8+2 ^ 254):=by
 have e:=leN_mid b0 b1 b2 b3 b4 b5 b6 b7 b8 b9 b10 b11 b12 b13 b14 b15 b16 b17 b18 b19 b20 b21 b22 b23 b24 b25 b26 b27 b28 b29 b30 b31
 have e2:=leN_mid (b0 &&& 248) b1 b2 b3 b4 b5 b6 b7 b8 b9 b10 b11 b12 b13 b14 b15 b16 b17 b18 b19 b20 b21 b22 b23 b24 b25 b26 b27 b28 b29 b30 (b31 &&& 127 ||| 64)
 have h0:=b0.toNat_lt; have h31:=b31.toNat_lt
 have hm:leN [b1,b2,b3,b4,b5,b6,b7,b8,b9,b10,b11,b12,b13,b14,b15,b16,b17,b18,b19,b20,b21,b22,b23,b24,b25,b26,b27,b28,b29,b30] < 2 ^ 240:=Nat.lt_of_lt_of_eq (leN_lt _) (by rw [show [b1,b2,b3,b4,b5,b6,b7,b8,b9,b10,b11,b12,b13,b14,b15,b16,b17,b18,b19,b20,b21,b22,b23,b24,b25,b26,b27,b28,b29,b30].length=30 from rfl])
 rw [n_248,n_top] at e2
 have key:leN [b0,b1,b2,b3,b4,b5,b6,b7,b8,b9,b10,b11,b12,b13,b14,b15,b16,b17,b18,b19,b20,b21,b22,b23,b24,b25,b26,b27,b28,b29,b30,b31] % 2 ^ 254 / 8*8+2 ^ 254=leN [b0 &&& 248,b1,b2,b3,b4,b5,b6,b7,b8,b9,b10,b11,b12,b13,b14,b15,b16,b17,b18,b19,b20,b21,b22,b23,b24,b25,b26,b27,b28,b29,b30,b31 &&& 127 ||| 64]:=by
  rw [e,e2]
  generalize leN [b1,b2,b3,b4,b5,b6,b7,b8,b9,b10,b11,b12,b13,b14,b15,b16,b17,b18,b19,b20,b21,b22,b23,b24,b25,b26,b27,b28,b29,b30]=m at*
  omega
 rw [key]
 exact (toLE_leN [b0 &&& 248,b1,b2,b3,b4,b5,b6,b7,b8,b9,b10,b11,b12,b13,b14,b15,b16,b17,b18,b19,b20,b21,b22,b23,b24,b25,b26,b27,b28,b29,b30,b31 &&& 127 ||| 64]).symm
def keyL (seed:List UInt8):List AV:=u8cells (toLE 32 (secS sha512 seed)) ++ [bsE ((sha512 seed).drop 32)] ++u8cells (pubB sha512 seed)
theorem base_open:openP (leN (toLE 32 (packP baseP)))=some baseP:=by rw [pack_le,open_pack on_base]
theorem r_timesB {k:List UInt8} (hk:k.length=32):cR 227 [arrE k,arrE (toLE 32 (packP baseP))]=some (.tup [arrE (toLE 32 (packP (mulP baseP (leN k)))), .bool true]):=by
 rw [r_Times hk (toLE_len _ _),base_open]; rfl
theorem sliceA_lo {σ:Store} {b:Nat} (h:lenB (look σ.m b)=64):sliceAOf σ 64 1 (.ptr b 0) none (some 32)=some (.sl b 0 32 1 (some 64)):=by
 unfold lenB at h
 split at h
 ·rename_i cs e
  have hb:σ.cells b=some cs:=by unfold Store.cells Store.get; rw [e]
  simp [sliceAOf,bounds,hb,h]
 ·omega
theorem sliceA_hi {σ:Store} {b:Nat} (h:lenB (look σ.m b)=64):sliceAOf σ 64 1 (.ptr b 0) (some 32) none=some (.sl b 32 32 1 (some 32)):=by
 unfold lenB at h
 split at h
 ·rename_i cs e
  have hb:σ.cells b=some cs:=by unfold Store.cells Store.get; rw [e]
  simp [sliceAOf,bounds,hb,h]
 ·omega
theorem mapO_app {f:AV→Option AV}: ∀ {a b a' b':List AV},mapO f a=some a'→mapO f b=some b'→mapO f (a ++b)=some (a' ++b')
 | [],b,a',b',h1,h2=>by
  simp only [mapO,Option.some.injEq] at h1
  subst h1; simpa using h2
 | x ::a,b,a',b',h1,h2=>by
  simp only [mapO] at h1
  cases hx:f x with
  | none=>rw [hx] at h1; cases h1
  | some y=>
   rw [hx] at h1
   cases ha:mapO f a with
   | none=>rw [ha] at h1; cases h1
   | some l=>
    rw [ha] at h1
    simp only [Option.some.injEq] at h1
    subst h1
    simp only [List.cons_append,mapO,hx,mapO_app ha h2]
theorem erL_app: ∀a b:List AV,erL (a ++b)=erL a ++erL b
 | [],b=>by rw [erL_nil]; rfl
 | x ::a,b=>by rw [List.cons_append,erL_cons,erL_cons,erL_app a b]; rfl
theorem notAgg_u8 (s:List UInt8):(u8cells s).all AV.notAgg=true:=by
 have:=one_u8 s
 rw [List.all_eq_true] at this ⊢
 intro x hx; have:=this x hx
 cases x <;> simp_all [AV.one,AV.notAgg]
theorem rbE_key {σ:Store} {k c:Nat} {e:Option Nat} {C x y:List UInt8} (h:look σ.m k=some (.own (u8cells x ++ [.sl c 32 32 1 e] ++u8cells y))) (hc:look σ.m c=some (.own (u8cells C))) (hl:C.length=64) :
  rbE σ (.ptr k 0)=some (.vptr (u8cells x ++ [bsE (C.drop 32)] ++u8cells y) 0):=by
 have hb:σ.cells k=some (u8cells x ++ [.sl c 32 32 1 e] ++u8cells y):=by unfold Store.cells Store.get; rw [h]
 have e1:rb σ 23 (.sl c 32 32 1 e)=some (bsE (C.drop 32)):=by
  rw [show 23=22+1 from rfl,rb_sl1 hc (by rw [u8_len]; omega) (closed_u8 _) (notAgg_u8 _),u8_drop,List.take_of_length_le (by rw [u8_len,List.length_drop]; omega)]
 have e2:mapO (rb σ 23) (u8cells x ++ [.sl c 32 32 1 e] ++u8cells y)=some (u8cells x ++ [bsE (C.drop 32)] ++u8cells y):=
  mapO_app (mapO_app (mapO_closed' (closed_u8 x)) (by rw [mapO_one,e1]; rfl)) (mapO_closed' (closed_u8 y))
 have ncl:(AV.ptr k 0).closed=false:=by simp [AV.closed]
 unfold rbE
 rw [show rbDepth=23+1 from rfl]
 unfold rb
 rw [ncl]
 simp only [hb,e2]
 simp only [Bool.false_eq_true,if_false,Option.map_some,er_vptr,erL_app,er_u8,erL_cons,er_vsl,erL_nil]
theorem w_open {seed:List UInt8} (hn:seed.length < 1099511627776) {l2:List UInt8} (h2:l2.length=32) (b0 b1 b2 b3 b4 b5 b6 b7 b8 b9 b10 b11 b12 b13 b14 b15 b16 b17 b18 b19 b20 b21 b22 b23 b24 b25 b26 b27 b28 b29 b30 b31:UInt8) (hH:sha512 seed= [b0,b1,b2,b3,b4,b5,b6,b7,b8,b9,b10,b11,b12,b13,b14,b15,b16,b17,b18,b19,b20,b21,b22,b23,b24,b25,b26,b27,b28,b29,b30,b31] ++l2) :
  cR 244 [bsE seed]=some (.vptr (keyL seed) 0):=by
 have hs:=r_sha1 hn
 have t0: ∀l:List UInt8,l.length=32→(l ++l2).take 32=l:=fun l h=>List.take_left' h
 have d0: ∀l:List UInt8,l.length=32→(l ++l2).drop 32=l2:=fun l h=>List.drop_left' h
 have hsec:secS sha512 seed=leN [b0,b1,b2,b3,b4,b5,b6,b7,b8,b9,b10,b11,b12,b13,b14,b15,b16,b17,b18,b19,b20,b21,b22,b23,b24,b25,b26,b27,b28,b29,b30,b31] % 2 ^ 254 / 8*8+2 ^ 254:=by
  rw [secS,hH,t0 _ rfl]
 have hk:toLE 32 (secS sha512 seed)= [b0 &&& 248,b1,b2,b3,b4,b5,b6,b7,b8,b9,b10,b11,b12,b13,b14,b15,b16,b17,b18,b19,b20,b21,b22,b23,b24,b25,b26,b27,b28,b29,b30,b31 &&& 127 ||| 64]:=by rw [hsec,clamp]
 have hd:(sha512 seed).drop 32=l2:=by rw [hH,d0 _ rfl]
 have hB:=r_Base
 have hT:=r_timesB (k:=toLE 32 (secS sha512 seed)) (toLE_len _ _)
 have hlt:secS sha512 seed < 256 ^ 32:=by
  rw [hsec]
  have:leN [b0,b1,b2,b3,b4,b5,b6,b7,b8,b9,b10,b11,b12,b13,b14,b15,b16,b17,b18,b19,b20,b21,b22,b23,b24,b25,b26,b27,b28,b29,b30,b31] % 2 ^ 254 < 2 ^ 254:=Nat.mod_lt _ (by decide)
  omega
 rw [leN_toLE 32 _ hlt] at hT
 have hpub:toLE 32 (packP (mulP baseP (secS sha512 seed)))=pubB sha512 seed:=rfl
 rw [hpub,hk] at hT
 have hK:keyL seed=u8cells [b0 &&& 248,b1,b2,b3,b4,b5,b6,b7,b8,b9,b10,b11,b12,b13,b14,b15,b16,b17,b18,b19,b20,b21,b22,b23,b24,b25,b26,b27,b28,b29,b30,b31 &&& 127 ||| 64] ++ [bsE l2] ++u8cells (pubB sha512 seed):=by rw [keyL,hk,hd]
 rw [hK]
 have hpl:(pubB sha512 seed).length=32:=toLE_len _ _
 generalize pubB sha512 seed=A at*
 generalize toLE 32 (packP baseP)=G at*
 rw [hH] at hs
 have hcl:closedL [bsE seed]=true:=bs_closed [seed]
 have her:erL [bsE seed]= [bsE seed]:=bs_er [seed]
 clear hsec hk hd hpub hK hlt hH
 have hCe:u8cells ([b0,b1,b2,b3,b4,b5,b6,b7,b8,b9,b10,b11,b12,b13,b14,b15,b16,b17,b18,b19,b20,b21,b22,b23,b24,b25,b26,b27,b28,b29,b30,b31] ++l2)= [.int .u8 (b0.toNat:Int), .int .u8 (b1.toNat:Int), .int .u8 (b2.toNat:Int), .int .u8 (b3.toNat:Int), .int .u8 (b4.toNat:Int), .int .u8 (b5.toNat:Int), .int .u8 (b6.toNat:Int), .int .u8 (b7.toNat:Int), .int .u8 (b8.toNat:Int), .int .u8 (b9.toNat:Int), .int .u8 (b10.toNat:Int), .int .u8 (b11.toNat:Int), .int .u8 (b12.toNat:Int), .int .u8 (b13.toNat:Int), .int .u8 (b14.toNat:Int), .int .u8 (b15.toNat:Int), .int .u8 (b16.toNat:Int), .int .u8 (b17.toNat:Int), .int .u8 (b18.toNat:Int), .int .u8 (b19.toNat:Int), .int .u8 (b20.toNat:Int), .int .u8 (b21.toNat:Int), .int .u8 (b22.toNat:Int), .int .u8 (b23.toNat:Int), .int .u8 (b24.toNat:Int), .int .u8 (b25.toNat:Int), .int .u8 (b26.toNat:Int), .int .u8 (b27.toNat:Int), .int .u8 (b28.toNat:Int), .int .u8 (b29.toNat:Int), .int .u8 (b30.toNat:Int), .int .u8 (b31.toNat:Int)] ++u8cells l2:=by rw [u8_app]; rfl
 have hCl:([b0,b1,b2,b3,b4,b5,b6,b7,b8,b9,b10,b11,b12,b13,b14,b15,b16,b17,b18,b19,b20,b21,b22,b23,b24,b25,b26,b27,b28,b29,b30,b31] ++l2).length=64:=by rw [List.length_append,h2]; rfl
 have hCd:=d0 [b0,b1,b2,b3,b4,b5,b6,b7,b8,b9,b10,b11,b12,b13,b14,b15,b16,b17,b18,b19,b20,b21,b22,b23,b24,b25,b26,b27,b28,b29,b30,b31] rfl
 have hC32:(u8cells ([b0,b1,b2,b3,b4,b5,b6,b7,b8,b9,b10,b11,b12,b13,b14,b15,b16,b17,b18,b19,b20,b21,b22,b23,b24,b25,b26,b27,b28,b29,b30,b31] ++l2)).take 32= [.int .u8 (b0.toNat:Int), .int .u8 (b1.toNat:Int), .int .u8 (b2.toNat:Int), .int .u8 (b3.toNat:Int), .int .u8 (b4.toNat:Int), .int .u8 (b5.toNat:Int), .int .u8 (b6.toNat:Int), .int .u8 (b7.toNat:Int), .int .u8 (b8.toNat:Int), .int .u8 (b9.toNat:Int), .int .u8 (b10.toNat:Int), .int .u8 (b11.toNat:Int), .int .u8 (b12.toNat:Int), .int .u8 (b13.toNat:Int), .int .u8 (b14.toNat:Int), .int .u8 (b15.toNat:Int), .int .u8 (b16.toNat:Int), .int .u8 (b17.toNat:Int), .int .u8 (b18.toNat:Int), .int .u8 (b19.toNat:Int), .int .u8 (b20.toNat:Int), .int .u8 (b21.toNat:Int), .int .u8 (b22.toNat:Int), .int .u8 (b23.toNat:Int), .int .u8 (b24.toNat:Int), .int .u8 (b25.toNat:Int), .int .u8 (b26.toNat:Int), .int .u8 (b27.toNat:Int), .int .u8 (b28.toNat:Int), .int .u8 (b29.toNat:Int), .int .u8 (b30.toNat:Int), .int .u8 (b31.toNat:Int)]:=by rw [u8_take,t0 _ rfl]; rfl
 generalize [b0,b1,b2,b3,b4,b5,b6,b7,b8,b9,b10,b11,b12,b13,b14,b15,b16,b17,b18,b19,b20,b21,b22,b23,b24,b25,b26,b27,b28,b29,b30,b31] ++l2=C at*
 have hcl64:(u8cells C).length=64:=by rw [u8_len,hCl]
 have htk64:(u8cells C).take 64=u8cells C:=List.take_of_length_le (by omega)
 have hAl:(u8cells A).length=32:=by rw [u8_len,hpl]
 have hAt:(u8cells A).take 32=u8cells A:=List.take_of_length_le (by omega)
 have hGl:closedL (u8cells G)=true:=closed_u8 G
 clear t0 d0 hCe
 refine cR_of (F:=F244) rfl ?_
 simp only [arrE] at hs hB hT ⊢
 rw [show u8cells [b0 &&& 248,b1,b2,b3,b4,b5,b6,b7,b8,b9,b10,b11,b12,b13,b14,b15,b16,b17,b18,b19,b20,b21,b22,b23,b24,b25,b26,b27,b28,b29,b30,b31 &&& 127 ||| 64]= [.int .u8 ((b0 &&& 248).toNat:Int), .int .u8 (b1.toNat:Int), .int .u8 (b2.toNat:Int), .int .u8 (b3.toNat:Int), .int .u8 (b4.toNat:Int), .int .u8 (b5.toNat:Int), .int .u8 (b6.toNat:Int), .int .u8 (b7.toNat:Int), .int .u8 (b8.toNat:Int), .int .u8 (b9.toNat:Int), .int .u8 (b10.toNat:Int), .int .u8 (b11.toNat:Int), .int .u8 (b12.toNat:Int), .int .u8 (b13.toNat:Int), .int .u8 (b14.toNat:Int), .int .u8 (b15.toNat:Int), .int .u8 (b16.toNat:Int), .int .u8 (b17.toNat:Int), .int .u8 (b18.toNat:Int), .int .u8 (b19.toNat:Int), .int .u8 (b20.toNat:Int), .int .u8 (b21.toNat:Int), .int .u8 (b22.toNat:Int), .int .u8 (b23.toNat:Int), .int .u8 (b24.toNat:Int), .int .u8 (b25.toNat:Int), .int .u8 (b26.toNat:Int), .int .u8 (b27.toNat:Int), .int .u8 (b28.toNat:Int), .int .u8 (b29.toNat:Int), .int .u8 (b30.toNat:Int), .int .u8 ((b31 &&& 127 ||| 64).toNat:Int)] from rfl] at hT
 simp only [F244,EXA,seval,readAt_some,@sliceA_lo,@sliceA_hi,lenB,nilcOf,@idx_ptr,hcl,her,hs,hcl64,htk64,hC32,one_u8,w_248,w_127,w_o64,hB,hT,hAl,hAt,closed_u8,er_u8]
 rw [←hCd]
 exact rbE_key (x:= [b0 &&& 248,b1,b2,b3,b4,b5,b6,b7,b8,b9,b10,b11,b12,b13,b14,b15,b16,b17,b18,b19,b20,b21,b22,b23,b24,b25,b26,b27,b28,b29,b30,b31 &&& 127 ||| 64]) (y:=A) rfl rfl hCl
theorem r_open {seed:List UInt8} (hn:seed.length < 1099511627776):cR 244 [bsE seed]=some (.vptr (keyL seed) 0):=by
 have h:=sha512_len seed
 obtain ⟨b0,b1,b2,b3,b4,b5,b6,b7,b8,b9,b10,b11,b12,b13,b14,b15,b16,b17,b18,b19,b20,b21,b22,b23,b24,b25,b26,b27,b28,b29,b30,b31,e⟩:=ex32 (s:=(sha512 seed).take 32) (by rw [List.length_take,h]; rfl)
 exact w_open hn (l2:=(sha512 seed).drop 32) (by rw [List.length_drop,h]) b0 b1 b2 b3 b4 b5 b6 b7 b8 b9 b10 b11 b12 b13 b14 b15 b16 b17 b18 b19 b20 b21 b22 b23 b24 b25 b26 b27 b28 b29 b30 b31 (by rw [←e,List.take_append_drop])
end Go.Ab
namespace Go.Ab
set_option maxHeartbeats 1000000
set_option maxRecDepth 100000
theorem keyC_len (seed:List UInt8):(keyL seed).length=65:=by
 rw [keyL,List.length_append,List.length_append,u8_len,u8_len,toLE_len,pubB,toLE_len]; rfl
theorem keyC_closed (seed:List UInt8):closedL (keyL seed)=true:=by
 rw [closedL_all,keyL]
 intro x hx
 simp only [List.mem_append,List.mem_singleton] at hx
 rcases hx with (hx | hx) | hx
 ·exact closedL_all.1 (closed_u8 _) x hx
 ·subst hx; simp only [AV.closed,closed_u8]
 ·exact closedL_all.1 (closed_u8 _) x hx
theorem keyC_er (seed:List UInt8):erL (keyL seed)=keyL seed:=by
 rw [keyL,erL_app,erL_app,er_u8,er_u8,erL_cons,er_vsl,er_u8,erL_nil]
theorem keyC_32 (seed:List UInt8):(keyL seed)[32]? =some (bsE ((sha512 seed).drop 32)):=by
 rw [keyL,List.append_assoc,List.getElem?_append_right (by rw [u8_len,toLE_len]; omega),u8_len,toLE_len]; rfl
theorem keyC_0 (seed:List UInt8):(keyL seed).take 32=u8cells (toLE 32 (secS sha512 seed)):=by
 rw [keyL,List.append_assoc,List.take_left' (by rw [u8_len,toLE_len])]
theorem keyC_33 (seed:List UInt8):(keyL seed).drop 33=u8cells (pubB sha512 seed):=by
 rw [keyL,List.drop_left' (by rw [List.length_append,u8_len,toLE_len]; rfl)]
theorem sliceA_v {σ:Store} {cs:List AV} {a:List UInt8} {off:Nat} (hl:a.length=32) (hd:cs.drop off=u8cells a) (hle:off+32≤cs.length):sliceAOf σ 32 1 (.vptr cs off) none none=some (bsE a):=by
 have e1:((cs.drop off).take 32)=u8cells a:=by rw [hd,List.take_of_length_le (by rw [u8_len]; omega)]
 have e2:(u8cells a).all AV.notAgg=true:=notAgg_u8 a
 have e3:chunks 1 32 (u8cells a)=u8cells a:=by
  have:=chunks1 (u8cells a)
  rwa [u8_len,hl] at this
 simp only [sliceAOf,bounds,Option.getD_none]
 rw [if_pos (by omega)]
 simp only [Int.toNat_natCast,Int.toNat_zero,Nat.zero_mul,Nat.add_zero,Nat.mul_one,Nat.sub_zero,e1,e2,e3]
 rw [if_pos (by omega),if_pos ⟨hle,trivial⟩]
theorem rb_three {σ:Store} {b c:Nat} {e1 e2:Option Nat} {r:List UInt8} {x y:List UInt8} (h:look σ.m b=some (.own [.sl c 0 32 1 e1,bsE x,bsE y])) (hc:look σ.m c=some (.own (u8cells r))) (hr:r.length=32) :
  rb σ rbDepth (.sl b 0 3 1 e2)=some (.vsl ([r,x,y].map bsE) none):=by
 have hb:σ.cells b=some [.sl c 0 32 1 e1,bsE x,bsE y]:=by unfold Store.cells Store.get; rw [h]
 have k1:rb σ 23 (.sl c 0 32 1 e1)=some (bsE r):=by
  rw [show 23=22+1 from rfl,rb_sl1 hc (by rw [u8_len]; omega) (closed_u8 _) (notAgg_u8 _),List.drop_zero,List.take_of_length_le (by rw [u8_len]; omega)]
 have k2:mapO (rb σ 23) [.sl c 0 32 1 e1,bsE x,bsE y]=some [bsE r,bsE x,bsE y]:=by
  simp only [mapO,k1,rb_closed' (show (bsE x).closed=true from by simp only [AV.closed,closed_u8]),rb_closed' (show (bsE y).closed=true from by simp only [AV.closed,closed_u8])]
 have e:rb σ (23+1) (.sl b 0 3 1 e2)=(match σ.cells b with
   | some cs=>
    if 0+3*1≤cs.length∧0 < 1 then
     match mapO (rb σ 23) ((cs.drop 0).take (3*1)) with
     | some cs'=>if cs'.all AV.notAgg then some (.vsl (chunks 1 3 cs') none) else none
     | none=>none
    else none
   | none=>none):=rfl
 rw [show rbDepth=23+1 from rfl,e,hb]
 simp only
 rw [if_pos ⟨by simp,by decide⟩,show (List.drop 0 [AV.sl c 0 32 1 e1,bsE x,bsE y]).take (3*1)= [AV.sl c 0 32 1 e1,bsE x,bsE y] from rfl,k2]
 rfl
theorem callP_any {st:Bool} {f:Nat} {args args':List AV} {σ:Store} {r:AV} (h2:mapO (rb σ rbDepth) args=some args') (he:erL args'=args') (hr:cR f args'=some r) (hf:r.flat=true):callP ipU gU st (.fn f [] []) args σ=some (r,σ):=
 callP_flat (args':=args') rfl h2 (by rw [he]; exact hr) hf
theorem r_ksign {seed msg:List UInt8} (hn:msg.length < 1099511000000):callR ipU gU (.fn 312 [.vptr (keyL seed) 0] []) [bsE msg]=some (bsE (sigB sha512 seed msg)):=by
 have hpre:((sha512 seed).drop 32).length=32:=by rw [List.length_drop,sha512_len]
 have hf1:([(sha512 seed).drop 32,msg] :List (List UInt8)).flatten=(sha512 seed).drop 32 ++msg:=by simp
 have hs1:=r_sumN (a:=(sha512 seed).drop 32) (rest:= [msg]) (Nat.succ_pos _) (show 1 < 1099511627776 by decide) (by omega) (by rw [hf1,List.length_append]; omega)
 rw [hf1] at hs1
 have hB:=r_Base
 have hR:toLE 32 (leN (sha512 ((sha512 seed).drop 32 ++msg)) % LL)=toLE 32 (sigR sha512 seed msg):=rfl
 rw [hR] at hs1
 have hrl:sigR sha512 seed msg < LL:=Nat.mod_lt _ (by decide)
 have hT:=r_timesB (k:=toLE 32 (sigR sha512 seed msg)) (toLE_len _ _)
 have hrn:leN (toLE 32 (sigR sha512 seed msg))=sigR sha512 seed msg:=leN_toLE 32 _ (Nat.lt_trans hrl (by decide))
 rw [hrn] at hT
 have hsig:sigB sha512 seed msg=toLE 32 (packP (mulP baseP (sigR sha512 seed msg))) ++toLE 32 ((leN (sha512 (toLE 32 (packP (mulP baseP (sigR sha512 seed msg))) ++pubB sha512 seed ++msg)) % LL*secS sha512 seed+sigR sha512 seed msg) % LL):=rfl
 rw [hsig]
 have hpl:(pubB sha512 seed).length=32:=toLE_len _ _
 have hRl:=toLE_len 32 (packP (mulP baseP (sigR sha512 seed msg)))
 have hf2:([toLE 32 (packP (mulP baseP (sigR sha512 seed msg))),pubB sha512 seed,msg] :List (List UInt8)).flatten=toLE 32 (packP (mulP baseP (sigR sha512 seed msg))) ++pubB sha512 seed ++msg:=by simp
 have hs2:=r_sumN (a:=toLE 32 (packP (mulP baseP (sigR sha512 seed msg)))) (rest:= [pubB sha512 seed,msg]) (Nat.succ_pos _) (show 2 < 1099511627776 by decide) (by omega) (by rw [hf2,List.length_append,List.length_append]; omega)
 rw [hf2] at hs2
 have hklt:leN (sha512 (toLE 32 (packP (mulP baseP (sigR sha512 seed msg))) ++pubB sha512 seed ++msg)) % LL < LL:=Nat.mod_lt _ (by decide)
 have hslt:secS sha512 seed < 256 ^ 32:=by
  rw [secS]
  have:leN ((sha512 seed).take 32) % 2 ^ 254 < 2 ^ 254:=Nat.mod_lt _ (by decide)
  omega
 have hM:=r_muladd (A:=toLE 32 (leN (sha512 (toLE 32 (packP (mulP baseP (sigR sha512 seed msg))) ++pubB sha512 seed ++msg)) % LL)) (B:=toLE 32 (secS sha512 seed)) (D:=toLE 32 (sigR sha512 seed msg)) (toLE_len _ _) (toLE_len _ _) (toLE_len _ _)
 rw [leN_toLE 32 _ (Nat.lt_trans hklt (by decide)),leN_toLE 32 _ hslt,hrn] at hM
 have hSl:=toLE_len 32 ((leN (sha512 (toLE 32 (packP (mulP baseP (sigR sha512 seed msg))) ++pubB sha512 seed ++msg)) % LL*secS sha512 seed+sigR sha512 seed msg) % LL)
 have hkl:=toLE_len 32 (leN (sha512 (toLE 32 (packP (mulP baseP (sigR sha512 seed msg))) ++pubB sha512 seed ++msg)) % LL)
 have hql:=toLE_len 32 (sigR sha512 seed msg)
 have k32:=keyC_32 seed
 have k0:=keyC_0 seed
 have k33:=keyC_33 seed
 have klen:=keyC_len seed
 have hsecl:=toLE_len 32 (secS sha512 seed)
 generalize toLE 32 ((leN (sha512 (toLE 32 (packP (mulP baseP (sigR sha512 seed msg))) ++pubB sha512 seed ++msg)) % LL*secS sha512 seed+sigR sha512 seed msg) % LL)=S at*
 generalize toLE 32 (leN (sha512 (toLE 32 (packP (mulP baseP (sigR sha512 seed msg))) ++pubB sha512 seed ++msg)) % LL)=kk at*
 generalize toLE 32 (packP (mulP baseP (sigR sha512 seed msg)))=R at*
 generalize toLE 32 (sigR sha512 seed msg)=q at*
 generalize toLE 32 (packP baseP)=G at*
 generalize toLE 32 (secS sha512 seed)=sec at*
 generalize (sha512 seed).drop 32=pre at*
 generalize pubB sha512 seed=A at*
 generalize keyL seed=K at*
 clear hf1 hf2 hklt hslt hrl hrn hR hsig
 have cl2:closedL [bsE pre,bsE msg]=true:=bs_closed [pre,msg]
 have er2:erL [bsE pre,bsE msg]= [bsE pre,bsE msg]:=bs_er [pre,msg]
 have er3:erL [AV.vsl ([R,A,msg].map bsE) none]= [AV.vsl ([R,A,msg].map bsE) none]:=by rw [erL_cons,er_vsl,bs_er,erL_nil]
 have hP1 (σ:Store) (h:look σ.m 0=some (.own [bsE pre,bsE msg])):callP ipU gU false (.fn 226 [] []) [.sl 0 0 2 1 (some 2)] σ=some (arrE q,σ):=
  callP_sl (off:=0) (n:=2) h (Nat.le_refl 2) cl2 rfl (by rw [List.drop_zero,List.take_of_length_le (Nat.le_refl 2),er2]) (by rw [List.drop_zero,List.take_of_length_le (Nat.le_refl 2)]; exact hs1) (by simp only [arrE,AV.flat,flat_u8])
 have hP2 (σ:Store) (h:look σ.m 3=some (.own [.sl 2 0 32 1 (some 32),bsE A,bsE msg])) (hc:look σ.m 2=some (.own (u8cells R))):callP ipU gU true (.fn 226 [] []) [.sl 3 0 3 1 (some 3)] σ=some (arrE kk,σ):=
  callP_any (by rw [mapO_one,rb_three h hc hRl]; rfl) er3 hs2 (by simp only [arrE,AV.flat,flat_u8])
 have hrow {σ:Store} (h:look σ.m 4=some (.own (u8cells S))):rowOf σ 1 (.sl 4 0 32 1 (some 32))=some (u8cells S):=by
  have hb:σ.cells 4=some (u8cells S):=by unfold Store.cells Store.get; rw [h]
  simp only [rowOf,if_true,hb]
  rw [if_pos (by rw [u8_len]; omega),List.drop_zero,List.take_of_length_le (by rw [u8_len]; omega)]
 have hrow2 {σ:Store} (h:look σ.m 2=some (.own (u8cells R))):rowOf σ 1 (.sl 2 0 32 1 (some 32))=some (u8cells R):=by
  have hb:σ.cells 2=some (u8cells R):=by unfold Store.cells Store.get; rw [h]
  simp only [rowOf,if_true,hb]
  rw [if_pos (by rw [u8_len]; omega),List.drop_zero,List.take_of_length_le (by rw [u8_len]; omega)]
 have happ {σ:Store} (h:look σ.m 2=some (.own (u8cells R))):appendTo σ 1 1 (.sl 2 0 32 1 (some 32)) (u8cells S) 32=some (.sl σ.next 0 64 1 none,σ.alloc (u8cells R ++u8cells S)):=by
  unfold appendTo
  simp only [lenOf,hrow2 h]
  rw [if_pos ⟨by decide,by decide,by decide,by rw [u8_len,hSl],one_u8 S⟩,if_neg (by decide),if_pos trivial]
 have hfin {σ:Store} {b:Nat} (h:look σ.m b=some (.own (u8cells R ++u8cells S))):rbE σ (.sl b 0 64 1 none)=some (bsE (R ++S)):=by
  rw [←u8_app] at h
  have hl64:(u8cells (R ++S)).length=64:=by rw [u8_len,List.length_append,hRl,hSl]
  have:=rb_sl1 (d:=23) (off:=0) (n:=64) (c:=none) h (by omega) (closed_u8 _) (notAgg_u8 _)
  rw [List.drop_zero,List.take_of_length_le (by omega)] at this
  unfold rbE
  rw [show rbDepth=23+1 from rfl,this,Option.map_some,er_vsl,er_u8]
 have hsv {σ:Store}:sliceAOf σ 32 1 (.vptr K 33) none none=some (bsE A):=sliceA_v hpl k33 (by omega)
 have hqc:(u8cells q).length=32:=by rw [u8_len,hql]
 have hqt:(u8cells q).take 32=u8cells q:=List.take_of_length_le (by omega)
 have hRc:(u8cells R).length=32:=by rw [u8_len,hRl]
 have hRt:(u8cells R).take 32=u8cells R:=List.take_of_length_le (by omega)
 have hSc:(u8cells S).length=32:=by rw [u8_len,hSl]
 have hSt:(u8cells S).take 32=u8cells S:=List.take_of_length_le (by omega)
 have hpo:(bsE pre).one=true:=rfl
 refine callR_of (F:=F312) rfl ?_
 simp only [arrE] at hP1 hP2 hB hT hM ⊢
 simp only [F312,EXA,seval,readAt_some,nilcOf,@sliceA_len,lenB,hsv,k32,k0,klen,cl2,er2,hP1,hP2,hB,hT,hM,hqc,hqt,hRc,hRt,hSc,hSt,closed_u8,er_u8,one_u8,hrow,happ,lenOf,Store.alloc]
 exact hfin rfl
theorem r_signer {seed:List UInt8} (hn:seed.length=32):cR 242 [bsE seed]=some (.fn 312 [.vptr (keyL seed) 0] []):=by
 have ho:=r_open (seed:=seed) (by omega)
 have hl:(u8cells seed).length=32:=by rw [u8_len,hn]
 have kc:=keyC_closed seed
 have ke:=keyC_er seed
 generalize keyL seed=K at*
 refine cR_of (F:=F242) rfl ?_
 simp only [bsE] at ho ⊢
 simp only [F242,EXA,seval,readAt_some,hl,closed_u8,er_u8,ho]
 try simp only [rbE_ok,AV.closed,closedL,kc,ke,er_fn,er_vptr,erL_cons,erL_nil,Bool.and_self]
theorem r_Sign {seed msg:List UInt8} (hn:seed.length=32) (hm:msg.length < 1099511000000):cR 199 [bsE seed,bsE msg]=some (.tup [bsE (sigB sha512 seed msg), .int .i64 0]):=by
 have hs:=r_signer hn
 have hg:=r_ksign (seed:=seed) hm
 have kc:=keyC_closed seed
 have ke:=keyC_er seed
 generalize keyL seed=K at*
 generalize sigB sha512 seed msg=g at*
 have e1:callP ipU gU false (.fn 312 [.vptr K 0] []) [bsE msg] ⟨0, []⟩=some (bsE g,⟨0, []⟩):=by
  have hfc:(AV.fn 312 [.vptr K 0] []).closed=true:=by simp only [AV.closed,closedL,kc,Bool.and_self]
  rw [callP_closed hfc (by simp only [closedL,AV.closed,closed_u8,Bool.and_self])]
  rw [er_fn,erL_cons,er_vptr,ke,erL_nil,erL_cons,er_vsl,er_u8,erL_nil,hg]; rfl
 have hnil:nilOf .fn (.fn 312 [.vptr K 0] [])=some false:=rfl
 refine cR_of (F:=F199) rfl ?_
 simp only [bsE] at hs e1 ⊢
 simp only [F199,EXA,seval,readAt_some,closed_u8,er_u8,hs,e1,hnil]
theorem r_clone {a:List UInt8} (h0:0 < a.length) (hn:a.length < 1099511627776):cR 245 [bsE a]=some (bsE a):=by
 have happ:appendTo ⟨0, []⟩ 1 1 (.vsl [] (some 0)) (u8cells a) a.length=some (.sl 0 0 a.length 1 none,⟨1, [(0, .own (u8cells a))]⟩):=by
  unfold appendTo
  have hr:rowOf ⟨0, []⟩ 1 (.vsl [] (some 0))=some []:=rfl
  simp only [lenOf,hr]
  rw [if_pos ⟨by decide,by decide,by unfold maxBytes; simp; omega,by rw [u8_len]; omega,one_u8 a⟩,if_neg (by omega)]
  simp [Store.alloc]
 have hfin:rbE ⟨1, [(0, .own (u8cells a))]⟩ (.sl 0 0 a.length 1 none)=some (bsE a):=by
  have:=rb_sl1 (σ:=⟨1, [(0, .own (u8cells a))]⟩) (d:=23) (b:=0) (off:=0) (n:=a.length) (c:=none) (cs:=u8cells a) rfl (by rw [u8_len]; omega) (closed_u8 _) (notAgg_u8 _)
  rw [List.drop_zero,List.take_of_length_le (by rw [u8_len]; omega)] at this
  unfold rbE
  rw [show rbDepth=23+1 from rfl,this,Option.map_some,er_vsl,er_u8]
 have hnil:nilOf .sl (.vsl (u8cells a) none)=some false:=by
  cases a with
  | nil=>simp at h0
  | cons x a=>rfl
 refine cR_of (F:=F245) rfl ?_
 simp only [bsE] at hfin ⊢
 simp only [F245,EXA,seval,readAt_some,hnil,lenOf,row_u8,u8_len,happ,hfin]
theorem r_Public {seed:List UInt8} (hn:seed.length=32):cR 201 [bsE seed]=some (.tup [bsE (pubB sha512 seed), .int .i64 0]):=by
 have ho:=r_open (seed:=seed) (by omega)
 have hl:(u8cells seed).length=32:=by rw [u8_len,hn]
 have k33:=keyC_33 seed
 have klen:=keyC_len seed
 have hpl:(pubB sha512 seed).length=32:=toLE_len _ _
 have hc:=r_clone (a:=pubB sha512 seed) (by omega) (by omega)
 have hsv {σ:Store}:sliceAOf σ 32 1 (.vptr (keyL seed) 33) none none=some (bsE (pubB sha512 seed)):=sliceA_v hpl k33 (by omega)
 generalize keyL seed=K at*
 generalize pubB sha512 seed=A at*
 refine cR_of (F:=F201) rfl ?_
 simp only [bsE] at ho hc hsv ⊢
 simp only [F201,EXA,seval,readAt_some,nilcOf,hl,closed_u8,er_u8,ho,hsv,hc]
end Go.Ab
namespace Go.Ab
set_option maxHeartbeats 1000000
def T7Fb:= @F43.eq_1
def T7Fc:=J @F49_5.eq_1 (J @F49_17.eq_1 (J @F49_18.eq_1 (J @F49_25.eq_1 (J @F49_37.eq_1 (J @F49_38.eq_1 (@F49.eq_1))))))
def T7Fd:=J @F49_5.eq_1 (J @F49_17.eq_1 (J @F49_25.eq_1 (J @F49_37.eq_1 (@F49.eq_1))))
set_option maxRecDepth 100000
mutual
def V.dep:V→Nat
 | .mk k _ _ l m=>if k=4 then depL l+1 else if k=5 then depM m+1 else 0
def depL:List V→Nat
 | []=>0
 | v ::r=>max v.dep (depL r)
def depM:List (Bs×V)→Nat
 | []=>0
 | (_,v) ::r=>max v.dep (depM r)
end
theorem V.dep_eq (v:V):v.dep=if v.kind=4 then depL v.l+1 else if v.kind=5 then depM v.m+1 else 0:=by cases v; rw [V.dep]; rfl
theorem depM_cons (x:Mem) (r:List Mem):depM (x ::r)=max x.2.dep (depM r):=by
 obtain ⟨k,v⟩:=x; rw [depM]
mutual
theorem V.dep_le: ∀v:V,v.dep≤v.sz
 | .mk k n s l m=>by
  have h1:=depL_le l
  have h2:=depM_le m
  simp only [V.dep,V.sz]
  split
  ·omega
  ·split <;> omega
theorem depL_le: ∀l:List V,depL l≤szL l
 | []=>by simp [depL]
 | v ::r=>by have:=V.dep_le v; have:=depL_le r; simp only [depL,szL]; omega
theorem depM_le: ∀l:List (Bs×V),depM l≤szM l
 | []=>by simp [depM]
 | (k,v) ::r=>by have:=V.dep_le v; have:=depM_le r; simp only [depM,szM]; omega
end
theorem max2N' (a b:Nat):(if (a:Int) < (b:Int) then (b:Int) else (a:Int))=((max a b:Nat):Int):=by
 split <;> omega
theorem r_depN: ∀(n:Nat) (v:V),v.sz < n→v.sz < big→cR 49 [v.enc]=some (.int .i64 (v.dep:Nat)):=by
 intro n
 induction n with
 | zero=>intro v h; omega
 | succ n ih=>
  intro v h hb
  have hsz:=v.sz_eq
  have hl:=szL_len v.l
  have hm:=szM_len v.m
  have hdl:=depL_le v.l
  have hdm:=depM_le v.m
  unfold big at hb
  have ihL: ∀x∈v.l,cR 49 [x.enc]=some (.int .i64 (x.dep:Nat)):=fun x hx=>by
   have:=szL_mem hx
   exact ih x (by omega) (by unfold big; omega)
  have ihM: ∀x∈v.m,cR 49 [x.2.enc]=some (.int .i64 (x.2.dep:Nat)):=fun x hx=>by
   have:=szM_mem hx
   exact ih x.2 (by omega) (by unfold big; omega)
  refine cR_of (F:=F49) rfl ?_
  rw [V.dep_eq]
  by_cases h4:v.kind=4
  ·have q4:(v.kind == 4)=true:=by simp [h4]
   simp only [T7Fd,ex_loop,EXA,Nat.reduceEqDiff,reduceIte,reduceCtorEq,Nat.reduceAdd,Nat.reduceLeDiff,Nat.reduceSub,Nat.reduceMul,Int.reduceEq,Int.reduceBEq,Int.reduceBNe,Int.reduceLT,Int.reduceLE,Nat.reduceLT,VX,readAt_some,q4,h4]
   refine ex_whileI (S:=Nat×Nat) (fun p=> [(3, .int .i64 (p.2:Int)),(13, .vsl (v.l.map V.enc) none),(14, .int .i64 v.l.length),(15, .int .i64 (p.1:Int))]) (fun p=>v.l.length - p.1) (fun p _=>max p.2 (depL (v.l.drop p.1))=depL v.l) ?_ (0,0) _ (by simp)
   rintro b ⟨j,a⟩ σ hj ih2
   simp only at hj ih2 ⊢
   by_cases hlt:j < v.l.length
   ·obtain ⟨x,hx⟩:=get_lt hlt
    have hidx:=idx_map (f:=V.enc) (sz:=5) (c:=none) hx (by simp [V.enc_cells])
    have hcond:=dlt hlt
    have hcall:=ihL x (List.mem_of_getElem? hx)
    rw [drop_cons hx,depL] at hj
    simp only [T7Fc,EXA,Nat.reduceEqDiff,reduceIte,reduceCtorEq,Nat.reduceAdd,Nat.reduceLeDiff,Nat.reduceSub,Nat.reduceMul,Int.reduceEq,Int.reduceBEq,Int.reduceBNe,Int.reduceLT,Int.reduceLE,Nat.reduceLT,VX,readAt_some,hcond,hidx,hcall,max2N']
    exact ih2 (j+1,max a x.dep) _ _ (by simp; omega) (by simp only; omega) (by rw [wsucc hlt (by omega)]; simp only [EXA,Nat.reduceEqDiff,reduceIte,reduceCtorEq,Nat.reduceAdd,Nat.reduceLeDiff,Nat.reduceSub,Nat.reduceMul,Int.reduceEq,Int.reduceBEq,Int.reduceBNe,Int.reduceLT,Int.reduceLE,Nat.reduceLT])
   ·have hcond:=dge (Nat.not_lt.1 hlt)
    rw [List.drop_eq_nil_of_le (by omega),depL] at hj
    have hw:=wsucc (j:=a) (n:=szL v.l+1) (by omega) (by omega)
    simp only [T7Fc,EXA,Nat.reduceEqDiff,reduceIte,reduceCtorEq,Nat.reduceAdd,Nat.reduceLeDiff,Nat.reduceSub,Nat.reduceMul,Int.reduceEq,Int.reduceBEq,Int.reduceBNe,Int.reduceLT,Int.reduceLE,Nat.reduceLT,VX,hcond,hw]
    rw [show a=depL v.l by omega]
  ·have q4:(v.kind == 4)=false:=by simp [h4]
   by_cases h5:v.kind=5
   ·have q5:(v.kind == 5)=true:=by simp [h5]
    simp only [T7Fd,ex_loop,EXA,Nat.reduceEqDiff,reduceIte,reduceCtorEq,Nat.reduceAdd,Nat.reduceLeDiff,Nat.reduceSub,Nat.reduceMul,Int.reduceEq,Int.reduceBEq,Int.reduceBNe,Int.reduceLT,Int.reduceLE,Nat.reduceLT,VX,readAt_some,q4,q5,h4,h5]
    refine ex_whileI (S:=Nat×Nat) (fun p=> [(3, .int .i64 (p.2:Int)),(27, .vsl (v.m.map memE) none),(28, .int .i64 v.m.length),(29, .int .i64 (p.1:Int))]) (fun p=>v.m.length - p.1) (fun p _=>max p.2 (depM (v.m.drop p.1))=depM v.m) ?_ (0,0) _ (by simp)
    rintro b ⟨j,a⟩ σ hj ih2
    simp only at hj ih2 ⊢
    by_cases hlt:j < v.m.length
    ·obtain ⟨x,hx⟩:=get_lt hlt
     have hidx:=idx_map (f:=memE) (sz:=6) (c:=none) hx (by simp [memE_cells])
     have hcond:=dlt hlt
     have hcall:=ihM x (List.mem_of_getElem? hx)
     rw [drop_cons hx,depM_cons] at hj
     simp only [T7Fc,EXA,Nat.reduceEqDiff,reduceIte,reduceCtorEq,Nat.reduceAdd,Nat.reduceLeDiff,Nat.reduceSub,Nat.reduceMul,Int.reduceEq,Int.reduceBEq,Int.reduceBNe,Int.reduceLT,Int.reduceLE,Nat.reduceLT,VX,readAt_some,hcond,hidx,hcall,max2N']
     exact ih2 (j+1,max a x.2.dep) _ _ (by simp; omega) (by simp only; omega) (by rw [wsucc hlt (by omega)]; simp only [EXA,Nat.reduceEqDiff,reduceIte,reduceCtorEq,Nat.reduceAdd,Nat.reduceLeDiff,Nat.reduceSub,Nat.reduceMul,Int.reduceEq,Int.reduceBEq,Int.reduceBNe,Int.reduceLT,Int.reduceLE,Nat.reduceLT])
    ·have hcond:=dge (Nat.not_lt.1 hlt)
     rw [List.drop_eq_nil_of_le (by omega),depM] at hj
     have hw:=wsucc (j:=a) (n:=szM v.m+1) (by omega) (by omega)
     simp only [T7Fc,EXA,Nat.reduceEqDiff,reduceIte,reduceCtorEq,Nat.reduceAdd,Nat.reduceLeDiff,Nat.reduceSub,Nat.reduceMul,Int.reduceEq,Int.reduceBEq,Int.reduceBNe,Int.reduceLT,Int.reduceLE,Nat.reduceLT,VX,hcond,hw]
     rw [show a=depM v.m by omega]
   ·have q5:(v.kind == 5)=false:=by simp [h5]
    simp only [T7Fd,EXA,Nat.reduceEqDiff,reduceIte,reduceCtorEq,Nat.reduceAdd,Nat.reduceLeDiff,Nat.reduceSub,Nat.reduceMul,Int.reduceEq,Int.reduceBEq,Int.reduceBNe,Int.reduceLT,Int.reduceLE,Nat.reduceLT,VX,readAt_some,q4,q5,h4,h5]
    rfl
theorem r_dep (v:V) (hb:v.sz < big):cR 49 [v.enc]=some (.int .i64 (v.dep:Nat)):=r_depN (v.sz+1) v (Nat.lt_succ_self _) hb
def V.good (v:V):Bool:=v.fine && decide (v.dep≤50)
theorem r_good (v:V) (hb:v.sz < big):cR 25 [v.enc]=some (.bool v.good):=by
 have h1:decide ((v.dep:Int)≤50)=decide (v.dep≤50):=by rw [decide_eq_decide]; omega
 refine cR_of (F:=F25) rfl ?_
 simp only [F25,EXA,Nat.reduceEqDiff,reduceIte,reduceCtorEq,Nat.reduceAdd,Nat.reduceLeDiff,Nat.reduceSub,Nat.reduceMul,Int.reduceEq,Int.reduceBEq,Int.reduceBNe,Int.reduceLT,Int.reduceLE,Nat.reduceLT,VX,readAt_some,r_fine v hb,r_dep v hb,h1,V.good]
 repeat' split
 all_goals simp_all
def V.zero:V:=V.mk 0 0 [] [] []
def said (v:V):V:=if v.good && v.kind == 5 then v else V.zero
theorem r_said (v:V) (hb:v.sz < big):cR 43 [v.enc]=some (said v).enc:=by
 refine cR_of (F:=F43) rfl ?_
 cases hg:v.good
 ·simp only [T7Fb,EXA,Nat.reduceEqDiff,reduceIte,reduceCtorEq,Nat.reduceAdd,Nat.reduceLeDiff,Nat.reduceSub,Nat.reduceMul,Int.reduceEq,Int.reduceBEq,Int.reduceBNe,Int.reduceLT,Int.reduceLE,Nat.reduceLT,VX,readAt_some,r_good v hb,hg,said,V.zero,Bool.false_and]
 ·by_cases h5:v.kind=5
  ·have q:(v.kind != 5)=false:=by simp [h5]
   have q2:(v.kind == 5)=true:=by simp [h5]
   simp only [T7Fb,EXA,Nat.reduceEqDiff,reduceIte,reduceCtorEq,Nat.reduceAdd,Nat.reduceLeDiff,Nat.reduceSub,Nat.reduceMul,Int.reduceEq,Int.reduceBEq,Int.reduceBNe,Int.reduceLT,Int.reduceLE,Nat.reduceLT,VX,readAt_some,r_good v hb,hg,said,V.zero,q,q2]
  ·have q:(v.kind != 5)=true:=by simp [h5]
   have q2:(v.kind == 5)=false:=by simp [h5]
   simp only [T7Fb,EXA,Nat.reduceEqDiff,reduceIte,reduceCtorEq,Nat.reduceAdd,Nat.reduceLeDiff,Nat.reduceSub,Nat.reduceMul,Int.reduceEq,Int.reduceBEq,Int.reduceBNe,Int.reduceLT,Int.reduceLE,Nat.reduceLT,VX,readAt_some,r_good v hb,hg,said,V.zero,q,q2]
end Go.Ab
namespace Go.Ab
set_option maxHeartbeats 1000000
def T8Fa:= @F46.eq_1
def T8Fb:= @F63.eq_1
def T8Fc:= @F74.eq_1
def T8Fd:=J @F83_6.eq_1 (J @F83_17.eq_1 (J @F83_18.eq_1 (@F83.eq_1)))
set_option maxRecDepth 100000
theorem bl_irrefl: ∀a:Bs,bytesLess a a=false
 | []=>rfl
 | x ::r=>by simp [bytesLess,bl_irrefl r]
theorem bl_total: ∀ {a b:Bs},bytesLess a b=false→bytesLess b a=false→a=b
 | [], [],_,_=>rfl
 | [],_ ::_,h,_=>by simp [bytesLess] at h
 | _ ::_, [],_,h=>by simp [bytesLess] at h
 | x ::r,y ::s,h,h2=>by
  simp only [bytesLess,Bool.or_eq_false_iff,decide_eq_false_iff_not,Bool.and_eq_false_iff,beq_eq_false_iff_ne] at h h2
  have hxy:x=y:=UInt8.le_antisymm (UInt8.not_lt.1 h2.1) (UInt8.not_lt.1 h.1)
  subst hxy
  have h3:bytesLess r s=false:=by rcases h.2 with h | h; exact absurd rfl h; exact h
  have h4:bytesLess s r=false:=by rcases h2.2 with h | h; exact absurd rfl h; exact h
  rw [bl_total h3 h4]
theorem keyC_lt (a b:Bs):decide (keyC a b < 0)=bytesLess a b:=by
 unfold keyC
 cases h:bytesLess a b <;> cases h2:bytesLess b a <;> simp
theorem keyC_eq (a b:Bs):(keyC a b == 0)=(a == b):=by
 unfold keyC
 cases h:bytesLess a b
 ·cases h2:bytesLess b a
  ·rw [bl_total h h2]; simp
  ·have:a≠b:=by rintro rfl; rw [bl_irrefl] at h2; simp at h2
   simp [this]
 ·have:a≠b:=by rintro rfl; rw [bl_irrefl] at h; simp at h
  simp [this]
def keyAt (m:List Mem) (i:Nat):Bs:=match m[i]? with
 | some x=>x.1
 | none=> []
def bsF (m:List Mem) (k:Bs) (i j:Nat):Nat:=
 if i < j then (if bytesLess (keyAt m ((i+j) / 2)) k=true then bsF m k ((i+j) / 2+1) j else bsF m k i ((i+j) / 2)) else i
termination_by j - i
decreasing_by all_goals omega
theorem u64n {n:Nat} (h:n < 9223372036854775808):IntKind.wrap .u64 (n:Int)=(n:Int):=by
 simp [IntKind.wrap,IntKind.bits,IntKind.signed]; omega
theorem i64n {n:Nat} (h:n < 9223372036854775808):IntKind.wrap .i64 (n:Int)=(n:Int):=by
 simp [IntKind.wrap,IntKind.bits,IntKind.signed]; omega
theorem shr1 (n:Nat):shiftInt .shr .u64 (n:Int) 1=some (.int .u64 ((n / 2:Nat):Int)):=by
 have:Int.fdiv (n:Int) 2=((n / 2:Nat):Int):=by
  rw [Int.fdiv_eq_ediv_of_nonneg _ (by omega)]; omega
 simp [shiftInt,IntKind.bits,this]
theorem r_bsearch (m:List Mem) (k:Bs) (x:V) (hb:m.length < big) :
  cR 83 [.vsl (m.map memE) none,memE (k,x), .fn 40 [] []]=some (.tup [.int .i64 (bsF m k 0 m.length:Nat), .bool (decide (bsF m k 0 m.length < m.length) && (keyAt m (bsF m k 0 m.length) == k))]):=by
 unfold big at hb
 refine cR_of (F:=F83) rfl ?_
 simp only [F83_6,F83_17,F83,ex_loop,EXA,Nat.reduceEqDiff,reduceIte,reduceCtorEq,Nat.reduceAdd,Nat.reduceLeDiff,Nat.reduceSub,Nat.reduceMul,Int.reduceEq,Int.reduceBEq,Int.reduceBNe,Int.reduceLT,Int.reduceLE,Nat.reduceLT,VX,readAt_some]
 have hQ: ∀(i j:Nat) (σ:Store),i≤j→j≤m.length→bsF m k i j=bsF m k 0 m.length→True:=fun _ _ _ _ _ _=>trivial
 refine ex_while (S:=Nat×Nat) (fun p=> [(0, .vsl (m.map memE) none),(2, .fn 40 [] []),(4, .vptr [.str k, .int .i64 x.kind, .int .i64 x.n, .str x.s, .vsl (x.l.map V.enc) none, .vsl (x.m.map memE) none] 0),(8, .int .i64 m.length),(9, .int .i64 (p.1:Int)),(10, .int .i64 (p.2:Int))]) (fun _=> .empty) (fun p=>p.2 - p.1)
  (fun p=>bsF m k p.1 p.2=bsF m k 0 m.length∧p.1≤p.2∧p.2≤m.length) ?_ (0,m.length) ⟨rfl,by simp,by simp⟩
 rintro b ⟨i,j⟩ ⟨h1,h2,h3⟩ ih
 simp only at h1 h2 h3 ih ⊢
 by_cases hlt:i < j
 ·have hc:=dlt hlt
  obtain ⟨c,hcdef⟩ : ∃c,c=(i+j) / 2:=⟨_,rfl⟩
  have hcm:c < m.length:=by omega
  obtain ⟨y,hy⟩:=get_lt hcm
  have hidx:=idx_map (f:=memE) (sz:=6) (c:=none) hy (by simp [memE_cells])
  have w1:=wadd (a:=i) (b:=j) (by omega)
  have w2:=u64n (n:=i+j) (by omega)
  have w3:=i64n (n:=c) (by omega)
  have w4:=shr1 (i+j)
  rw [←hcdef] at w4
  have hk:=r_key y (k,x)
  have hkey:keyAt m c=y.1:=by simp [keyAt,hy]
  have hstep:=h1
  rw [bsF,if_pos hlt,←hcdef,hkey] at hstep
  cases hl:bytesLess y.1 k
  ·rw [hl,if_neg (by simp)] at hstep
   simp only [T8Fd,EXA,Nat.reduceEqDiff,reduceIte,reduceCtorEq,Nat.reduceAdd,Nat.reduceLeDiff,Nat.reduceSub,Nat.reduceMul,Int.reduceEq,Int.reduceBEq,Int.reduceBNe,Int.reduceLT,Int.reduceLE,Nat.reduceLT,VX,readAt_some,hc,w1,w2,w3,w4,hidx,hk,keyC_lt,hl]
   exact ih (i,c) _ _ (by simp; omega) ⟨hstep,by simp; omega,by simp; omega⟩ (by simp only [EXA,Nat.reduceEqDiff,reduceIte,reduceCtorEq,Nat.reduceAdd,Nat.reduceLeDiff,Nat.reduceSub,Nat.reduceMul,Int.reduceEq,Int.reduceBEq,Int.reduceBNe,Int.reduceLT,Int.reduceLE,Nat.reduceLT]) rfl
  ·rw [hl,if_pos rfl] at hstep
   have w5:=wsucc hcm (by omega)
   simp only [T8Fd,EXA,Nat.reduceEqDiff,reduceIte,reduceCtorEq,Nat.reduceAdd,Nat.reduceLeDiff,Nat.reduceSub,Nat.reduceMul,Int.reduceEq,Int.reduceBEq,Int.reduceBNe,Int.reduceLT,Int.reduceLE,Nat.reduceLT,VX,readAt_some,hc,w1,w2,w3,w4,hidx,hk,keyC_lt,hl,w5]
   exact ih (c+1,j) _ _ (by simp; omega) ⟨hstep,by simp; omega,by simp; omega⟩ (by simp only [EXA,Nat.reduceEqDiff,reduceIte,reduceCtorEq,Nat.reduceAdd,Nat.reduceLeDiff,Nat.reduceSub,Nat.reduceMul,Int.reduceEq,Int.reduceBEq,Int.reduceBNe,Int.reduceLT,Int.reduceLE,Nat.reduceLT]) rfl
 ·have hc:=dge (Nat.not_lt.1 hlt)
  have hi:bsF m k 0 m.length=i:=by rw [←h1,bsF,if_neg hlt]
  rw [hi]
  by_cases him:i < m.length
  ·obtain ⟨y,hy⟩:=get_lt him
   have hidx:=idx_map (f:=memE) (sz:=6) (c:=none) hy (by simp [memE_cells])
   have hk:=r_key y (k,x)
   have hc2:=dlt him
   have hkey:keyAt m i=y.1:=by simp [keyAt,hy]
   simp only [T8Fd,EXA,Nat.reduceEqDiff,reduceIte,reduceCtorEq,Nat.reduceAdd,Nat.reduceLeDiff,Nat.reduceSub,Nat.reduceMul,Int.reduceEq,Int.reduceBEq,Int.reduceBNe,Int.reduceLT,Int.reduceLE,Nat.reduceLT,VX,readAt_some,hc,hc2,hidx,hk,keyC_eq,hkey,him]
  ·have hc2:=dge (Nat.not_lt.1 him)
   simp only [T8Fd,EXA,Nat.reduceEqDiff,reduceIte,reduceCtorEq,Nat.reduceAdd,Nat.reduceLeDiff,Nat.reduceSub,Nat.reduceMul,Int.reduceEq,Int.reduceBEq,Int.reduceBNe,Int.reduceLT,Int.reduceLE,Nat.reduceLT,VX,readAt_some,hc,hc2,him,Bool.false_and]
def placeV (v:V) (k:Bs):Nat×Bool:=if v.kind=5 then (bsF v.m k 0 v.m.length,decide (bsF v.m k 0 v.m.length < v.m.length) && (keyAt v.m (bsF v.m k 0 v.m.length) == k)) else (0,false)
theorem r_place (v:V) (k:Bs) (hb:v.m.length < big):cR 74 [v.enc, .str k]=some (.tup [.int .i64 ((placeV v k).1:Nat), .bool (placeV v k).2]):=by
 refine cR_of (F:=F74) rfl ?_
 by_cases h5:v.kind=5
 ·have q:(v.kind != 5)=false:=by simp [h5]
  simp only [T8Fc,EXA,Nat.reduceEqDiff,reduceIte,reduceCtorEq,Nat.reduceAdd,Nat.reduceLeDiff,Nat.reduceSub,Nat.reduceMul,Int.reduceEq,Int.reduceBEq,Int.reduceBNe,Int.reduceLT,Int.reduceLE,Nat.reduceLT,VX,readAt_some,q,r_bsearch _ _ _ hb,placeV,h5]
 ·have q:(v.kind != 5)=true:=by simp [h5]
  simp only [T8Fc,EXA,Nat.reduceEqDiff,reduceIte,reduceCtorEq,Nat.reduceAdd,Nat.reduceLeDiff,Nat.reduceSub,Nat.reduceMul,Int.reduceEq,Int.reduceBEq,Int.reduceBNe,Int.reduceLT,Int.reduceLE,Nat.reduceLT,VX,readAt_some,q,placeV,h5]
  rfl
def getV (v:V) (k:Bs):V×Bool:=match (placeV v k).2,v.m[(placeV v k).1]? with
 | true,some x=>(x.2,true)
 | _,_=>(V.zero,false)
theorem r_Get (v:V) (k:Bs) (hb:v.m.length < big):cR 63 [v.enc, .str k]=some (.tup [(getV v k).1.enc, .bool (getV v k).2]):=by
 refine cR_of (F:=F63) rfl ?_
 have hp:=r_place v k hb
 cases hk:(placeV v k).2
 ·rw [hk] at hp
  simp only [T8Fb,EXA,Nat.reduceEqDiff,reduceIte,reduceCtorEq,Nat.reduceAdd,Nat.reduceLeDiff,Nat.reduceSub,Nat.reduceMul,Int.reduceEq,Int.reduceBEq,Int.reduceBNe,Int.reduceLT,Int.reduceLE,Nat.reduceLT,VX,readAt_some,hp,getV,hk,V.zero]
 ·have hlt:(placeV v k).1 < v.m.length:=by
   unfold placeV at hk ⊢
   split at hk
   ·rename_i h5; simp only [Bool.and_eq_true,decide_eq_true_eq] at hk; rw [if_pos h5]; exact hk.1
   ·simp at hk
  obtain ⟨x,hx⟩:=get_lt hlt
  have hidx:=idx_map (f:=memE) (sz:=6) (c:=none) hx (by simp [memE_cells])
  rw [hk] at hp
  simp only [T8Fb,EXA,Nat.reduceEqDiff,reduceIte,reduceCtorEq,Nat.reduceAdd,Nat.reduceLeDiff,Nat.reduceSub,Nat.reduceMul,Int.reduceEq,Int.reduceBEq,Int.reduceBNe,Int.reduceLT,Int.reduceLE,Nat.reduceLT,VX,readAt_some,hp,hidx,getV,hk,hx]
def textAt (v:V) (k:Bs):Bs×Bool:=if (getV v k).2 && (getV v k).1.kind == 3 then ((getV v k).1.s,true) else ([],false)
theorem r_TextAt (v:V) (k:Bs) (hb:v.m.length < big):cR 46 [v.enc, .str k]=some (.tup [.str (textAt v k).1, .bool (textAt v k).2]):=by
 refine cR_of (F:=F46) rfl ?_
 have hp:=r_Get v k hb
 unfold textAt
 generalize getV v k=g at hp
 obtain ⟨x,ok⟩:=g
 simp only at hp ⊢
 cases ok
 ·simp only [T8Fa,EXA,Nat.reduceEqDiff,reduceIte,reduceCtorEq,Nat.reduceAdd,Nat.reduceLeDiff,Nat.reduceSub,Nat.reduceMul,Int.reduceEq,Int.reduceBEq,Int.reduceBNe,Int.reduceLT,Int.reduceLE,Nat.reduceLT,VX,readAt_some,hp,Bool.false_and]
 ·by_cases h3:x.kind=3
  ·have q:(x.kind != 3)=false:=by simp [h3]
   have q2:(x.kind == 3)=true:=by simp [h3]
   simp only [T8Fa,EXA,Nat.reduceEqDiff,reduceIte,reduceCtorEq,Nat.reduceAdd,Nat.reduceLeDiff,Nat.reduceSub,Nat.reduceMul,Int.reduceEq,Int.reduceBEq,Int.reduceBNe,Int.reduceLT,Int.reduceLE,Nat.reduceLT,VX,readAt_some,hp,q,q2]
  ·have q:(x.kind != 3)=true:=by simp [h3]
   have q2:(x.kind == 3)=false:=by simp [h3]
   simp only [T8Fa,EXA,Nat.reduceEqDiff,reduceIte,reduceCtorEq,Nat.reduceAdd,Nat.reduceLeDiff,Nat.reduceSub,Nat.reduceMul,Int.reduceEq,Int.reduceBEq,Int.reduceBNe,Int.reduceLT,Int.reduceLE,Nat.reduceLT,VX,readAt_some,hp,q,q2]
end Go.Ab
namespace Go.Ab
set_option maxHeartbeats 1000000
def T9Fa:=J @F101_35.eq_1 (J @F101_103.eq_1 (@F101.eq_1))
def T9Ff:= @F68.eq_1
def T9Fh:=J @F76_2.eq_1 (J @F76_19.eq_1 (J @F76_20.eq_1 (@F76.eq_1)))
def T9Fl:= @F93.eq_1
def T9Fm:=J @F94_2.eq_1 (J @F94_19.eq_1 (J @F94_20.eq_1 (@F94.eq_1)))
set_option maxRecDepth 100000
theorem u8back (c:UInt8):((c.toNat:Int).toNat).toUInt8=c:=by simp
theorem r_ib (s:Bs) (c:UInt8):cR 107 [.str s, .int .u8 c.toNat]=some (.int .i64 (firstByte s c)):=by
 refine cR_of (F:=F107) rfl ?_
 simp only [F107,EXA,seval,u8back]
theorem r_ib2 (s:Bs) (c:UInt8):cR 102 [.str s, .int .u8 c.toNat]=some (.int .i64 (firstByte s c)):=by
 refine cR_of (F:=F102) rfl ?_
 simp only [F102,EXA,seval,r_ib]
theorem firstByte_none {s:Bs} {c:UInt8} (h:s.findIdx? (fun b=>b == c)=none):firstByte s c= -1:=by
 unfold firstByte; rw [h]
theorem firstByte_some {s:Bs} {c:UInt8} {i:Nat} (h:s.findIdx? (fun b=>b == c)=some i):firstByte s c=(i:Int):=by
 unfold firstByte; rw [h]
theorem firstByte_ge (s:Bs) (c:UInt8):decide (firstByte s c≥0)=s.contains c:=by
 cases h:s.findIdx? (fun b=>b == c) with
 | none=>
  rw [firstByte_none h]
  have:=List.findIdx?_eq_none_iff.1 h
  have h2:s.contains c=false:=by
   rw [←Bool.not_eq_true,List.contains_iff_mem]
   intro hm
   have:=this c hm
   simp at this
  rw [h2]; rfl
 | some i=>
  rw [firstByte_some h]
  obtain ⟨h1,h2,_⟩:=List.findIdx?_eq_some_iff_getElem.1 h
  have h3:s.contains c=true:=by
   rw [List.contains_iff_mem]
   have:s[i]=c:=by simpa using h2
   rw [←this]; exact List.getElem_mem h1
  rw [h3]; simp
theorem r_index1 (s:Bs) (c:UInt8):cR 101 [.str s, .str [c]]=some (.int .i64 (firstByte s c)):=by
 refine cR_of (F:=F101) rfl ?_
 have h0:(((1:Nat):Int) == 0)=false:=rfl
 have h1:(((1:Nat):Int) == 1)=true:=rfl
 have hb:byteAt (.str [c]) (.int .i64 0)=some (.int .u8 c.toNat):=rfl
 by_cases hs: [c]=s
 ·subst hs
  have e:firstByte [c] c=0:=by simp [firstByte,List.findIdx?_cons]
  have hs':([c] == [c])=true:=by simp
  simp only [T9Fa,EXA,seval,h0,hs',e]
 ·have hs':([c] == s)=false:=by simp [hs]
  simp only [T9Fa,EXA,seval,h0,h1,hs',hb,r_ib]
def cutB (s:Bs) (c:UInt8):Bs×Bs×Bool:=match s.findIdx? (fun b=>b == c) with
 | some i=>(s.take i,s.drop (i+1),true)
 | none=>(s, [],false)
theorem r_cut1 (s:Bs) (c:UInt8) (hb:s.length < big):cR 93 [.str s, .str [c]]=some (.tup [.str (cutB s c).1, .str (cutB s c).2.1, .bool (cutB s c).2.2]):=by
 unfold big at hb
 refine cR_of (F:=F93) rfl ?_
 cases h:s.findIdx? (fun b=>b == c) with
 | none=>
  have e:=firstByte_none h
  have q:decide ((-1:Int)≥0)=false:=rfl
  simp only [T9Fl,EXA,seval,r_index1,e,q,cutB,h]
 | some i=>
  have e:=firstByte_some h
  obtain ⟨h1,h2,_⟩:=List.findIdx?_eq_some_iff_getElem.1 h
  have q:decide ((i:Int)≥0)=true:=by simp
  have b1:sliceSOf (.str s) (some none) (some (some (i:Int)))=some (.str (s.take i)):=by
   have h3:((i:Int)≤s.length):=by omega
   simp [sliceSOf,bounds,h3]
  have w:=wsucc (j:=i) (n:=s.length) h1 (by omega)
  have b2:sliceSOf (.str s) (some (some ((i+1:Nat):Int))) (some none)=some (.str (s.drop (i+1))):=by
   have:=sliceS_lo (s:=s) (i:=((i+1:Nat):Int)) (by omega) (by omega)
   simpa using this
  have w':IntKind.wrap .i64 ((i:Int)+((1:Nat):Int))=((i+1:Nat):Int):=w
  simp only [T9Fl,EXA,seval,r_index1,e,q,cutB,h,b1,w,w',b2]
theorem r_cut (s:Bs) (c:UInt8) (hb:s.length < big):cR 75 [.str s, .str [c]]=some (.tup [.str (cutB s c).1, .str (cutB s c).2.1, .bool (cutB s c).2.2]):=by
 refine cR_of (F:=F75) rfl ?_
 simp only [F75,EXA,seval,r_cut1 s c hb]
theorem cutB_len (s:Bs) (c:UInt8):(cutB s c).1.length≤s.length∧(cutB s c).2.1.length≤s.length:=by
 unfold cutB
 split
 ·simp; omega
 ·simp
def setB (set:Bs) (c:UInt8):Bool:=set.contains c
theorem r_setHas (set:Bs) (c:UInt8):cR 95 [.str set, .int .u8 c.toNat]=some (.bool (setB set c)):=by
 refine cR_of (F:=F95) rfl ?_
 simp only [F95,EXA,seval,r_ib2,firstByte_ge,setB]
def shownB (c:UInt8):Bool:=decide (33≤c) && (decide (c≤126) && c != 58)
theorem g33 (c:UInt8):decide ((c.toNat:Int)≥33)=decide (33≤c):=by rw [decide_eq_decide,UInt8.le_iff_toNat_le]; simp; omega
theorem l126 (c:UInt8):decide ((c.toNat:Int)≤126)=decide (c≤126):=by rw [decide_eq_decide,UInt8.le_iff_toNat_le]; simp; omega
theorem n58 (c:UInt8):((c.toNat:Int) != 58)=(c != 58):=
 u8_all (P:=fun c=>((c.toNat:Int) != 58)=(c != 58)) (by decide+kernel) c
theorem r_shownHas (c:UInt8):cR 77 [.agg [], .int .u8 c.toNat]=some (.bool (shownB c)):=by
 refine cR_of (F:=F77) rfl ?_
 simp only [F77,EXA,seval,g33,l126,n58,shownB]
 cases decide (33≤c) <;> cases decide (c≤126) <;> rfl
def allB (p:UInt8→Bool) (n:Nat) (s:Bs):Bool:=s.all p && (decide (0 < s.length) && decide (s.length≤n))
theorem byte_get {s:Bs} {j:Nat} {c:UInt8} (h:s[j]? =some c):byteAt (.str s) (.int .i64 (j:Int))=some (.int .u8 c.toNat):=by
 simp [byteAt,h]
theorem lpos (n:Nat):decide (0 < (n:Int))=decide (0 < n):=by rw [decide_eq_decide]; omega
theorem lleN (a b:Nat):decide ((a:Int)≤(b:Int))=decide (a≤b):=by rw [decide_eq_decide]; omega
theorem r_allSet (s set:Bs) (n:Nat) (hb:s.length < big):cR 94 [.str s, .int .i64 (n:Int), .str set, .fn 95 [] []]=some (.bool (allB (setB set) n s)):=by
 unfold big at hb
 refine cR_of (F:=F94) rfl ?_
 simp only [F94_2,F94_19,F94,ex_loop,EXA,seval]
 refine ex_while (S:=Nat) (fun j=> [(0, .str s),(1, .int .i64 (n:Int)),(2, .str set),(3, .fn 95 [] []),(11, .int .i64 s.length),(12, .int .i64 (j:Int))]) (fun _=> .empty) (fun j=>s.length - j) (fun j=>(s.drop j).all (setB set)=s.all (setB set)) ?_ 0 rfl
 intro b j hj ih
 by_cases hlt:j < s.length
 ·obtain ⟨c,hc⟩:=get_lt hlt
  have hcond:=dlt hlt
  have hbyte:=byte_get hc
  rw [drop_cons hc,List.all_cons] at hj
  cases hp:setB set c
  ·simp only [T9Fm,EXA,seval,hcond,hbyte,r_setHas,hp,allB]
   rw [hp] at hj
   rw [←hj]; rfl
  ·simp only [T9Fm,EXA,seval,hcond,hbyte,r_setHas,hp]
   exact ih (j+1) _ _ (by omega) (by rw [←hj,hp]; rfl) (by rw [wsucc hlt (by omega)]; simp only [EXA,seval]) rfl
 ·have hcond:=dge (Nat.not_lt.1 hlt)
  rw [List.drop_eq_nil_of_le (by omega)] at hj
  simp only [T9Fm,EXA,seval,hcond,lpos,lleN,allB,←hj]
  by_cases h0:0 < s.length
  ·simp [h0]
  ·simp [h0]
theorem r_allShown (s:Bs) (n:Nat) (hb:s.length < big):cR 76 [.str s, .int .i64 (n:Int), .agg [], .fn 77 [] []]=some (.bool (allB shownB n s)):=by
 unfold big at hb
 refine cR_of (F:=F76) rfl ?_
 simp only [F76_2,F76_19,F76,ex_loop,EXA,seval]
 refine ex_while (S:=Nat) (fun j=> [(0, .str s),(1, .int .i64 (n:Int)),(3, .fn 77 [] []),(6, .vptr [] 0),(11, .int .i64 s.length),(12, .int .i64 (j:Int))]) (fun _=> .empty) (fun j=>s.length - j) (fun j=>(s.drop j).all shownB=s.all shownB) ?_ 0 rfl
 intro b j hj ih
 by_cases hlt:j < s.length
 ·obtain ⟨c,hc⟩:=get_lt hlt
  have hcond:=dlt hlt
  have hbyte:=byte_get hc
  have hr:readAt [] 0 (some 0)=some (.agg []):=rfl
  rw [drop_cons hc,List.all_cons] at hj
  cases hp:shownB c
  ·simp only [T9Fh,EXA,seval,hcond,hbyte,r_shownHas,hp,allB,hr]
   rw [hp] at hj
   rw [←hj]; rfl
  ·simp only [T9Fh,EXA,seval,hcond,hbyte,r_shownHas,hp,hr]
   exact ih (j+1) _ _ (by omega) (by rw [←hj,hp]; rfl) (by rw [wsucc hlt (by omega)]; simp only [EXA,seval]) rfl
 ·have hcond:=dge (Nat.not_lt.1 hlt)
  rw [List.drop_eq_nil_of_le (by omega)] at hj
  simp only [T9Fh,EXA,seval,hcond,lpos,lleN,allB,←hj]
  by_cases h0:0 < s.length
  ·simp [h0]
  ·simp [h0]
def digitsS:Bs:= [48,49,50,51,52,53,54,55,56,57]
def lettersS:Bs:= [97,98,99,100,101,102,103,104,105,106,107,108,109,110,111,112,113,114,115,116,117,118,119,120,121,122,65,66,67,68,69,70,71,72,73,74,75,76,77,78,79,80,81,82,83,84,85,86,87,88,89,90,48,49,50,51,52,53,54,55,56,57,46,45]
def serverB (s:Bs):Bool:=(!((cutB s 58).2.2 && !allB (setB digitsS) 5 (cutB s 58).2.1)) && (decide (s.length≤255) && allB (setB lettersS) 255 (cutB s 58).1)
theorem l255 (n:Nat):decide ((n:Int)≤255)=decide (n≤255):=by rw [decide_eq_decide]; omega
theorem r_server (s:Bs) (hb:s.length < big):cR 78 [.str s]=some (.bool (serverB s)):=by
 have hc:=r_cut s 58 hb
 obtain ⟨c1,c2⟩:=cutB_len s 58
 unfold serverB
 generalize cutB s 58=c at hc c1 c2 ⊢
 obtain ⟨name,port,ok⟩:=c
 simp only at hc c1 c2 ⊢
 have a1:cR 94 [.str port, .int .i64 5, .str digitsS, .fn 95 [] []]=_:=r_allSet port digitsS 5 (by omega)
 have a2:cR 94 [.str name, .int .i64 255, .str lettersS, .fn 95 [] []]=_:=r_allSet name lettersS 255 (by omega)
 generalize allB (setB digitsS) 5 port=A at a1 ⊢
 generalize allB (setB lettersS) 255 name=B at a2 ⊢
 simp only [digitsS,lettersS] at a1 a2
 refine cR_of (F:=F78) rfl ?_
 simp only [F78,EXA,seval,hc,a1,a2,l255]
 generalize decide (s.length≤255)=L
 cases ok <;> cases A <;> cases L <;> rfl
def partsB (s:Bs) (sign:UInt8):Bs×Bs×Bool:=match s with
 | []=>([], [],false)
 | a ::r=>if a=sign∧s.length≤255∧(cutB r 58).2.2=true∧allB shownB 255 (cutB r 58).1=true∧serverB (cutB r 58).2.1=true then ((cutB r 58).1,(cutB r 58).2.1,true) else ([], [],false)
theorem ne8 (a b:UInt8):((a.toNat:Int) != (b.toNat:Int))=(a != b):=by
 by_cases h:a=b
 ·subst h; simp
 ·have:(a.toNat:Int)≠(b.toNat:Int):=fun h'=>h (UInt8.toNat_inj.1 (by omega))
  rw [bne_iff_ne.2 this,bne_iff_ne.2 h]
theorem r_parts (s:Bs) (sign:UInt8) (hb:s.length < big):cR 68 [.str s, .int .u8 sign.toNat]=some (.tup [.str (partsB s sign).1, .str (partsB s sign).2.1, .bool (partsB s sign).2.2]):=by
 refine cR_of (F:=F68) rfl ?_
 cases s with
 | nil=>
  have q:(([] :Bs) == [])=true:=rfl
  simp only [T9Ff,EXA,seval,q,partsB]
 | cons a r=>
  have q:((a ::r) == [])=false:=rfl
  have ha:byteAt (.str (a ::r)) (.int .i64 0)=some (.int .u8 a.toNat):=rfl
  have hs:sliceSOf (.str (a ::r)) (some (some 1)) (some none)=some (.str r):=sliceS_lo (s:=a ::r) (i:=1) (by omega) (by simp; omega)
  simp only [List.length_cons] at hb
  have hc:=r_cut r 58 (by omega)
  obtain ⟨c1,c2⟩:=cutB_len r 58
  simp only [partsB]
  generalize cutB r 58=c at hc c1 c2 ⊢
  obtain ⟨loc,srv,ok⟩:=c
  simp only at hc c1 c2 ⊢
  have a1:cR 76 [.str loc, .int .i64 255, .agg [], .fn 77 [] []]=_:=r_allShown loc 255 (by omega)
  have a2:=r_server srv (by omega)
  have hl:decide (255 < ((r.length+1:Nat):Int))=decide (255 < r.length+1):=by rw [decide_eq_decide]; omega
  by_cases hsg:a=sign
  ·have q1:(a != sign)=false:=by simp [hsg]
   by_cases hlen:255 < r.length+1
   ·have hl':decide (255 < r.length+1)=true:=by simp [hlen]
    have hn: ¬(r.length+1≤255):=by omega
    simp only [T9Ff,EXA,seval,q,ha,ne8,q1,hl,hl',List.length_cons,hn,false_and,and_false]
   ·have hl':decide (255 < r.length+1)=false:=by simp [hlen]
    have hn:r.length+1≤255:=by omega
    cases ok
    ·simp only [T9Ff,EXA,seval,q,ha,ne8,q1,hl,hl',hs,hc,false_and,and_false]
    ·cases hA:allB shownB 255 loc
     ·rw [hA] at a1
      simp only [T9Ff,EXA,seval,q,ha,ne8,q1,hl,hl',hs,hc,a1,hA,false_and,and_false]
     ·rw [hA] at a1
      cases hB:serverB srv
      ·rw [hB] at a2
       simp only [T9Ff,EXA,seval,q,ha,ne8,q1,hl,hl',hs,hc,a1,a2,hA,hB,false_and,and_false]
      ·rw [hB] at a2
       have hsgT:(a=sign)=True:=eq_true hsg
       simp only [T9Ff,EXA,seval,q,ha,ne8,q1,hl,hl',hs,hc,a1,a2,hA,hB,hn,hsgT,List.length_cons]
  ·have q1:(a != sign)=true:=by simp [hsg]
   simp only [T9Ff,EXA,seval,q,ha,ne8,q1,hsg,false_and]
theorem r_Room (s:Bs) (hb:s.length < big):cR 62 [.str s]=some (.tup [.str (partsB s 33).1, .str (partsB s 33).2.1, .bool (partsB s 33).2.2]):=by
 have h:cR 68 [.str s, .int .u8 33]=_:=r_parts s 33 hb
 refine cR_of (F:=F62) rfl ?_
 simp only [F62,EXA,seval,h]
theorem r_User (s:Bs) (hb:s.length < big):cR 55 [.str s]=some (.tup [.str (partsB s 64).1, .str (partsB s 64).2.1, .bool (partsB s 64).2.2]):=by
 have h:cR 68 [.str s, .int .u8 64]=_:=r_parts s 64 hb
 refine cR_of (F:=F55) rfl ?_
 simp only [F55,EXA,seval,h]
end Go.Ab
namespace Go.Ab
set_option maxHeartbeats 1000000
set_option maxRecDepth 100000
def isU8 (x:Option AV) (n:Nat):Bool:=match x with | some (.int .u8 m)=>m == (n:Int) | _=>false
theorem isU8_eq {x:Option AV} {n:Nat} (h:isU8 x n=true):x=some (.int .u8 n):=by
 unfold isU8 at h
 split at h
 ·rw [eq_of_beq h]
 ·cases h
theorem wsucc8 {j:Nat} (h:j < 64):IntKind.wrap .u8 ((j:Int)+1)=((j+1:Nat):Int):=by
 simp [IntKind.wrap,IntKind.bits,IntKind.signed]; omega
end Go.Ab
namespace Go.Ab
set_option maxHeartbeats 1000000
def G4Fb:=J @F243_4.eq_1 (J @F243_11.eq_1 (J @F243_17.eq_1 (J @F243_18.eq_1 (J @F243_31.eq_1 (J @F243_32.eq_1 (@F243.eq_1))))))
def G4Fc:=J @F243_4.eq_1 (J @F243_11.eq_1 (J @F243_17.eq_1 (J @F243_31.eq_1 (J @F243_32.eq_1 (@F243.eq_1)))))
set_option maxRecDepth 100000
def sgS (j:Nat):Nat:=if j < 26 then 65+j else if j < 52 then 71+j else if j < 62 then j - 4 else if j=62 then 43 else 47
def aStd:AV:= .agg [.int .u8 43, .int .u8 47]
theorem sgS_lt {j:Nat} (h:j < 64):sgS j < 256:=by unfold sgS; split <;> (try split) <;> (try split) <;> (try split) <;> omega
theorem signS_all:((List.range 64).all fun j=>isU8 ((scall ipU (run ipU gU 300) (.fn 167 [aStd] []) [.int .u8 j] .empty).bind (fun x=>rbE x.2 x.1)) (sgS j))=true:=by kernel_rfl
theorem callR_closed {f:AV} {args:List AV} {r:AV} (n:Nat) (h:(scall ipU (run ipU gU n) f args .empty).bind (fun x=>rbE x.2 x.1)=some r):callR ipU gU f args=some r:=by
 rw [Option.bind_eq_some_iff] at h
 obtain ⟨x,h1,h2⟩:=h
 unfold callR
 rw [callS_some.2 ⟨n,h1⟩]
 exact h2
theorem callS64 {j:Nat} (h:j < 64) {σ:Store}:callP ipU gU false (.fn 167 [aStd] []) [.int .u8 (j:Int)] σ=some (.int .u8 ((UInt8.ofNat (sgS j)).toNat:Int),σ):=by
 have hg:callR ipU gU (.fn 167 [aStd] []) [.int .u8 (j:Int)]=some (.int .u8 (sgS j)):=callR_closed 300 (isU8_eq (List.all_eq_true.1 signS_all j (List.mem_range.2 h)))
 rw [callP_closed rfl rfl,show (AV.fn 167 [aStd] []).er= .fn 167 [aStd] [] from by simp only [er_fn,erL_cons,erL_nil,aStd,er_agg,er_int],show erL [AV.int .u8 (j:Int)]= [.int .u8 j] from by simp only [erL_cons,er_int,erL_nil],hg,UInt8.toNat_ofNat',Nat.mod_eq_of_lt (show sgS j < 2 ^ 8 from sgS_lt h)]; rfl
def sx:Nat→Nat→List UInt8→List Nat
 | nb,c, []=>if nb=0 then [] else [c*2 ^ (6 - nb) % 64]
 | nb,c,b ::l=>
  if nb=4 then (c*256+b.toNat) / 64 % 64 ::(c*256+b.toNat) % 64 ::sx 0 0 l
  else if nb=2 then (c*256+b.toNat) / 16 % 64 ::sx 4 ((c*256+b.toNat) % 16) l
  else (c*256+b.toNat) / 4 % 64 ::sx 2 ((c*256+b.toNat) % 4) l
def sgB (j:Nat):UInt8:=UInt8.ofNat (sgS j)
def putS (s:List UInt8):List UInt8:=(sx 0 0 s).map sgB
theorem w_and63 (n:Nat):IntKind.wrap .u8 ((BitVec.ofInt (IntKind.bits .u8) (IntKind.wrap .u8 (n:Int)) &&& BitVec.ofInt (IntKind.bits .u8) 63).toNat:Int)=((n % 64:Nat):Int):=by
 have key: ∀b:UInt8,IntKind.wrap .u8 ((BitVec.ofInt (IntKind.bits .u8) (b.toNat:Int) &&& BitVec.ofInt (IntKind.bits .u8) 63).toNat:Int)=((b.toNat % 64:Nat):Int):=fun b=>
  eq_of_beq (byte_all (p:=fun b=>IntKind.wrap .u8 ((BitVec.ofInt (IntKind.bits .u8) (b.toNat:Int) &&& BitVec.ofInt (IntKind.bits .u8) 63).toNat:Int) == ((b.toNat % 64:Nat):Int)) (by kernel_rfl) b)
 have h:=key (UInt8.ofNat n)
 rw [UInt8.toNat_ofNat'] at h
 have e:IntKind.wrap .u8 (n:Int)=((n % 2 ^ 8:Nat):Int):=wrap8 n
 rw [e,h]
 congr 1; omega
theorem acc_next (acc:UInt64) (b:UInt8):(acc <<< 8 ||| b.toUInt64).toNat=acc.toNat*256 % 18446744073709551616+b.toNat:=by
 have hb:=b.toNat_lt
 rw [UInt64.toNat_or,UInt64.toNat_shiftLeft,show (8:UInt64).toNat % 64=8 from rfl,Nat.shiftLeft_eq,show b.toUInt64.toNat=b.toNat from rfl]
 have e1:acc.toNat*2 ^ 8 % 2 ^ 64=(acc.toNat % 2 ^ 56) <<< 8:=by rw [Nat.shiftLeft_eq]; omega
 rw [e1,←Nat.shiftLeft_add_eq_or_of_lt (by omega),Nat.shiftLeft_eq]
 try omega
theorem bytes_u8: ∀s:List UInt8,bytesOf (u8cells s)=some s
 | []=>rfl
 | b ::s=>by
  have hb:=b.toNat_lt
  have e:u8cells (b ::s)= .int .u8 (b.toNat:Int) ::u8cells s:=rfl
  have h2:(0:Int)≤(b.toNat:Int)∧(b.toNat:Int) < 256:=by omega
  rw [e]
  simp only [bytesOf,bytes_u8 s,if_pos h2,Int.toNat_natCast,UInt8.ofNat_toNat]
theorem row_one {σ:Store} {x:Int} {c:Option Nat}:rowOf σ 1 (.vsl [.int .u8 x] c)=some [.int .u8 x]:=rfl
def PutI (s fin:List UInt8) (q:Nat×Nat×Nat×UInt64×List UInt8×Option Nat) (σ:Store):Prop:=
 OwnSl σ 1 q.2.2.2.2.2 q.2.2.2.2.1.length (u8cells q.2.2.2.2.1)∧q.1≤s.length∧(q.2.1=0∨q.2.1=2∨q.2.1=4)∧q.2.2.2.1.toNat % 2 ^ q.2.1=q.2.2.1∧
 q.2.2.2.2.1 ++(sx q.2.1 q.2.2.1 (s.drop q.1)).map sgB=fin∧q.2.2.2.2.1.length≤2*q.1
def putF (s:List UInt8) (q:Nat×Nat×Nat×UInt64×List UInt8×Option Nat):Fr:= [(1, .fn 167 [aStd] []),(5,slOf 1 q.2.2.2.2.2 q.2.2.2.2.1.length),(6,U q.2.2.2.1),(7, .int .u64 (q.2.1:Int)),(10, .vsl (u8cells s) none),(11, .int .i64 s.length),(12, .int .i64 (q.1:Int))]
theorem own_push1 {σ:Store} {ob:Option Nat} {out:List UInt8} {c:UInt8} (h:OwnSl σ 1 ob out.length (u8cells out)) (hm:out.length < 2199023255552) :
  ∃σ',appendTo σ 1 1 (slOf 1 ob out.length) [.int .u8 (c.toNat:Int)] 1=some (slOf 1 (some σ.next) (out ++ [c]).length,σ')∧OwnSl σ' 1 (some σ.next) (out ++ [c]).length (u8cells (out ++ [c])):=by
 obtain ⟨σ',h1,h2,_,_⟩:=append_own (bytes:=1) (k:=1) (new:= [.int .u8 (c.toNat:Int)]) h (by decide) (by decide) (by unfold maxBytes; omega) rfl rfl (by decide)
 refine ⟨σ',by rw [List.length_append]; exact h1,?_⟩
 rw [List.length_append,u8_app]; exact h2
theorem r_put243 (s:List UInt8) (hn:s.length < 549755813888):cR 243 [bsE s, .fn 167 [aStd] []]=some (.str (putS s)):=by
 have hlen:=u8_len s
 refine cR_of (F:=F243) rfl ?_
 simp only [F243_4,F243_11,F243_17,F243_31,F243,EXA,seval,ex_loop,bsE,hlen]
 refine ex_whileI (S:=Nat×Nat×Nat×UInt64×List UInt8×Option Nat) (putF s) (fun q=>s.length - q.1)
  (PutI s (putS s)) ?_ (0,0,0,0, [],none) _ ⟨⟨rfl,rfl⟩,Nat.zero_le _, .inl rfl,rfl,rfl,Nat.zero_le _⟩
 rintro B ⟨i,nb,c,acc,out,ob⟩ σ1 ⟨g1,g2,g3,g4,g5,g6⟩ ih
 simp only at g1 g2 g3 g4 g5 g6
 unfold putF
 simp only
 by_cases hi:i=s.length
 ·subst hi
  have gt:decide ((s.length:Int) < (s.length:Int))=false:=decide_eq_false (by omega)
  rw [List.drop_length,sx] at g5
  have hfin {σ:Store} {ob:Option Nat} {o:List UInt8} (h:OwnSl σ 1 ob o.length (u8cells o)):strOfRow (rowOf σ 1 (slOf 1 ob o.length))=some (.str o):=by
   cases ob with
   | none=>
    have h0:o= []:=List.eq_nil_of_length_eq_zero h.1
    subst h0; rfl
   | some b=>
    obtain ⟨k1,k2,k3,k4⟩:=h
    have hb:σ.cells b=some (u8cells o):=by unfold Store.cells; rw [k1]
    simp only [rowOf,slOf,if_true,hb]
    rw [if_pos (by rw [u8_len]; omega),List.drop_zero,List.take_of_length_le (by rw [u8_len]; omega)]
    simp only [strOfRow,bytes_u8,Option.map_some]
  rcases g3 with rfl | rfl | rfl
  ·rw [if_pos rfl,List.map_nil,List.append_nil] at g5
   have h1:=hfin g1
   rw [g5] at h1
   rw [g5]
   simp only [G4Fc,EXA,seval,readAt_some,gt,h1]
  ·rw [if_neg (by decide)] at g5
   have sh:shiftInt .shl .u64 (acc.toNat:Int) 4=some (U (acc <<< 4)):=sh_l acc 4 (by decide)
   have hv:(acc <<< 4).toNat % 64=c*2 ^ (6 - 2) % 64:=by
    rw [UInt64.toNat_shiftLeft,show (4:UInt64).toNat % 64=4 from rfl,Nat.shiftLeft_eq]
    omega
   have hcall:= @callS64 (c*2 ^ (6 - 2) % 64) (Nat.mod_lt _ (by decide))
   obtain ⟨σ2,a1,a2⟩:=own_push1 (c:=sgB (c*2 ^ (6 - 2) % 64)) g1 (by omega)
   have h1:=hfin a2
   rw [show out ++ [sgB (c*2 ^ (6 - 2) % 64)]=putS s from g5] at h1 a1
   have hl:=congrArg List.length (show out ++ [sgB (c*2 ^ (6 - 2) % 64)]=putS s from g5)
   generalize c*2 ^ (6 - 2) % 64=w at*
   simp only [sgB] at a1
   simp only [U] at sh
   simp only [G4Fc,EXA,seval,readAt_some,U,gt,@wrap_u,sh,w_and63,hv,hcall,lenOf,row_one,a1,h1]
  ·rw [if_neg (by decide)] at g5
   have sh:shiftInt .shl .u64 (acc.toNat:Int) 2=some (U (acc <<< 2)):=sh_l acc 2 (by decide)
   have hv:(acc <<< 2).toNat % 64=c*2 ^ (6 - 4) % 64:=by
    rw [UInt64.toNat_shiftLeft,show (2:UInt64).toNat % 64=2 from rfl,Nat.shiftLeft_eq]
    omega
   have hcall:= @callS64 (c*2 ^ (6 - 4) % 64) (Nat.mod_lt _ (by decide))
   obtain ⟨σ2,a1,a2⟩:=own_push1 (c:=sgB (c*2 ^ (6 - 4) % 64)) g1 (by omega)
   have h1:=hfin a2
   rw [show out ++ [sgB (c*2 ^ (6 - 4) % 64)]=putS s from g5] at h1 a1
   generalize c*2 ^ (6 - 4) % 64=w at*
   simp only [sgB] at a1
   simp only [U] at sh
   simp only [G4Fc,EXA,seval,readAt_some,U,gt,@wrap_u,sh,w_and63,hv,hcall,lenOf,row_one,a1,h1]
 ·obtain ⟨b,hb⟩ : ∃b,s[i]? =some b:=⟨s[i]'(by omega),List.getElem?_eq_getElem (by omega)⟩
  have hdr:s.drop i=b ::s.drop (i+1):=by
   rw [List.drop_eq_getElem_cons (by omega),(List.getElem?_eq_some_iff.1 hb).2]
  rw [hdr,sx] at g5
  have hcm:(u8cells s)[i]? =some (.int .u8 (b.toNat:Int)):=by rw [u8cells,List.getElem?_map,hb]; rfl
  have hix:=idx_vsl (sz:=1) (c:=none) hcm rfl
  have hlt:decide ((i:Int) < (s.length:Int))=true:=decide_eq_true (by omega)
  have w1:IntKind.wrap .i64 ((i:Int)+1)=((i+1:Nat):Int):=by rw [wrap_i (by omega) (by omega)]; omega
  have sl8:shiftInt .shl .u64 (acc.toNat:Int) 8=some (U (acc <<< 8)):=sh_l acc 8 (by decide)
  have hacc:=acc_next acc b
  generalize hA:acc <<< 8 ||| b.toUInt64=A at*
  simp only [AV.cells] at hix
  simp only [U] at sl8
  rcases g3 with rfl | rfl | rfl
  ·have hsh:=wbyte A (k:=2) (by decide) (by decide)
   have hs6:A.toNat / 4 % 64=(c*256+b.toNat) / 4 % 64:=by
    show A.toNat / 4 % 64=_
    omega
   have hcall:= @callS64 ((c*256+b.toNat) / 4 % 64) (Nat.mod_lt _ (by decide))
   obtain ⟨σ2,a1,a2⟩:=own_push1 (c:=sgB ((c*256+b.toNat) / 4 % 64)) g1 (by omega)
   simp only [sgB] at a1
   simp only [G4Fb,EXA,seval,readAt_some,U,ex_loop,ex_inLoop,hlt,hix,w1,sl8,wrap_b,w_or,uI_nat,hA,@wrap_u,hsh,w_and63,hs6,hcall,lenOf,row_one,a1]
   refine ex_inLoop.1 (ih (i+1,2,(c*256+b.toNat) % 4,A,out ++ [sgB ((c*256+b.toNat) / 4 % 64)],some σ1.next) (putF s (i+1,2,(c*256+b.toNat) % 4,A,out ++ [sgB ((c*256+b.toNat) / 4 % 64)],some σ1.next)) _ (by show s.length - (i+1) < s.length - i; omega) ⟨a2,by show i+1≤s.length; omega, .inr (.inl rfl),?_,?_,?_⟩ rfl)
   ·show A.toNat % 2 ^ 2=(c*256+b.toNat) % 4
    omega
   ·rw [←g5]; simp
   ·show (out ++ [_]).length≤2*(i+1)
    rw [List.length_append]; simp; omega
  ·have hsh:=wbyte A (k:=4) (by decide) (by decide)
   have hs6:A.toNat / 16 % 64=(c*256+b.toNat) / 16 % 64:=by
    show A.toNat / 16 % 64=_
    omega
   have hcall:= @callS64 ((c*256+b.toNat) / 16 % 64) (Nat.mod_lt _ (by decide))
   obtain ⟨σ2,a1,a2⟩:=own_push1 (c:=sgB ((c*256+b.toNat) / 16 % 64)) g1 (by omega)
   simp only [sgB] at a1
   simp only [G4Fb,EXA,seval,readAt_some,U,ex_loop,ex_inLoop,hlt,hix,w1,sl8,wrap_b,w_or,uI_nat,hA,@wrap_u,hsh,w_and63,hs6,hcall,lenOf,row_one,a1]
   refine ex_inLoop.1 (ih (i+1,4,(c*256+b.toNat) % 16,A,out ++ [sgB ((c*256+b.toNat) / 16 % 64)],some σ1.next) (putF s (i+1,4,(c*256+b.toNat) % 16,A,out ++ [sgB ((c*256+b.toNat) / 16 % 64)],some σ1.next)) _ (by show s.length - (i+1) < s.length - i; omega) ⟨a2,by show i+1≤s.length; omega, .inr (.inr rfl),?_,?_,?_⟩ rfl)
   ·show A.toNat % 2 ^ 4=(c*256+b.toNat) % 16
    omega
   ·rw [←g5]; simp
   ·show (out ++ [_]).length≤2*(i+1)
    rw [List.length_append]; simp; omega
  ·have hsh:=wbyte A (k:=6) (by decide) (by decide)
   have hsh0:shiftInt .shr .u64 (A.toNat:Int) 0=some (.int .u64 (A.toNat:Int)):=by have:=wbyte A (k:=0) (by decide) (by decide); rwa [show A.toNat / 2 ^ (0:Int).toNat=A.toNat from Nat.div_one _] at this
   have hs6:A.toNat / 64 % 64=(c*256+b.toNat) / 64 % 64:=by
    show A.toNat / 64 % 64=_
    omega
   have hs0:A.toNat % 64=(c*256+b.toNat) % 64:=by
    omega
   have hcall:= @callS64 ((c*256+b.toNat) / 64 % 64) (Nat.mod_lt _ (by decide))
   have hcall2:= @callS64 ((c*256+b.toNat) % 64) (Nat.mod_lt _ (by decide))
   obtain ⟨σ2,a1,a2⟩:=own_push1 (c:=sgB ((c*256+b.toNat) / 64 % 64)) g1 (by omega)
   obtain ⟨σ3,a3,a4⟩:=own_push1 (c:=sgB ((c*256+b.toNat) % 64)) a2 (by rw [List.length_append]; simp; omega)
   simp only [sgB] at a1 a3
   simp only [G4Fb,EXA,seval,readAt_some,U,ex_loop,ex_inLoop,hlt,hix,w1,sl8,wrap_b,w_or,uI_nat,hA,@wrap_u,hsh,hsh0,w_and63,hs6,hs0,hcall,hcall2,lenOf,row_one,a1,a3]
   refine ex_inLoop.1 (ih (i+1,0,0,A,out ++ [sgB ((c*256+b.toNat) / 64 % 64)] ++ [sgB ((c*256+b.toNat) % 64)],some σ2.next) (putF s (i+1,0,0,A,out ++ [sgB ((c*256+b.toNat) / 64 % 64)] ++ [sgB ((c*256+b.toNat) % 64)],some σ2.next)) _ (by show s.length - (i+1) < s.length - i; omega) ⟨a4,by show i+1≤s.length; omega, .inl rfl,?_,?_,?_⟩ rfl)
   ·show A.toNat % 2 ^ 0=0
    omega
   ·rw [←g5]; simp
   ·show (out ++ [_] ++ [_]).length≤2*(i+1)
    rw [List.length_append,List.length_append]; simp; omega
theorem r_put (s:List UInt8) (hn:s.length < 549755813888):cR 200 [bsE s]=some (.str (putS s)):=by
 have h:=r_put243 s hn
 have hc:closedL [AV.int .u8 43, .int .u8 47]=true:=rfl
 refine cR_of (F:=F200) rfl ?_
 unfold aStd at h
 simp only [bsE] at h ⊢
 simp only [F200,EXA,seval,readAt_some,gU,u8s,closed_u8,er_u8,hc,AV.closed,closedL,er_fn,er_agg,h]
theorem sx_len: ∀(s:List UInt8) (nb c:Nat),(sx nb c s).length≤2*s.length+1
 | [],nb,c=>by unfold sx; split <;> simp
 | b ::s,nb,c=>by
  unfold sx
  split
  ·have:=sx_len s 0 0; simp only [List.length_cons]; omega
  ·split
   ·have:=sx_len s 4 ((c*256+b.toNat) % 16); simp only [List.length_cons]; omega
   ·have:=sx_len s 2 ((c*256+b.toNat) % 4); simp only [List.length_cons]; omega
theorem putS_len (s:List UInt8):(putS s).length≤2*s.length+1:=by rw [putS,List.length_map]; exact sx_len s 0 0
end Go.Ab
namespace Go.Ab
set_option maxHeartbeats 1000000
def V1Fa:=J @F224_19.eq_1 (J @F224_20.eq_1 (@F224.eq_1))
set_option maxRecDepth 100000
theorem str_u8 (σ:Store) (a:List UInt8) (c:Option Nat):strOfRow (rowOf σ 1 (.vsl (u8cells a) c))=some (.str a):=by
 have h:(u8cells a).all (fun e=>e.cells.length == 1)=true:=by
  rw [List.all_eq_true]
  intro x hx
  obtain ⟨y,_,rfl⟩:=List.mem_map.1 hx
  rfl
 simp only [rowOf,h,if_true,u8_cells,strOfRow,bytes_u8,Option.map_some]
theorem r_bEqual (a b:List UInt8):cR 231 [bsE a,bsE b]=some (.bool (a == b)):=by
 refine cR_of (F:=F231) rfl ?_
 simp only [bsE]
 simp only [F231,EXA,seval,VX,readAt_some,closed_u8,er_u8,str_u8]
theorem ver_len {pub msg sig:List UInt8} (h: ¬(pub.length=32∧sig.length=64∧leN (sig.drop 32) < LL)):verB sha512 pub msg sig=false:=by
 unfold verB
 by_cases h1:pub.length=32
 ·by_cases h2:sig.length=64
  ·have h3: ¬leN (sig.drop 32) < LL:=fun c=>h ⟨h1,h2,c⟩
   rw [decide_eq_false h3]; simp
  ·rw [beq_eq_false_iff_ne.2 h2]; simp
 ·rw [beq_eq_false_iff_ne.2 h1]; simp
theorem le_beq {n:Nat} {s:List UInt8} (hn:n < 256 ^ 32) (hs:s.length=32):(toLE 32 n == s)=(n == leN s):=by
 rw [Bool.eq_iff_iff,beq_iff_eq,beq_iff_eq]
 constructor
 ·intro h; rw [←h,leN_toLE _ _ hn]
 ·intro h; rw [h,←hs,toLE_leN]
def ownB:Option Blk→List AV
 | some (.own cs)=>cs
 | _=> []
theorem callP_eq {st:Bool} {σ:Store} {b:Nat} {v s:List UInt8} {c c':Option Nat} {res:Bool} (h:ownB (look σ.m b)=u8cells v) (hv:v.length=32) (hr:cR 231 [bsE v,bsE s]=some (.bool res)) :
  callP ipU gU st (.fn 231 [] []) [.sl b 0 32 1 c, .vsl (u8cells s) c'] σ=some (.bool res,σ):=by
 have hb:look σ.m b=some (.own (u8cells v)):=by
  unfold ownB at h
  split at h
  ·rename_i cs e; rw [e,h]
  ·have:(u8cells v).length=0:=by rw [←h]; rfl
   rw [u8_len] at this; omega
 have k1:rb σ rbDepth (.sl b 0 32 1 c)=some (bsE v):=by
  rw [show rbDepth=23+1 from rfl,rb_sl1 hb (by rw [u8_len]; omega) (closed_u8 _) (notAgg_u8 _),List.drop_zero,List.take_of_length_le (by rw [u8_len]; omega)]
 refine callP_flat (args':= [bsE v, .vsl (u8cells s) c']) rfl ?_ ?_ rfl
 ·simp only [mapO,k1,rb_closed' (show (AV.vsl (u8cells s) c').closed=true from by simp only [AV.closed,closed_u8])]
 ·rw [erL_cons,erL_cons,er_vsl,er_vsl,er_u8,er_u8,erL_nil]; exact hr
theorem r_Verify {pub msg sig:List UInt8} (hm:msg.length < 1099511000000):cR 224 [bsE pub,bsE msg,bsE sig]=some (.bool (verB sha512 pub msg sig)):=by
 have hpl:(u8cells pub).length=pub.length:=u8_len pub
 have hsl:(u8cells sig).length=sig.length:=u8_len sig
 by_cases hp:pub.length=32
 ·have hc:((pub.length:Int) != 32)=false:=by rw [hp]; rfl
  by_cases hs:sig.length=64
  ·have hd:((sig.length:Int) != 64)=false:=by rw [hs]; rfl
   have hf: ∀c,sliceOf 1 (.vsl (u8cells sig) c) (some 32) none none=some (.vsl (u8cells (sig.drop 32)) (c.map (· - 32))):=fun c=>by
    have:=slice_from (c:=c) (l:=32) (cs:=u8cells sig) (by omega) (one_u8 sig)
    rw [u8cells,←List.map_drop] at this
    exact this
   have ht: ∀c,sliceOf 1 (.vsl (u8cells sig) c) none (some 32) none=some (.vsl (u8cells (sig.take 32)) (c.map (· - 0))):=fun c=>by
    have:=slice_take (c:=c) (n:=32) (cs:=u8cells sig) (by omega)
    rw [u8cells,←List.map_take] at this
    exact this
   have hld:(sig.drop 32).length=32:=by rw [List.length_drop]; omega
   have hlt:(sig.take 32).length=32:=by rw [List.length_take]; omega
   have hg:=r_sgood hld
   by_cases hl:leN (sig.drop 32) < LL
   ·have hp32:32≤pub.length:=by omega
    have htp:(u8cells pub).take 32=u8cells pub:=List.take_of_length_le (by omega)
    have hlu:(u8cells (sig.drop 32)).length=32:=by rw [u8_len,hld]
    have htu:(u8cells (sig.drop 32)).take 32=u8cells (sig.drop 32):=List.take_of_length_le (by omega)
    rw [decide_eq_true hl] at hg
    have hfl:([sig.take 32,pub,msg] :List (List UInt8)).flatten=sig.take 32 ++pub ++msg:=by simp
    have hs1:=r_sumN (a:=sig.take 32) (rest:= [pub,msg]) (Nat.succ_pos _) (show 2 < 1099511627776 by decide) (by omega) (by rw [hfl,List.length_append,List.length_append]; omega)
    rw [hfl] at hs1
    simp only [List.map_cons,List.map_nil] at hs1
    have hv:verB sha512 pub msg sig=match openP (leN pub) with
     | none=>false
     | some a=>packP (addP (mulP baseP (leN (sig.drop 32))) (negP (mulP a (leN (sha512 (sig.take 32 ++pub ++msg)) % LL)))) == leN (sig.take 32):=by
     rw [verB,decide_eq_true hl,hp,hs]; rfl
    rw [hv]
    have e2: ∀n,leN (toLE 32 (n % LL))=n % LL:=fun n=>leN_toLE _ _ (Nat.lt_trans (Nat.mod_lt _ (by decide)) (by decide))
    have hT:=r_Times (toLE_len 32 (leN (sha512 (sig.take 32 ++pub ++msg)) % LL)) hp
    rw [e2] at hT
    have hlk:(u8cells (toLE 32 (leN (sha512 (sig.take 32 ++pub ++msg)) % LL))).length=32:=by rw [u8_len,toLE_len]
    have htk:(u8cells (toLE 32 (leN (sha512 (sig.take 32 ++pub ++msg)) % LL))).take 32=u8cells (toLE 32 (leN (sha512 (sig.take 32 ++pub ++msg)) % LL)):=List.take_of_length_le (by omega)
    have hB:=r_Base
    have hTB:=r_timesB hld
    generalize leN (sha512 (sig.take 32 ++pub ++msg)) % LL=kk at*
    have hon: ∀p,openP (leN pub)=some p→On p:=fun p=>open_on
    generalize openP (leN pub)=o at*
    generalize leN (sig.drop 32)=ss at*
    generalize toLE 32 kk=kb at*
    cases o with
    | none=>
     simp only [Option.map_none,ptE,List.replicate] at hT
     simp only [arrE] at hg hs1 hT
     refine cR_of (F:=F224) rfl ?_
     simp only [bsE] at hs1 ⊢
     simp only [F224_19,F224,EXA,seval,VX,readAt_some,u8_cells,closed_u8,er_u8,one_u8,hpl,hsl,hc,hd,hf,ht,hlu,htu,hp32,htp,hlk,htk,hg,hs1,hT]
    | some a=>
     have oa:=hon a rfl
     have oP:=on_mul oa kk
     have oB:=on_mul on_base ss
     simp only [Option.map_some,ptE] at hT
     have hN:=r_Neg (toLE_len 32 (packP (mulP a kk)))
     rw [pack_le,open_pack oP] at hN
     simp only [Option.map_some,ptE] at hN
     have hA:=r_Add (toLE_len 32 (packP (mulP baseP ss))) (toLE_len 32 (packP (negP (mulP a kk))))
     rw [pack_le,open_pack oB,pack_le,open_pack (on_neg oP)] at hA
     simp only [Option.bind_some,Option.map_some,ptE] at hA
     have hE:=r_bEqual (toLE 32 (packP (addP (mulP baseP ss) (negP (mulP a kk))))) (sig.take 32)
     rw [le_beq (by have:=pack_lt (addP (mulP baseP ss) (negP (mulP a kk))); omega) hlt] at hE
     show cR 224 [bsE pub,bsE msg,bsE sig]=some (.bool (packP (addP (mulP baseP ss) (negP (mulP a kk))) == leN (sig.take 32)))
     generalize (packP (addP (mulP baseP ss) (negP (mulP a kk))) == leN (sig.take 32))=res at*
     have L1:=toLE_len 32 (packP (mulP a kk))
     have L2:=toLE_len 32 (packP (negP (mulP a kk)))
     have L3:=toLE_len 32 (packP (mulP baseP ss))
     have L4:=toLE_len 32 (packP (addP (mulP baseP ss) (negP (mulP a kk))))
     have L5:=toLE_len 32 (packP baseP)
     generalize toLE 32 (packP (mulP a kk))=v1 at*
     generalize toLE 32 (packP (negP (mulP a kk)))=v2 at*
     generalize toLE 32 (packP (mulP baseP ss))=v3 at*
     generalize toLE 32 (packP (addP (mulP baseP ss) (negP (mulP a kk))))=v4 at*
     generalize toLE 32 (packP baseP)=v5 at*
     have u1:(u8cells v1).length=32:=by rw [u8_len,L1]
     have u2:(u8cells v2).length=32:=by rw [u8_len,L2]
     have u3:(u8cells v3).length=32:=by rw [u8_len,L3]
     have u4:(u8cells v4).length=32:=by rw [u8_len,L4]
     have u5:(u8cells v5).length=32:=by rw [u8_len,L5]
     have w1:(u8cells v1).take 32=u8cells v1:=List.take_of_length_le (by omega)
     have w2:(u8cells v2).take 32=u8cells v2:=List.take_of_length_le (by omega)
     have w3:(u8cells v3).take 32=u8cells v3:=List.take_of_length_le (by omega)
     have w4:(u8cells v4).take 32=u8cells v4:=List.take_of_length_le (by omega)
     have w5:(u8cells v5).take 32=u8cells v5:=List.take_of_length_le (by omega)
     simp only [arrE] at hg hs1 hT hN hA hB hTB
     refine cR_of (F:=F224) rfl ?_
     simp only [bsE] at hs1 hE ⊢
     simp only [V1Fa,EXA,seval,VX,readAt_some,u8_cells,closed_u8,er_u8,one_u8,hpl,hsl,hc,hd,hf,ht,hlu,htu,hp32,htp,hlk,htk,hg,hs1,hT,hN,hA,hB,hTB,@sliceA_len _ 4 32 (by decide),lenB,ownB,@callP_eq _ _ 4 v4 (sig.take 32) _ _ res,L4,hE,u1,u2,u3,u4,u5,w1,w2,w3,w4,w5]
   ·rw [ver_len (fun c=>hl c.2.2)]
    rw [decide_eq_false hl] at hg
    have hlu:(u8cells (sig.drop 32)).length=32:=by rw [u8_len,hld]
    have htu:(u8cells (sig.drop 32)).take 32=u8cells (sig.drop 32):=List.take_of_length_le (by omega)
    simp only [arrE] at hg
    refine cR_of (F:=F224) rfl ?_
    simp only [bsE]
    simp only [V1Fa,EXA,seval,VX,readAt_some,u8_cells,closed_u8,er_u8,hpl,hsl,hc,hd,hf,hlu,htu,hg]
  ·have hd:((sig.length:Int) != 64)=true:=by rw [bne_iff_ne]; omega
   rw [ver_len (fun c=>hs c.2.1)]
   refine cR_of (F:=F224) rfl ?_
   simp only [bsE]
   simp only [V1Fa,EXA,seval,VX,readAt_some,u8_cells,closed_u8,er_u8,hpl,hsl,hc,hd]
 ·have hc:((pub.length:Int) != 32)=true:=by rw [bne_iff_ne]; omega
  rw [ver_len (fun c=>hp c.1)]
  refine cR_of (F:=F224) rfl ?_
  simp only [bsE]
  simp only [V1Fa,EXA,seval,VX,readAt_some,u8_cells,closed_u8,er_u8,hpl,hsl,hc]
end Go.Ab
namespace Go.Ab
set_option maxHeartbeats 1000000
structure Lay (α:Type) where
 f:α→AV
 sz:Nat
 pos:0 < sz
 len: ∀a,(f a).cells.length=sz
 closed: ∀a,(f a).closed=true
 er: ∀a,(f a).er=f a
 one: ∀a,(f a).cells.all AV.one=true
 agg: ∀a,if sz=1 then (f a).cells= [f a] else ∃cs,f a= .agg cs
def Lay.cells {α:Type} (L:Lay α) (l:List α):List AV:=l.flatMap fun a=>(L.f a).cells
theorem Lay.cells_len {α:Type} (L:Lay α) (l:List α):(L.cells l).length=l.length*L.sz:=by
 unfold Lay.cells
 induction l with
 | nil=>simp
 | cons a l ih=>simp [L.len a,ih,Nat.add_mul]; omega
theorem Lay.cells_closed {α:Type} (L:Lay α) (l:List α):closedL (L.cells l)=true:=by
 unfold Lay.cells
 induction l with
 | nil=>rfl
 | cons a l ih=>
  rw [List.flatMap_cons]
  have h: ∀x y:List AV,closedL x=true→closedL y=true→closedL (x ++y)=true:=by
   intro x y
   induction x with
   | nil=>intro _ h; exact h
   | cons c x ihx=>intro h1 h2; simp only [closedL,Bool.and_eq_true,List.cons_append] at h1 ⊢; exact ⟨h1.1,ihx h1.2 h2⟩
  refine h _ _ ?_ ih
  have:=L.closed a
  cases hf:L.f a <;> simp_all [AV.cells,AV.closed,closedL]
theorem Lay.cells_one {α:Type} (L:Lay α) (l:List α):(L.cells l).all AV.one=true:=by
 unfold Lay.cells
 induction l with
 | nil=>rfl
 | cons a l ih=>simp only [List.flatMap_cons,List.all_append,L.one a,ih,Bool.and_self]
theorem one_notAgg {l:List AV} (h:l.all AV.one=true):l.all AV.notAgg=true:=by
 rw [List.all_eq_true] at h ⊢
 intro x hx
 have:=h x hx
 cases x <;> simp_all [AV.one,AV.notAgg]
theorem Lay.chunks {α:Type} (L:Lay α) (l:List α):chunks L.sz l.length (L.cells l)=l.map L.f:=by
 induction l with
 | nil=>rfl
 | cons a l ih=>
  have e:L.cells (a ::l)=(L.f a).cells ++L.cells l:=by simp [Lay.cells]
  simp only [List.length_cons,Go.Ab.chunks,e]
  have hd:((L.f a).cells ++L.cells l).drop L.sz=L.cells l:=by
   rw [List.drop_append_of_le_length (by rw [L.len]; exact Nat.le_refl _),List.drop_eq_nil_of_le (by rw [L.len]; exact Nat.le_refl _),List.nil_append]
  rw [hd,ih,List.map_cons]
  congr 1
  have ha:=L.agg a
  by_cases h1:L.sz=1
  ·rw [if_pos h1] at ha ⊢
   rw [ha]; rfl
  ·rw [if_neg h1] at ha ⊢
   obtain ⟨cs,hcs⟩:=ha
   have hl:=L.len a
   rw [hcs] at hl ⊢
   simp only [AV.cells] at hl ⊢
   rw [List.take_append_of_le_length (by omega),List.take_of_length_le (by omega)]
def Own {α:Type} (L:Lay α) (σ:Store) (ob:Option Nat) (l:List α):Prop:=OwnSl σ L.sz ob l.length (L.cells l)
theorem Own.nil {α:Type} (L:Lay α) (σ:Store):Own L σ none []:=⟨rfl,rfl⟩
theorem Lay.erMap {α:Type} (L:Lay α) (l:List α):erL (l.map L.f)=l.map L.f:=erL_mapId fun a _=>L.er a
theorem Own.rb {α:Type} {L:Lay α} {σ:Store} {ob:Option Nat} {l:List α} (h:Own L σ ob l): ∃v,rb σ rbDepth (slOf L.sz ob l.length)=some v∧v.er= .vsl (l.map L.f) none:=by
 have:=rb_own h L.pos (L.cells_closed l) (one_notAgg (L.cells_one l))
 refine ⟨_,this,?_⟩
 by_cases h0:l.length=0
 ·rw [if_pos h0,List.eq_nil_of_length_eq_zero h0]; simp only [AV.er]; rfl
 ·rw [if_neg h0,L.chunks]; simp only [AV.er,L.erMap]
theorem Own.rbE {α:Type} {L:Lay α} {σ:Store} {ob:Option Nat} {l:List α} (h:Own L σ ob l):rbE σ (slOf L.sz ob l.length)=some (.vsl (l.map L.f) none):=by
 obtain ⟨v,h1,h2⟩:=h.rb
 unfold Go.Ab.rbE
 rw [h1,Option.map_some,h2]
theorem Own.lenL {α:Type} {L:Lay α} {σ:Store} {ob:Option Nat} {l:List α} (h:Own L σ ob l):lenL (slOf L.sz ob l.length)=some (.int .i64 l.length):=lenL_slOf h
theorem Own.append {α:Type} {L:Lay α} {σ:Store} {ob:Option Nat} {l m:List α} {bytes:Nat} (h:Own L σ ob l) (hb:0 < bytes) (hm:(l.length+m.length)*bytes≤maxBytes) (hk:0 < m.length) :
  ∃σ',appendTo σ L.sz bytes (slOf L.sz ob l.length) (L.cells m) m.length=some (slOf L.sz (some σ.next) (l ++m).length,σ')∧Own L σ' (some σ.next) (l ++m)∧σ'.next=σ.next+1∧
   ∀b',b' < σ.next→ob≠some b'→σ'.get b'=σ.get b':=by
 obtain ⟨σ',h1,h2,h3,h4⟩:=append_own h L.pos hb hm (L.cells_len m) (L.cells_one m) hk
 refine ⟨σ',by rw [h1,List.length_append],?_,h3,h4⟩
 unfold Own
 rw [List.length_append]
 have:L.cells (l ++m)=L.cells l ++L.cells m:=by simp [Lay.cells]
 rw [this]
 exact h2
theorem Own.push {α:Type} {L:Lay α} {σ:Store} {ob:Option Nat} {l:List α} {a:α} {bytes:Nat} (h:Own L σ ob l) (hb:0 < bytes) (hm:(l.length+1)*bytes≤maxBytes) :
  ∃σ',appendTo σ L.sz bytes (slOf L.sz ob l.length) (L.f a).cells 1=some (slOf L.sz (some σ.next) (l ++ [a]).length,σ')∧Own L σ' (some σ.next) (l ++ [a])∧σ'.next=σ.next+1∧
   ∀b',b' < σ.next→ob≠some b'→σ'.get b'=σ.get b':=by
 have:=Own.append (m:= [a]) h hb (by simpa using hm) (by simp)
 simpa [Lay.cells] using this
theorem Own.frame {α:Type} {L:Lay α} {σ σ':Store} {b:Nat} {l:List α} (h:Own L σ (some b) l) (hg:σ'.get b=σ.get b) (hn:σ.next≤σ'.next):Own L σ' (some b) l:=by
 obtain ⟨h1,h2,h3,h4⟩:=h
 exact ⟨hg.trans h1,h2,by omega,h4⟩
theorem Own.alloc {α:Type} {L:Lay α} {σ:Store} {ob:Option Nat} {l:List α} (h:Own L σ ob l) (cs:List AV):Own L (σ.alloc cs) ob l:=by
 cases ob with
 | none=>exact h
 | some b=>exact h.frame (get_alloc h.2.2.1) (by simp [next_alloc])
theorem Own.set {α:Type} {L:Lay α} {σ:Store} {ob:Option Nat} {l:List α} {b:Nat} {x:Blk} (h:Own L σ ob l) (hb:ob≠some b):Own L (σ.set b x) ob l:=by
 cases ob with
 | none=>exact h
 | some b'=>exact h.frame (get_set (by rintro rfl; exact hb rfl)) (Nat.le_refl _)
theorem Own.lt {α:Type} {L:Lay α} {σ:Store} {b:Nat} {l:List α} (h:Own L σ (some b) l):b < σ.next:=h.2.2.1
theorem Own.call1 {α:Type} {L:Lay α} {σ:Store} {ob:Option Nat} {l:List α} {st:Bool} {f:Nat} {args:List AV} {r:AV} (h:Own L σ ob l) (ha:closedL args=true) (hc:cR f (.vsl (l.map L.f) none ::erL args)=some r) (hr:r.flat=true) :
  callP ipU gU st (.fn f [] []) (slOf L.sz ob l.length ::args) σ=some (r,σ):=by
 obtain ⟨v,h1,h2⟩:=h.rb
 refine callP_flat (args':=v ::args) rfl ?_ ?_ hr
 ·simp only [mapO,h1,mapO_closed' ha]
 ·simp only [erL,h2,AV.er]; exact hc
def LStr:Lay Bs where
 f:= .str
 sz:=1
 pos:=by decide
 len _:=rfl
 closed _:=rfl
 er _:=by simp only [AV.er]
 one _:=rfl
 agg _:=rfl
def LSlt:Lay Slt where
 f:=sltE
 sz:=2
 pos:=by decide
 len _:=rfl
 closed _:=rfl
 er:=sltE_er
 one _:=rfl
 agg a:=⟨_,rfl⟩
def LV:Lay V where
 f:=V.enc
 sz:=5
 pos:=by decide
 len v:=by rw [V.enc_cells]; rfl
 closed:=V.enc_closed
 er:=V.enc_er
 one v:=by rw [V.enc_cells]; rfl
 agg v:=⟨_,V.enc_eq v⟩
def LMem:Lay Mem where
 f:=memE
 sz:=6
 pos:=by decide
 len v:=by rw [memE_cells]; rfl
 closed:=memE_closed
 er:=memE_er
 one v:=by rw [memE_cells]; rfl
 agg v:=⟨_,rfl⟩
end Go.Ab
