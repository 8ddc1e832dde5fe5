/- What functions of the program, and of the library, answer. Conditions: none. -/
import Derived.Test.YtgfeimceppggcaaGreatDoorLaw7
import Derived.Test.YtgfeimceppggcaaGreatDoorLaw9
import Derived.Test.YtgfeimceppggcaaGreatDoorLaw8
set_option linter.unusedVariables false
set_option linter.unusedSimpArgs false
set_option linter.defProp false
set_option linter.unnecessarySimpa false
namespace Go.Ab
set_option maxHeartbeats 1000000
def K1Fa:=J @F175_9.eq_1 (J @F175_15.eq_1 (J @F175_16.eq_1 (@F175.eq_1)))
set_option maxRecDepth 100000
abbrev kSigs:Bs:= [115,105,103,110,97,116,117,114,101,115]
abbrev kIdOrg:Bs:= [105,100,46,111,114,103]
abbrev kEdZ:Bs:= [101,100,50,53,53,49,57,58,122]
abbrev kEd:Bs:= [101,100,50,53,53,49,57,58]
abbrev sX:Bs:= [120]
def seedB (b:UInt8):List UInt8:=List.replicate 32 b
theorem r_Seed (b:UInt8):cR 198 [.int .u8 (b.toNat:Int)]=some (bsE (seedB b)):=by
 have hm:makeSlOf ⟨0, []⟩ 1 1 [.int .u8 0] 32=some (.sl 0 0 32 1 none,⟨1, [(0, .own (rep 32 [.int .u8 0]))]⟩):=by rfl
 have hr:rep 32 [AV.int .u8 0]=List.replicate 32 (.int .u8 0):=by rfl
 rw [hr] at hm
 have hix {i:Int} (h0:0≤i) (h1:i < 32):idxOf 1 none (.sl 0 0 32 1 none) (.int .i64 i)=some (.ptr 0 i.toNat):=by
  simp [idxOf,h0,h1]
 have hfin {σ:Store} (h:look σ.m 0=some (.own (u8cells (seedB b)))):rbE σ (.sl 0 0 32 1 none)=some (bsE (seedB b)):=by
  have hl:(seedB b).length=32:=by simp [seedB]
  have:=rb_sl1 (d:=23) (off:=0) (n:=32) (c:=none) h (by rw [u8_len]; omega) (closed_u8 _) (notAgg_u8 _)
  rw [List.drop_zero,List.take_of_length_le (by rw [u8_len]; omega)] at this
  unfold rbE
  rw [show rbDepth=23+1 from rfl,this,Option.map_some,er_vsl,er_u8]
 refine cR_of (F:=F198) rfl ?_
 simp only [List.replicate] at hm
 simp only [F198,EXA,seval,readAt_some,ex_loop,ex_inLoop,@wrap_i,hm,@hix]
 exact hfin rfl
def inv0 (token mxid:Bs):V:=mapOf [(kMxid,tV3 mxid),(kToken,tV3 token)]
def edKey (i:Nat):Bs:=kEd ++ [UInt8.ofNat (97+i)]
def moreM:Nat→V
 | 0=>mapOf []
 | n+1=>setV (moreM n) (edKey n) (tV3 sX)
def sigM (n:Nat) (g:Bs):V:=setV (moreM n) kEdZ (tV3 g)
def invS (token mxid:Bs) (n:Nat) (g:Bs):V:=setV (inv0 token mxid) kSigs (mapOf [(kIdOrg,sigM n g)])
def inviteV (token mxid:Bs) (n:Nat) (g:Bs):V:=mapOf [(kMembership,tV3 kInvite),(kThird,mapOf [(kSigned,invS token mxid n g)])]
theorem setV_mlen (v:V) (k:Bs) (x:V):(setV v k x).m.length≤v.m.length+1:=by
 unfold setV
 split
 ·show (setM _ _ _ _ _).length≤_
  unfold setM
  split
  ·split
   ·rw [List.length_set]; omega
   ·omega
  ·rw [List.length_append,List.length_cons,List.length_take,List.length_drop]; omega
 ·omega
theorem moreM_len: ∀n,(moreM n).m.length≤n
 | 0=>by decide
 | n+1=>by have:=moreM_len n; have:=setV_mlen (moreM n) (edKey n) (tV3 sX); rw [moreM]; omega
theorem mapOf_mlen (l:List Mem) (h:l.length < 20):(mapOf l).m.length < 20:=by
 have h1:=dedupM_len (sortM l)
 have h2:(sortM l).length=l.length:=by unfold sortM; rw [List.length_reverse,sortR_len]; simp
 show (dedupM (sortM l)).length < 20
 omega
theorem sig_len (seed msg:List UInt8):(sigB sha512 seed msg).length=64:=by
 simp only [sigB,List.length_append,toLE_len]
theorem r_Invite {token mxid msg:Bs} {seed:UInt8} {n:Nat} (hw:cR 190 [(inv0 token mxid).enc]=some (.tup [.str msg, .int .i64 0])) (hm:msg.length < 1099511000000) (hn:n < 10) :
  cR 175 [.str token, .str mxid, .int .u8 (seed.toNat:Int), .int .i64 (n:Int)]=some (inviteV token mxid n (putS (sigB sha512 (seedB seed) msg))).enc:=by
 have a3: ∀s,cR 18 [.str s]=some (tV3 s).enc:=r_Text
 have m0:cR 20 [.vsl [memE (kMxid,tV3 mxid),memE (kToken,tV3 token)] none]=some (inv0 token mxid).enc:=r_Map [(kMxid,tV3 mxid),(kToken,tV3 token)] (by simp)
 have hs:=r_Seed seed
 have hsl:(seedB seed).length=32:=by simp [seedB]
 have hg:=r_Sign (seed:=seedB seed) (msg:=msg) hsl hm
 have hgl:=sig_len (seedB seed) msg
 have hp:=r_put (sigB sha512 (seedB seed) msg) (by rw [hgl]; decide)
 have me:cR 20 [.vsl [] none]=some (moreM 0).enc:=r_Map [] (by simp)
 have hinv:inviteV token mxid n (putS (sigB sha512 (seedB seed) msg))=mapOf [(kMembership,tV3 kInvite),(kThird,mapOf [(kSigned,setV (inv0 token mxid) kSigs (mapOf [(kIdOrg,setV (moreM n) kEdZ (tV3 (putS (sigB sha512 (seedB seed) msg))))]))])]:=rfl
 have z1:=r_Set (moreM n) kEdZ (tV3 (putS (sigB sha512 (seedB seed) msg))) (by have:=moreM_len n; unfold lim; omega)
 have z2:cR 20 [.vsl [memE (kIdOrg,setV (moreM n) kEdZ (tV3 (putS (sigB sha512 (seedB seed) msg))))] none]=some (mapOf [(kIdOrg,setV (moreM n) kEdZ (tV3 (putS (sigB sha512 (seedB seed) msg))))]).enc:=r_Map [(kIdOrg,_)] (by simp)
 have hil:(inv0 token mxid).m.length < lim:=by
  have:=mapOf_mlen [(kMxid,tV3 mxid),(kToken,tV3 token)] (by simp)
  unfold lim inv0; omega
 rw [hinv]
 generalize hMn:setV (moreM n) kEdZ (tV3 (putS (sigB sha512 (seedB seed) msg)))=Z at*
 have z3:=r_Set (inv0 token mxid) kSigs (mapOf [(kIdOrg,Z)]) hil
 generalize mapOf [(kIdOrg,Z)]=Y at*
 generalize setV (inv0 token mxid) kSigs Y=X at*
 have z4:cR 20 [.vsl [memE (kSigned,X)] none]=some (mapOf [(kSigned,X)]).enc:=r_Map [(kSigned,X)] (by simp)
 generalize mapOf [(kSigned,X)]=S at*
 have z5:cR 20 [.vsl [memE (kMembership,tV3 kInvite),memE (kThird,S)] none]=some (mapOf [(kMembership,tV3 kInvite),(kThird,S)]).enc:=r_Map [(kMembership,tV3 kInvite),(kThird,S)] (by simp)
 generalize mapOf [(kMembership,tV3 kInvite),(kThird,S)]=R at*
 generalize inv0 token mxid=I at*
 generalize putS (sigB sha512 (seedB seed) msg)=P at*
 generalize sigB sha512 (seedB seed) msg=g at*
 generalize seedB seed=sd at*
 clear hinv hil hgl hsl
 refine cR_of (F:=F175) rfl ?_
 have hlo: ∀x:AV,lenOf (.vsl [x] (some 1))=some 1:=fun _=>rfl
 simp only [bsE] at hs hg hp
 simp only [F175_9,F175_15,F175,EXA,seval,VX,readAt_some,ex_loop,a3,m0,hw,hs,closed_u8,er_u8,hg,me]
 refine ex_whileI (S:=Nat) (fun i=> [(3, .int .i64 (n:Int)),(8, .ptr 0 0),(9, .ptr 1 0),(12, .vsl (u8cells g) none),(14, .ptr 2 0),(15, .int .i64 (i:Int))]) (fun i=>n - i)
  (fun i σ=>look σ.m 2=some (.own [.int .i64 (moreM i).kind, .int .i64 (moreM i).n, .str (moreM i).s, .vsl ((moreM i).l.map V.enc) none, .vsl ((moreM i).m.map memE) none])∧look σ.m 1=some (.own [.int .i64 I.kind, .int .i64 I.n, .str I.s, .vsl (I.l.map V.enc) none, .vsl (I.m.map memE) none])∧
   look σ.m 0=some (.own [.int .i64 0, .int .i64 0, .str [], .nils, .nils])∧i≤n) ?_ 0 _ ⟨rfl,rfl,rfl,Nat.zero_le _⟩
 rintro B i σ ⟨g2,g1,g0,hi⟩ ih
 by_cases hin:i=n
 ·subst hin
  have gt:decide ((i:Int) < (i:Int))=false:=decide_eq_false (by omega)
  generalize moreM i=M at*
  simp only [K1Fa,EXA,seval,VX,readAt_some,gt,g2,g1,g0,a3,closed_u8,er_u8,hp,z1,z2,z3,z4,z5]
 ·have hlt:decide ((i:Int) < (n:Int))=true:=decide_eq_true (by omega)
  have wb:IntKind.wrap .u8 (i:Int)=(i:Int):=by rw [wrap8,Nat.mod_eq_of_lt (by omega)]
  have wc:IntKind.wrap .u8 (97+(i:Int))=((97+i:Nat):Int):=by
   have:=wrap8 (97+i)
   rw [Nat.mod_eq_of_lt (by omega)] at this
   rw [←this]; congr 1
  have hby:bytesOf [.int .u8 ((97+i:Nat):Int)]=some [UInt8.ofNat (97+i)]:=by
   have:(0:Int)≤((97+i:Nat):Int)∧((97+i:Nat):Int) < 256:=by omega
   show (match bytesOf [] with | some l=>if (0:Int)≤((97+i:Nat):Int)∧((97+i:Nat):Int) < 256 then some (UInt8.ofNat ((97+i:Nat):Int).toNat ::l) else none | none=>none)=_
   simp only [bytesOf,if_pos this]; rfl
  have w1:IntKind.wrap .i64 ((i:Int)+1)=((i+1:Nat):Int):=by rw [wrap_i (by omega) (by omega)]; omega
  have hS:cR 142 [(moreM i).enc, .str [101,100,50,53,53,49,57,58,UInt8.ofNat (97+i)],(tV3 sX).enc]=some (moreM (i+1)).enc:=r_Set (moreM i) (edKey i) (tV3 sX) (by have:=moreM_len i; unfold lim; omega)
  generalize hM1:moreM (i+1)=M1 at*
  generalize moreM i=M at*
  simp only [K1Fa,EXA,seval,VX,readAt_some,hlt,g2,g1,g0,a3,wb,wc,row_one,hby,w1,hS]
  refine ih (i+1) _ _ (by omega) ⟨?_,?_,?_,by omega⟩ rfl
  ·rw [hM1]; simp [look]
  ·simpa [look] using g1
  ·simpa [look] using g0
end Go.Ab
namespace Go.Ab
set_option maxHeartbeats 1000000
set_option maxRecDepth 100000
abbrev sTok:Bs:= [116,111,107]
abbrev sA:Bs:= [64,97,58,120]
abbrev sB:Bs:= [64,98,58,120]
theorem vu_asc: ∀ {s:Bs},(∀c∈s,c < 128)→vu s=true
 | [],_=>rfl
 | a ::r,h=>by
  rw [vu_low (h a (by simp))]
  exact vu_asc fun c hc=>h c (by simp [hc])
theorem sx_lt: ∀(s:List UInt8) (nb c:Nat),∀x∈sx nb c s,x < 64
 | [],nb,c,x,h=>by
  unfold sx at h
  split at h
  ·simp at h
  ·simp at h; omega
 | b ::s,nb,c,x,h=>by
  unfold sx at h
  split at h
  ·simp only [List.mem_cons] at h
   rcases h with h | h | h
   ·omega
   ·omega
   ·exact sx_lt s 0 0 x h
  ·split at h
   ·simp only [List.mem_cons] at h
    rcases h with h | h
    ·omega
    ·exact sx_lt s 4 _ x h
   ·simp only [List.mem_cons] at h
    rcases h with h | h
    ·omega
    ·exact sx_lt s 2 _ x h
theorem sgB_lt {j:Nat} (h:j < 64):sgB j < 128:=by
 rw [UInt8.lt_iff_toNat_lt,sgB,UInt8.toNat_ofNat']
 have hl:sgS j < 128:=by unfold sgS; split <;> (try split) <;> (try split) <;> (try split) <;> omega
 rw [Nat.mod_eq_of_lt (show sgS j < 2 ^ 8 by omega)]; exact hl
theorem vu_put (s:List UInt8):vu (putS s)=true:=vu_asc fun c hc=>by
 obtain ⟨x,hx,rfl⟩:=List.mem_map.1 hc
 exact sgB_lt (sx_lt s 0 0 x hx)
end Go.Ab
namespace Go.Ab
set_option maxHeartbeats 1000000
set_option maxRecDepth 100000
theorem num_all:((List.range 64).all fun j=>numS (sgB j) == j)=true:=by kernel_rfl
theorem num_sgB {j:Nat} (h:j < 64):numS (sgB j)=j:=eq_of_beq (List.all_eq_true.1 num_all j (List.mem_range.2 h))
theorem map_num: ∀ {l:List Nat},(∀x∈l,x < 64)→(l.map sgB).map numS=l
 | [],_=>rfl
 | x ::l,h=>by
  rw [List.map_cons,List.map_cons,num_sgB (h x (by simp)),map_num fun y hy=>h y (by simp [hy])]
theorem gx_sx: ∀s:List UInt8,gx 0 0 (sx 0 0 s)=some s∧(∀e c,e < 64→c < 4→gx 6 e (sx 2 c s)=some (UInt8.ofNat (e*4+c) ::s))∧(∀e c,e < 16→c < 16→gx 4 e (sx 4 c s)=some (UInt8.ofNat (e*16+c) ::s))
 | []=>by
  refine ⟨rfl,fun e c he hc=> ?_,fun e c he hc=> ?_⟩
  ·rw [sx,if_neg (by decide),gx,if_pos (by simp only [Nat.reducePow,Nat.reduceSub]; omega),if_pos (by decide)]
   rw [show (e*64+c*2 ^ (6 - 2) % 64) % 2 ^ (6 - 2)=0 by simp only [Nat.reducePow,Nat.reduceSub]; omega,gx,if_pos ⟨by decide,rfl⟩]
   simp only [Option.map_some,Nat.reducePow,Nat.reduceSub]
   rw [show (e*64+c*16 % 64) / 16=e*4+c by omega]
  ·rw [sx,if_neg (by decide),gx,if_pos (by simp only [Nat.reducePow,Nat.reduceSub]; omega),if_pos (by decide)]
   rw [show (e*64+c*2 ^ (6 - 4) % 64) % 2 ^ (4 - 2)=0 by simp only [Nat.reducePow,Nat.reduceSub]; omega,gx,if_pos ⟨by decide,rfl⟩]
   simp only [Option.map_some,Nat.reducePow,Nat.reduceSub]
   rw [show (e*64+c*4 % 64) / 4=e*16+c by omega]
 | b ::s=>by
  have hb:=b.toNat_lt
  obtain ⟨h0,h2,h4⟩:=gx_sx s
  refine ⟨?_,fun e c he hc=> ?_,fun e c he hc=> ?_⟩
  ·rw [sx,if_neg (by decide),if_neg (by decide),gx,if_pos (by omega),if_neg (by decide),h2 _ _ (by omega) (by omega)]
   rw [show (0*64+(0*256+b.toNat) / 4 % 64)*4+(0*256+b.toNat) % 4=b.toNat by omega,UInt8.ofNat_toNat]
  ·rw [sx,if_neg (by decide),if_pos rfl,gx,if_pos (by omega),if_pos (by decide)]
   simp only [Nat.reducePow,Nat.reduceSub]
   rw [h4 _ _ (by omega) (by omega),Option.map_some]
   rw [show (e*64+(c*256+b.toNat) / 16 % 64) / 16=e*4+c by omega,show (e*64+(c*256+b.toNat) / 16 % 64) % 16*16+(c*256+b.toNat) % 16=b.toNat by omega,UInt8.ofNat_toNat]
  ·rw [sx,if_pos rfl,gx,if_pos (by omega),if_pos (by decide)]
   simp only [Nat.reducePow,Nat.reduceSub]
   rw [gx,if_pos (by omega),if_pos (by decide)]
   simp only [Nat.reducePow,Nat.reduceSub]
   rw [show ((e*64+(c*256+b.toNat) / 64 % 64) % 4*64+(c*256+b.toNat) % 64) % 1=0 by omega,h0,Option.map_some,Option.map_some]
   rw [show (e*64+(c*256+b.toNat) / 64 % 64) / 4=e*16+c by omega,show ((e*64+(c*256+b.toNat) / 64 % 64) % 4*64+(c*256+b.toNat) % 64) / 1=b.toNat by omega,UInt8.ofNat_toNat]
theorem getB_put (s:List UInt8):getB (putS s)=some s:=by
 rw [getB,putS,map_num (sx_lt s 0 0),(gx_sx s).1]
end Go.Ab
namespace Go.Ab
set_option maxHeartbeats 1000000
def B3Fb:=J @F220_2.eq_1 (J @F220_19.eq_1 (J @F220_20.eq_1 (@F220.eq_1)))
def B3Fe:=J @F223_2.eq_1 (J @F223_19.eq_1 (J @F223_20.eq_1 (@F223.eq_1)))
set_option maxRecDepth 100000
theorem her_S: ∀l:List Bs,erL (l.map AV.str)=l.map AV.str
 | []=>rfl
 | x ::l=>by rw [List.map_cons,erL_cons,her_S l]; rfl
theorem her_B: ∀l:List (List UInt8),erL (l.map fun s=>bsE s)=l.map fun s=>bsE s
 | []=>rfl
 | x ::l=>by rw [List.map_cons,erL_cons,her_B l,er_vsl,er_u8]
theorem r_indexFS (l:List (Bs)) (f:AV) (p:Bs→Bool) (hf:f.closed=true) (hfe:f.er=f) (hlen:l.length < big) (hp: ∀v∈l,callR ipU gU f [AV.str v]=some (.bool (p v))) :
  cR 220 [.vsl (l.map AV.str) none,f]=some (.int .i64 (firstFrom p l 0)):=by
 unfold big at hlen
 have hcl:closedL (l.map AV.str)=true:=by
  rw [closedL_all]; intro x hx; obtain ⟨y,_,rfl⟩:=List.mem_map.1 hx; rfl
 have her:erL (l.map AV.str)=l.map AV.str:=her_S l
 refine cR_of (F:=F220) rfl ?_
 simp only [F220_2,F220_19,F220,ex_loop,EXA,seval,VX]
 refine ex_while (S:=Nat) (fun j=> [(0, .vsl (l.map AV.str) none),(1,f),(7, .int .i64 l.length),(8, .int .i64 (j:Int))]) (fun _=> .empty) (fun j=>l.length - j) (fun j=>firstFrom p l j=firstFrom p l 0) ?_ 0 rfl
 intro b j hj ih
 by_cases hlt:j < l.length
 ·obtain ⟨v,hv⟩:=get_lt hlt
  have hidx:=idx_map (f:=AV.str) (sz:=1) (c:=none) hv rfl
  have hcall:=hp v (List.mem_of_getElem? hv)
  have hcond:=dlt hlt
  simp only [B3Fb,EXA,seval,VX,readAt_some,hcond,hidx,hf,hfe,hcall,AV.cells,closed_u8,er_u8,AV.closed]
  split
  ·rename_i hpe
   rw [←hj,firstFrom_hit hv hpe]
  ·rename_i hpe
   refine ih (j+1) _ _ (by omega) ?_ ?_ rfl
   ·rw [←firstFrom_miss hv (by simpa using hpe)]; exact hj
   ·rw [wsucc hlt (by omega)]
    simp only [EXA,seval]
 ·have hcond:=dge (Nat.not_lt.1 hlt)
  simp only [B3Fb,EXA,seval,VX,hcond]
  rw [←hj,firstFrom_end (by omega)]
theorem r_anyFS (l:List (Bs)) (f:AV) (p:Bs→Bool) (hf:f.closed=true) (hfe:f.er=f) (hlen:l.length < big) (hp: ∀v∈l,callR ipU gU f [AV.str v]=some (.bool (p v))) :
  cR 194 [.vsl (l.map AV.str) none,f]=some (.bool (l.any p)):=by
 have hcl:closedL (l.map AV.str)=true:=by
  rw [closedL_all]; intro x hx; obtain ⟨y,_,rfl⟩:=List.mem_map.1 hx; rfl
 have her:erL (l.map AV.str)=l.map AV.str:=her_S l
 refine cR_of (F:=F194) rfl ?_
 simp only [F194,EXA,seval,VX,hf,hfe,hcl,her,r_indexFS l f p hf hfe hlen hp,firstFrom_ge]
theorem r_indexFB (l:List (List UInt8)) (f:AV) (p:List UInt8→Bool) (hf:f.closed=true) (hfe:f.er=f) (hlen:l.length < big) (hp: ∀v∈l,callR ipU gU f [(fun s=>bsE s) v]=some (.bool (p v))) :
  cR 223 [.vsl (l.map (fun s=>bsE s)) none,f]=some (.int .i64 (firstFrom p l 0)):=by
 unfold big at hlen
 have hcl:closedL (l.map (fun s=>bsE s))=true:=by
  rw [closedL_all]; intro x hx; obtain ⟨y,_,rfl⟩:=List.mem_map.1 hx; simp only [AV.closed,closed_u8]
 have her:erL (l.map (fun s=>bsE s))=l.map (fun s=>bsE s):=her_B l
 refine cR_of (F:=F223) rfl ?_
 simp only [F223_2,F223_19,F223,ex_loop,EXA,seval,VX]
 refine ex_while (S:=Nat) (fun j=> [(0, .vsl (l.map (fun s=>bsE s)) none),(1,f),(7, .int .i64 l.length),(8, .int .i64 (j:Int))]) (fun _=> .empty) (fun j=>l.length - j) (fun j=>firstFrom p l j=firstFrom p l 0) ?_ 0 rfl
 intro b j hj ih
 by_cases hlt:j < l.length
 ·obtain ⟨v,hv⟩:=get_lt hlt
  have hidx:=idx_map (f:=(fun s=>bsE s)) (sz:=1) (c:=none) hv rfl
  have hcall:=hp v (List.mem_of_getElem? hv)
  have hcond:=dlt hlt
  simp only [B3Fe,EXA,seval,VX,readAt_some,hcond,hidx,hf,hfe,hcall,AV.cells,closed_u8,er_u8,AV.closed]
  split
  ·rename_i hpe
   rw [←hj,firstFrom_hit hv hpe]
  ·rename_i hpe
   refine ih (j+1) _ _ (by omega) ?_ ?_ rfl
   ·rw [←firstFrom_miss hv (by simpa using hpe)]; exact hj
   ·rw [wsucc hlt (by omega)]
    simp only [EXA,seval]
 ·have hcond:=dge (Nat.not_lt.1 hlt)
  simp only [B3Fe,EXA,seval,VX,hcond]
  rw [←hj,firstFrom_end (by omega)]
theorem r_anyFB (l:List (List UInt8)) (f:AV) (p:List UInt8→Bool) (hf:f.closed=true) (hfe:f.er=f) (hlen:l.length < big) (hp: ∀v∈l,callR ipU gU f [(fun s=>bsE s) v]=some (.bool (p v))) :
  cR 222 [.vsl (l.map (fun s=>bsE s)) none,f]=some (.bool (l.any p)):=by
 have hcl:closedL (l.map (fun s=>bsE s))=true:=by
  rw [closedL_all]; intro x hx; obtain ⟨y,_,rfl⟩:=List.mem_map.1 hx; simp only [AV.closed,closed_u8]
 have her:erL (l.map (fun s=>bsE s))=l.map (fun s=>bsE s):=her_B l
 refine cR_of (F:=F222) rfl ?_
 simp only [F222,EXA,seval,VX,hf,hfe,hcl,her,r_indexFB l f p hf hfe hlen hp,firstFrom_ge]
end Go.Ab
namespace Go.Ab
set_option maxHeartbeats 1000000
def B4Fa:=J @F192_4.eq_1 (J @F192_12.eq_1 (J @F192_28.eq_1 (J @F192_29.eq_1 (J @F192_44.eq_1 (J @F192_45.eq_1 (@F192.eq_1))))))
set_option maxRecDepth 100000
def stepT (acc:List Bs) (y:Mem):List Bs:=if y.2.kind=3∧acc.length < 4 then acc ++ [y.2.s] else acc
def stepO (acc:List Bs) (x:Mem):List Bs:=if x.2.kind=5 then x.2.m.foldl stepT acc else acc
def textsV (x:V):List Bs:=(tableV x kSigs).1.m.foldl stepO []
theorem stepT_len {acc:List Bs} (y:Mem) (h:acc.length≤4):(stepT acc y).length≤4:=by
 unfold stepT; split
 ·simp; omega
 ·exact h
theorem foldT_len: ∀(l:List Mem) {acc:List Bs},acc.length≤4→(l.foldl stepT acc).length≤4
 | [],_,h=>h
 | y ::l,acc,h=>foldT_len l (stepT_len y h)
theorem stepO_len {acc:List Bs} (x:Mem) (h:acc.length≤4):(stepO acc x).length≤4:=by
 unfold stepO; split
 ·exact foldT_len _ h
 ·exact h
theorem mem_szT {T:V} {y:Mem} (h:y∈T.m):y.2.sz≤T.sz:=by
 have key: ∀l:List Mem,y∈l→y.2.sz≤szM l:=by
  intro l
  induction l with
  | nil=>intro h; cases h
  | cons x l ih=>
   intro h
   obtain ⟨k,v⟩:=x
   rcases List.mem_cons.1 h with e | e
   ·subst e; simp [szM]; omega
   ·have:=ih e; simp [szM]; omega
 have:=key _ h
 cases T; simp [V.sz,V.m] at*; omega
theorem r_firstTexts (x:V) (hb:x.sz < big):cR 192 [x.enc]=some (.vsl ((textsV x).map .str) none):=by
 have ht:=r_tableAt x kSigs hb
 have hsz:=tableV_sz x kSigs
 unfold textsV
 generalize (tableV x kSigs).2=ok at ht
 generalize hT:(tableV x kSigs).1=T at*
 refine cR_of (F:=F192) rfl ?_
 have hl:T.m.length < big:=by have:=m_len_sz T; omega
 unfold big at hl hb
 simp only [F192_4,F192_12,F192_28,F192_29,F192_44,F192,ex_loop,EXA,seval,VX,readAt_some,ht]
 refine ex_whileI (S:=Nat×List Bs×AV) (fun p=> [(5,p.2.2),(16, .vsl (T.m.map memE) none),(17, .int .i64 T.m.length),(18, .int .i64 (p.1:Int))]) (fun p=>T.m.length - p.1)
  (fun p σ=>Gr LStr σ p.2.2 p.2.1∧p.2.1.length≤4∧(T.m.drop p.1).foldl stepO p.2.1=T.m.foldl stepO []) ?_ (0, [], .nils) _ ⟨?_,by simp,rfl⟩
 ·rintro b ⟨j,acc,v⟩ σ ⟨hg,hlen,hj⟩ ih
  simp only at hg hlen hj ih ⊢
  by_cases hlt:j < T.m.length
  ·obtain ⟨y,hy⟩:=get_lt hlt
   have hidx:=idx_map (f:=memE) (sz:=6) (c:=none) hy (by simp [memE_cells])
   have hcond:=dlt hlt
   have hw:=wsucc hlt (by omega)
   have hn:=hg.newset
   rw [drop_cons hy,List.foldl_cons] at hj
   by_cases h5:y.2.kind=5
   ·have q5:(y.2.kind != 5)=false:=by simp [h5]
    have hyl:y.2.m.length < 4611686018427387904:=by
     have h1:=m_len_sz y.2
     have h2:=mem_szT (List.mem_of_getElem? hy)
     omega
    rw [show stepO acc y=y.2.m.foldl stepT acc from by rw [stepO,if_pos h5]] at hj
    simp only [F192_4,F192_12,F192_28,F192_44,F192_45,F192,ex_loop,EXA,seval,VX,readAt_some,hcond,hidx,q5]
    refine ex_whileI (S:=Nat×List Bs×AV) (fun p=> [(5,p.2.2),(16, .vsl (T.m.map memE) none),(17, .int .i64 T.m.length),(18, .int .i64 (j:Int)),(28, .vsl (y.2.m.map memE) none),(29, .int .i64 y.2.m.length),(30, .int .i64 (p.1:Int))]) (fun p=>y.2.m.length - p.1)
     (fun p σ=>Gr LStr σ p.2.2 p.2.1∧p.2.1.length≤4∧(y.2.m.drop p.1).foldl stepT p.2.1=y.2.m.foldl stepT acc) ?_ (0,acc,v) _ ⟨hn _ _,hlen,rfl⟩
    rintro b2 ⟨k,acc2,v2⟩ σ2 ⟨hg2,hlen2,hk⟩ ih2
    simp only at hg2 hlen2 hk ih2 ⊢
    by_cases hlk:k < y.2.m.length
    ·obtain ⟨z,hz⟩:=get_lt hlk
     have hidx2:=idx_map (f:=memE) (sz:=6) (c:=none) hz (by simp [memE_cells])
     have hcond2:=dlt hlk
     have hw2:=wsucc hlk (by omega)
     have hn2:=hg2.newset
     rw [drop_cons hz,List.foldl_cons] at hk
     by_cases h3:z.2.kind=3
     ·have q3:(z.2.kind == 3)=true:=by simp [h3]
      by_cases h4:acc2.length < 4
      ·have q4:decide ((acc2.length:Int) < 4)=true:=by simp; omega
       have hlv:=hg2.lenL
       have happ: ∀a b,appendTo _ 1 16 v2 [.str z.2.s] 1=some _:=fun a b=>(hn2 a b).push (a:=z.2.s) (bytes:=16) (by omega) (by unfold maxBytes; omega)
       have hlo:lenOf (.vsl [.str z.2.s] (some 1))=some 1:=rfl
       have hro: ∀σ',rowOf σ' 1 (.vsl [.str z.2.s] (some 1))=some [.str z.2.s]:=fun _=>rfl
       rw [show stepT acc2 z=acc2 ++ [z.2.s] from by rw [stepT,if_pos ⟨h3,h4⟩]] at hk
       simp only [B4Fa,EXA,seval,VX,readAt_some,hcond2,hidx2,q3,q4,hw2,happ,hlo,hro,hlv]
       exact ih2 (k+1,acc2 ++ [z.2.s],_) _ _ (by simp; omega) ⟨Gr.own ((hn2 _ _).next (by simp)),by simp; omega,by simpa using hk⟩ (by simp only [EXA,seval]; rfl)
      ·have q4:decide ((acc2.length:Int) < 4)=false:=by simp; omega
       rw [show stepT acc2 z=acc2 from by rw [stepT,if_neg (fun c=>h4 c.2)]] at hk
       simp only [B4Fa,EXA,seval,VX,readAt_some,hcond2,hidx2,q3,q4,hw2,hg2.lenL]
       exact ih2 (k+1,acc2,v2) _ _ (by simp; omega) ⟨hn2 _ _,hlen2,hk⟩ (by simp only [EXA,seval])
     ·have q3:(z.2.kind == 3)=false:=by simp [h3]
      rw [show stepT acc2 z=acc2 from by rw [stepT,if_neg (fun c=>h3 c.1)]] at hk
      simp only [B4Fa,EXA,seval,VX,readAt_some,hcond2,hidx2,q3,hw2]
      exact ih2 (k+1,acc2,v2) _ _ (by simp; omega) ⟨hn2 _ _,hlen2,hk⟩ (by simp only [EXA,seval])
    ·have hcond2:=dge (Nat.not_lt.1 hlk)
     rw [List.drop_eq_nil_of_le (by omega)] at hk
     have hk2:acc2=y.2.m.foldl stepT acc:=hk
     simp only [B4Fa,EXA,seval,VX,readAt_some,hcond2,hw]
     exact ih (j+1,acc2,v2) _ _ (by simp; omega) ⟨hg2,hlen2,by rw [hk2]; exact hj⟩ (by simp only [EXA,seval])
   ·have q5:(y.2.kind != 5)=true:=by simp [h5]
    rw [show stepO acc y=acc from by rw [stepO,if_neg h5]] at hj
    simp only [B4Fa,EXA,seval,VX,readAt_some,hcond,hidx,hw,q5]
    exact ih (j+1,acc,v) _ _ (by simp; omega) ⟨hn _ _,hlen,hj⟩ (by simp only [EXA,seval])
  ·have hcond:=dge (Nat.not_lt.1 hlt)
   rw [List.drop_eq_nil_of_le (by omega)] at hj
   have hj2:acc=T.m.foldl stepO []:=hj
   have hrb:=hg.rbE
   simp only [B4Fa,EXA,seval,VX,hcond,hrb,hj2]
   rfl
 ·exact Gr.nil LStr _
end Go.Ab
namespace Go.Ab
set_option maxHeartbeats 1000000
set_option maxRecDepth 100000
theorem Gr.idxA {α:Type} {L:Lay α} {σ:Store} {v:AV} {l:List α} (h:Gr L σ v l) (hs:L.sz≠1) {j:Nat} {a:α} (hj:l[j]? =some a): ∃p,idxOf L.sz none v (.int .i64 (j:Int))=some p∧readPtr σ p (some L.sz)=some (L.f a):=by
 have hlt:=lt_of_get hj
 have hag:=L.agg a
 rw [if_neg hs] at hag
 obtain ⟨cs,hcs⟩:=hag
 have hl:=L.len a
 rw [hcs] at hl
 simp only [AV.cells] at hl
 rcases h with ⟨rfl,rfl⟩ | ⟨b,rfl,h⟩ | rfl
 ·simp at hj
 ·refine ⟨.ptr b (j*L.sz),?_,?_⟩
  ·have h2:((j:Int) < (l.length:Int)):=by omega
   simp [Go.Ab.idxOf,h2]
  ·have h1:=h.1
   have e: ∀(l:List α) (j:Nat),l[j]? =some a→(L.cells l).drop (j*L.sz)=cs ++L.cells (l.drop (j+1)):=by
    intro l
    induction l with
    | nil=>intro j hj; simp at hj
    | cons x l ih=>
     intro j hj
     have hx:=L.len x
     have e1:L.cells (x ::l)=(L.f x).cells ++L.cells l:=by simp [Lay.cells]
     cases j with
     | zero=>
      simp only [List.getElem?_cons_zero,Option.some.injEq] at hj
      subst hj
      rw [e1,hcs,Nat.zero_mul]; rfl
     | succ j=>
      simp only [List.getElem?_cons_succ] at hj
      rw [e1,List.drop_append,hx]
      have e2:(j+1)*L.sz - L.sz=j*L.sz:=by rw [Nat.add_mul]; omega
      have e3:(L.f x).cells.drop ((j+1)*L.sz)= []:=List.drop_eq_nil_of_le (by rw [hx,Nat.add_mul]; omega)
      rw [e2,e3,ih j hj]
      simp
   have h3:=e l j hj
   have h4:=L.cells_len l
   have h5:j*L.sz+L.sz≤(L.cells l).length:=by
    rw [h4]
    calc j*L.sz+L.sz=(j+1)*L.sz:=by rw [Nat.add_mul]; omega
     _≤l.length*L.sz:=Nat.mul_le_mul_right _ hlt
   simp only [readPtr,Store.cells,h1,readAt]
   rw [if_pos h5,h3,List.take_append_of_le_length (by omega),List.take_of_length_le (by omega),hcs]
 ·refine ⟨.vptr (L.f a).cells 0,idx_map (f:=L.f) hj (L.len a),?_⟩
  simp only [readPtr,hcs,AV.cells,readAt]
  rw [if_pos (by omega),List.drop_zero,List.take_of_length_le (by omega)]
end Go.Ab
namespace Go.Ab
set_option maxHeartbeats 1000000
def B5Fa:=J @F191_4.eq_1 (J @F191_26.eq_1 (J @F191_27.eq_1 (@F191.eq_1)))
set_option maxRecDepth 100000
abbrev kPubs:Bs:= [112,117,98,108,105,99,95,107,101,121,115]
abbrev kPub:Bs:= [112,117,98,108,105,99,95,107,101,121]
def LBy:Lay (List UInt8) where
 f:=fun s=>bsE s
 sz:=1
 pos:=by decide
 len _:=rfl
 closed s:=by simp only [AV.closed,closed_u8]
 er s:=by simp only [AV.er,er_u8]
 one _:=rfl
 agg _:=rfl
def keyB (x:V):List UInt8:=(getB (textAt x kPub).1).getD []
def stepP (acc:List (List UInt8)) (x:V):List (List UInt8):=if (textAt x kPub).2=true∧acc.length < 4 then acc ++ [keyB x] else acc
def pubsV (t:V):List (List UInt8):=(said t ::itemsV (said t) kPubs).foldl stepP []
theorem getE_b (o:Option (List UInt8)): ∃e:Int,getE o= .tup [bsE (o.getD []), .int .i64 e]:=by
 cases o with
 | none=>exact ⟨2,rfl⟩
 | some l=>exact ⟨0,rfl⟩
def farW (v w:AV):Prop:=∀b len sz c len' sz' c',w= .sl b 0 len sz c→v≠ .sl b 0 len' sz' c'
theorem keepW {σ:Store} {w v:AV} {L:List V} {acc m:List (List UInt8)} (h:Gr LV σ w L) (hv:Gr LBy σ v acc) (hd:farW v w):Gr LV (grNext LBy σ v acc m) w L:=by
 rcases h with ⟨rfl,rfl⟩ | ⟨b,rfl,h1,h2,h3,h4⟩ | rfl
 ·exact .inl ⟨rfl,rfl⟩
 ·refine .inr (.inl ⟨b,rfl,?_,h2,?_,h4⟩)
  ·rw [grNext_get hv h3 (fun len sz c e=>by
    rcases hv with ⟨rfl,_⟩ | ⟨b',rfl,_⟩ | rfl
    ·cases e
    ·cases e; exact hd b _ _ _ _ _ _ rfl rfl
    ·cases e)]
   exact h1
  ·rw [grNext_next]; omega
 ·exact .inr (.inr rfl)
theorem gr_lt {α:Type} {L:Lay α} {σ:Store} {w:AV} {l:List α} (h:Gr L σ w l) {b len sz:Nat} {c:Option Nat} (e:w= .sl b 0 len sz c):b < σ.next:=by
 rcases h with ⟨rfl,_⟩ | ⟨b',rfl,_,_,h3,_⟩ | rfl
 ·cases e
 ·cases e; exact h3
 ·cases e
theorem app_V (X:V) (L:List V) (hL:L.length < lim): ∃(w:Store→AV) (S:Store→Store),(∀σ,appendTo σ 5 80 (.vsl [X.enc] (some 1)) (LV.cells L) L.length=some (w σ,S σ))∧(∀σ,Gr LV (S σ) (w σ) (X ::L))∧∀σ,σ.next≤(S σ).next:=by
 unfold lim at hL
 cases L with
 | nil=>
  refine ⟨fun _=> .vsl [X.enc] (some 1),fun σ=>σ,fun σ=> ?_,fun σ=>Gr.lit LV σ [X],fun σ=>Nat.le_refl _⟩
  unfold appendTo
  simp [lenOf,Lay.cells,maxBytes]
 | cons y L=>
  exact ⟨_,_,fun σ=>Gr.app (m:=y ::L) (bytes:=80) (Gr.lit LV σ [X]) (by decide) (by simp [maxBytes] at*; omega) (by simp),fun σ=>Gr.own (Gr.next (Gr.lit LV σ [X]) (by simp)),fun σ=>by rw [grNext_next]; omega⟩
theorem r_pubs (t:V) (hb:t.sz < lim):cR 191 [t.enc]=some (.vsl ((pubsV t).map fun s=>bsE s) none):=by
 have hbig:t.sz < big:=by unfold big lim at*; omega
 have hs:=r_said t hbig
 have hss:=said_sz t
 unfold pubsV
 generalize said t=X at*
 have hi:=r_items X kPubs (by omega)
 have hisz:=itemsV_sz X kPubs
 have hL:(itemsV X kPubs).length < lim:=by
  have h1:=getV_sz X kPubs
  have h2:=l_len_sz (getV X kPubs).1
  have h3:(itemsV X kPubs).length≤(getV X kPubs).1.l.length:=by
   unfold itemsV; split
   ·exact Nat.le_refl _
   ·exact Nat.zero_le _
  omega
 generalize itemsV X kPubs=L at*
 refine cR_of (F:=F191) rfl ?_
 have hlo:lenOf (.vsl (L.map V.enc) none)=some L.length:=by simp [lenOf]
 have hro: ∀σ,rowOf σ 5 (.vsl (L.map V.enc) none)=some (LV.cells L):=fun σ=>LV.rowOf σ L none
 obtain ⟨w,S,hap,hgw,hnx⟩:=app_V X L hL
 have hMsz: ∀x∈X ::L,x.sz < lim:=fun x hx=>by
  rcases List.mem_cons.1 hx with e | e
  ·subst e; omega
  ·have:=hisz x e; omega
 have hMl:(X ::L).length≤lim:=by rw [List.length_cons]; omega
 generalize hM:X ::L=M at*
 have hlw:=fun σ=>(hgw σ).lenL
 simp only [F191_4,F191_26,F191,ex_loop,EXA,seval,VX,readAt_some,hs,hi,hlo,hro,hap,hlw]
 generalize ({ next:=1,m:= [(0,Blk.own [.int .i64 X.kind, .int .i64 X.n, .str X.s, .vsl (X.l.map V.enc) none, .vsl (X.m.map memE) none]),(0,Blk.own [.int .i64 t.kind, .int .i64 t.n, .str t.s, .vsl (t.l.map V.enc) none, .vsl (t.m.map memE) none])] }:Store)=σ0
 have hg0:=hgw σ0
 generalize w σ0=W at*
 generalize S σ0=σ1 at*
 clear hap hgw hlw hnx hlo hro hs hi hss hisz
 unfold lim at hMl
 refine ex_whileI (S:=Nat×List (List UInt8)×AV) (fun p=> [(3,p.2.2),(16,W),(17, .int .i64 M.length),(18, .int .i64 (p.1:Int))]) (fun p=>M.length - p.1)
  (fun p σ=>Gr LV σ W M∧Gr LBy σ p.2.2 p.2.1∧farW p.2.2 W∧p.2.1.length≤4∧(M.drop p.1).foldl stepP p.2.1=M.foldl stepP []) ?_ (0, [], .nils) _ ⟨hg0,Gr.nil LBy _,(by intro _ _ _ _ _ _ _ _ e; cases e),by simp,rfl⟩
 rintro b ⟨j,acc,v⟩ σ ⟨hw,hg,hf,hlen,hj⟩ ih
 simp only at hw hg hf hlen hj ih ⊢
 by_cases hlt:j < M.length
 ·obtain ⟨y,hy⟩:=get_lt hlt
  obtain ⟨q,hq1,hq2⟩:=hw.idxA (by decide) hy
  have hq1:idxOf 5 none W (.int .i64 (j:Int))=some q:=hq1
  have hq2:readPtr σ q (some 5)=some y.enc:=hq2
  have hcond:=dlt hlt
  have hwr:=wsucc hlt (by omega)
  have hysz:=hMsz y (List.mem_of_getElem? hy)
  have hta:=r_textAt y kPub (by unfold big lim at*; omega)
  have htl:=textAt_len y kPub
  have hG:=r_bGet (textAt y kPub).1 (by omega)
  obtain ⟨e,he⟩:=getE_b (getB (textAt y kPub).1)
  rw [he] at hG
  have hkb:(getB (textAt y kPub).1).getD []=keyB y:=rfl
  rw [hkb] at hG
  have hn:=hg.newset
  have hwn:=hw.newset
  rw [drop_cons hy,List.foldl_cons] at hj
  have hsp:stepP acc y=if (textAt y kPub).2=true∧acc.length < 4 then acc ++ [keyB y] else acc:=rfl
  rw [hsp] at hj
  generalize keyB y=kb at*
  generalize (textAt y kPub).1=s at*
  have hlv:=hg.lenL
  cases hok:(textAt y kPub).2 with
  | false=>
   rw [hok] at hta hj
   rw [if_neg (by simp)] at hj
   simp only [B5Fa,EXA,seval,VX,readAt_some,hcond,hq1,hq2,hta,hwr]
   exact ih (j+1,acc,v) _ _ (by simp; omega) ⟨hwn _ _,hn _ _,hf,hlen,hj⟩ (by simp only [EXA,seval])
  | true=>
   rw [hok] at hta hj
   by_cases h4:acc.length < 4
   ·rw [if_pos ⟨rfl,h4⟩] at hj
    have q4:decide ((acc.length:Int) < 4)=true:=by simp; omega
    have happ: ∀a b,appendTo _ 1 24 v [bsE kb] 1=some _:=fun a b=>(hn a b).push (a:=kb) (bytes:=24) (by omega) (by unfold maxBytes; omega)
    have hlo1:lenOf (.vsl [bsE kb] (some 1))=some 1:=rfl
    have hro1: ∀σ',rowOf σ' 1 (.vsl [bsE kb] (some 1))=some [bsE kb]:=fun _=>rfl
    simp only [bsE] at hG happ hlo1 hro1
    simp only [B5Fa,EXA,seval,VX,readAt_some,hcond,hq1,hq2,hta,hwr,hlv,q4,hG,happ,hlo1,hro1]
    exact ih (j+1,acc ++ [kb],_) _ _ (by simp; omega) ⟨keepW (hwn _ _) (hn _ _) hf,Gr.own ((hn _ _).next (by simp)),(by
     intro b len sz c len' sz' c' e h
     have:=gr_lt hw e
     have h2:σ.next+1=b:=by cases h; rfl
     omega),by simp; omega,hj⟩ (by simp only [EXA,seval]; rfl)
   ·rw [if_neg (fun c=>h4 c.2)] at hj
    have q4:decide ((acc.length:Int) < 4)=false:=by simp; omega
    simp only [B5Fa,EXA,seval,VX,readAt_some,hcond,hq1,hq2,hta,hwr,hlv,q4]
    exact ih (j+1,acc,v) _ _ (by simp; omega) ⟨hwn _ _,hn _ _,hf,hlen,hj⟩ (by simp only [EXA,seval])
 ·have hcond:=dge (Nat.not_lt.1 hlt)
  rw [List.drop_eq_nil_of_le (by omega)] at hj
  have hj2:acc=M.foldl stepP []:=hj
  have hrb:=hg.rbE
  simp only [B5Fa,EXA,seval,VX,hcond,hrb,hj2]
  rfl
end Go.Ab
namespace Go.Ab
set_option maxHeartbeats 1000000
def B6Fa:= @F193.eq_1
set_option maxRecDepth 100000
abbrev fP2 (msg:Bs) (sig:List UInt8):AV:= .fn 221 [] [.vptr [.str msg] 0, .vptr [bsE sig] 0]
abbrev fP1 (pubs:List (List UInt8)) (msg:Bs):AV:= .fn 193 [] [.vptr [.vsl (pubs.map fun s=>bsE s) none] 0, .vptr [.str msg] 0]
def provesS (pubs:List (List UInt8)) (msg:Bs) (s:Bs):Bool:=match getB s with
 | some sig=>pubs.any fun pub=>verB sha512 pub msg sig
 | none=>false
theorem rb_pt {σ:Store} {b d:Nat} {cs:List AV} (h:look σ.m b=some (.own cs)) (hc:closedL cs=true):rb σ (d+1) (.ptr b 0)=some (.vptr cs 0):=by
 have hb:σ.cells b=some cs:=by unfold Store.cells Store.get; rw [h]
 rw [rb,if_neg (by simp [AV.closed])]
 simp only [hb,mapO_closed' hc]
theorem rb_fnc {σ:Store} {d f:Nat} {c c':List AV} (h:mapO (rb σ d) c=some c') (nc:closedL c=false):rb σ (d+1) (.fn f [] c)=some (.fn f [] c'):=by
 rw [rb,if_neg (by simp [AV.closed,nc])]
 simp only [mapO,h]
theorem callP_p2 {σ:Store} {b:Nat} {pubs:List (List UInt8)} {msg:Bs} {sig:List UInt8} {st r:Bool} (h:look σ.m b=some (.own [bsE sig])) (hA:cR 222 [.vsl (pubs.map fun s=>bsE s) none,fP2 msg sig]=some (.bool r)) :
  callP ipU gU st (.fn 222 [] []) [.vsl (pubs.map fun s=>bsE s) none, .fn 221 [] [.vptr [.str msg] 0, .ptr b 0]] σ=some (.bool r,σ):=by
 have hc:closedL (pubs.map fun s=>bsE s)=true:=closedL_map fun a _=>LBy.closed a
 have k1:mapO (rb σ 23) [.vptr [.str msg] 0, .ptr b 0]=some [.vptr [.str msg] 0, .vptr [bsE sig] 0]:=by
  simp only [mapO,rb_closed' (show (AV.vptr [.str msg] 0).closed=true from rfl),show (23:Nat)=22+1 from rfl,rb_pt h (show closedL [bsE sig]=true from by simp only [closedL,AV.closed,closed_u8,Bool.and_self])]
 refine callP_flat (args':= [.vsl (pubs.map fun s=>bsE s) none,fP2 msg sig]) rfl ?_ ?_ rfl
 ·simp only [mapO,rb_closed' (show (AV.vsl (pubs.map fun s=>bsE s) none).closed=true from by simp only [AV.closed,hc]),show rbDepth=23+1 from rfl,rb_fnc k1 rfl]
 ·rw [show erL [AV.vsl (pubs.map fun s=>bsE s) none,fP2 msg sig]= [AV.vsl (pubs.map fun s=>bsE s) none,fP2 msg sig] from by simp only [erL_cons,erL_nil,er_vsl,her_B,AV.er,er_u8]]
  exact hA
theorem r_p221 {msg:Bs} (hm:msg.length < 1099511000000) (sig pub:List UInt8):callR ipU gU (fP2 msg sig) [bsE pub]=some (.bool (verB sha512 pub msg sig)):=by
 rw [callR_first]
 show cR 221 [bsE pub, .vptr [.str msg] 0, .vptr [bsE sig] 0]=_
 have h:=r_Verify (pub:=pub) (sig:=sig) hm
 refine cR_of (F:=F221) rfl ?_
 simp only [bsE] at h ⊢
 simp only [F221,EXA,seval,VX,readAt_some,closed_u8,er_u8,h]
 done
theorem r_p193 {pubs:List (List UInt8)} {msg:Bs} (hm:msg.length < 1099511000000) (hp:pubs.length < big) (s:Bs) (hs:s.length < lim):callR ipU gU (fP1 pubs msg) [.str s]=some (.bool (provesS pubs msg s)):=by
 rw [callR_first]
 show cR 193 [.str s, .vptr [.vsl (pubs.map fun s=>bsE s) none] 0, .vptr [.str msg] 0]=_
 have hG:=r_bGet s hs
 have hcl:closedL (pubs.map fun s=>bsE s)=true:=closedL_map fun a _=>LBy.closed a
 have her:=her_B pubs
 unfold provesS
 refine cR_of (F:=F193) rfl ?_
 cases hg:getB s with
 | none=>
  rw [hg] at hG
  simp only [getE] at hG
  simp only [B6Fa,EXA,seval,VX,readAt_some,hG,hcl,her]
  done
 | some sig=>
  rw [hg] at hG
  simp only [getE] at hG
  have hA:=r_anyFB pubs (fP2 msg sig) (fun pub=>verB sha512 pub msg sig) (by simp only [AV.closed,closedL,closed_u8,Bool.and_self]) (by simp only [AV.er,erL_cons,erL_nil,er_u8]) hp (fun v _=>r_p221 hm sig v)
  have hC:=fun (σ:Store) (h:look σ.m 0=some (.own [bsE sig]))=>callP_p2 (st:=false) h hA
  simp only [bsE] at hG hC hcl her ⊢
  simp only [B6Fa,EXA,seval,VX,readAt_some,hG,hcl,her,hC,closed_u8,er_u8]
  done
end Go.Ab
namespace Go.Ab
set_option maxHeartbeats 1000000
def B7Fa:= @F172.eq_1
set_option maxRecDepth 100000
def provesV (m t:V) (msg:Bs):Bool:=(signedV m).2 && (textsV (signedV m).1).any (provesS (pubsV t) msg)
theorem stepT_sz {n:Nat} {acc:List Bs} {y:Mem} (h: ∀s∈acc,s.length≤n) (hy:y.2.sz≤n): ∀s∈stepT acc y,s.length≤n:=by
 intro s hs
 unfold stepT at hs
 split at hs
 ·rcases List.mem_append.1 hs with k | k
  ·exact h s k
  ·simp only [List.mem_singleton] at k
   subst k
   have:=y.2.sz_eq
   omega
 ·exact h s hs
theorem foldT_sz {n:Nat}: ∀(l:List Mem) {acc:List Bs},(∀s∈acc,s.length≤n)→(∀y∈l,y.2.sz≤n)→∀s∈l.foldl stepT acc,s.length≤n
 | [],_,h,_=>h
 | y ::l,acc,h,hl=>foldT_sz l (stepT_sz h (hl y (by simp))) (fun z hz=>hl z (by simp [hz]))
theorem foldO_sz {n:Nat}: ∀(l:List Mem) {acc:List Bs},(∀s∈acc,s.length≤n)→(∀y∈l,y.2.sz≤n)→∀s∈l.foldl stepO acc,s.length≤n
 | [],_,h,_=>h
 | y ::l,acc,h,hl=>foldO_sz l (by
   unfold stepO; split
   ·exact foldT_sz _ h (fun z hz=>Nat.le_trans (mem_szT hz) (hl y (by simp)))
   ·exact h) (fun z hz=>hl z (by simp [hz]))
theorem textsV_sz (x:V): ∀s∈textsV x,s.length≤x.sz:=by
 have h:=tableV_sz x kSigs
 exact foldO_sz _ (by simp) (fun y hy=>Nat.le_trans (mem_szT hy) h)
theorem foldO_len: ∀(l:List Mem) {acc:List Bs},acc.length≤4→(l.foldl stepO acc).length≤4
 | [],_,h=>h
 | y ::l,_,h=>foldO_len l (stepO_len y h)
theorem foldP_len: ∀(l:List V) {acc:List (List UInt8)},acc.length≤4→(l.foldl stepP acc).length≤4
 | [],_,h=>h
 | y ::l,acc,h=>foldP_len l (by
   unfold stepP; split
   ·simp; omega
   ·exact h)
theorem callP_p1 {σ:Store} {b c:Nat} {ts:List Bs} {pubs:List (List UInt8)} {msg:Bs} {st r:Bool} (h:look σ.m b=some (.own [.vsl (pubs.map fun s=>bsE s) none])) (h':look σ.m c=some (.own [.str msg])) (hA:cR 194 [.vsl (ts.map .str) none,fP1 pubs msg]=some (.bool r)) :
  callP ipU gU st (.fn 194 [] []) [.vsl (ts.map .str) none, .fn 193 [] [.ptr b 0, .ptr c 0]] σ=some (.bool r,σ):=by
 have hc:closedL (pubs.map fun s=>bsE s)=true:=closedL_map fun a _=>LBy.closed a
 have hc2:closedL (ts.map AV.str)=true:=closedL_map fun a _=>LStr.closed a
 have k1:mapO (rb σ 23) [.ptr b 0, .ptr c 0]=some [.vptr [.vsl (pubs.map fun s=>bsE s) none] 0, .vptr [.str msg] 0]:=by
  simp only [mapO,show (23:Nat)=22+1 from rfl,rb_pt h (show closedL [AV.vsl (pubs.map fun s=>bsE s) none]=true from by simp only [closedL,AV.closed,hc,Bool.and_self]),rb_pt h' rfl]
 refine callP_flat (args':= [.vsl (ts.map .str) none,fP1 pubs msg]) rfl ?_ ?_ rfl
 ·simp only [mapO,rb_closed' (show (AV.vsl (ts.map AV.str) none).closed=true from by simp only [AV.closed,hc2]),show rbDepth=23+1 from rfl,rb_fnc k1 rfl]
 ·rw [show erL [AV.vsl (ts.map AV.str) none,fP1 pubs msg]= [AV.vsl (ts.map AV.str) none,fP1 pubs msg] from by simp only [erL_cons,erL_nil,er_vsl,her_S,her_B,AV.er]]
  exact hA
theorem r_Proves {m t:V} {msg:Bs} {e:Int} (hbm:m.sz < lim) (hbt:t.sz < lim) (hm:msg.length < 1099511000000)
  (hw:(signedV m).2=true→cR 190 [(dropV (signedV m).1 [kSigs]).enc]=some (.tup [.str msg, .int .i64 e])):cR 172 [m.enc,t.enc]=some (.bool (provesV m t msg)):=by
 have hbig:m.sz < big:=by unfold big lim at*; omega
 have hs:=r_signed m hbig
 have hsz:=signedV_sz m
 have hp:=r_pubs t hbt
 have hpl:(pubsV t).length≤4:=foldP_len _ (by simp)
 unfold provesV
 generalize (signedV m).1=X at*
 cases hok:(signedV m).2 with
 | false=>
  rw [hok] at hs
  refine cR_of (F:=F172) rfl ?_
  simp only [B7Fa,EXA,seval,VX,readAt_some,hs,Bool.false_and]
 | true=>
  rw [hok] at hs
  have hw:=hw hok
  have hD:cR 131 [X.enc, .vsl [.str kSigs] none]=some (dropV X [kSigs]).enc:=r_Drop X [kSigs] (by have:=m_len_sz X; omega) (by simp [big])
  have ht:=r_firstTexts X (by omega)
  have hts:=textsV_sz X
  have htl:(textsV X).length≤4:=foldO_len _ (by simp)
  generalize pubsV t=P at*
  generalize textsV X=T at*
  generalize dropV X [kSigs]=D at*
  have hA:=r_anyFS T (fP1 P msg) (provesS P msg) (by simp only [AV.closed,closedL,closedL_map (fun a (_:a∈P)=>LBy.closed a),show (fun s=>bsE s)=LBy.f from rfl,Bool.and_self]) (by simp only [AV.er,erL_cons,erL_nil,her_B]) (by unfold big; omega) (fun s hs=>r_p193 hm (by unfold big; omega) s (by have:=hts s hs; omega))
  have hC:=fun (σ:Store) (h:look σ.m 2=_) (h':look σ.m 1=_)=>callP_p1 (b:=2) (c:=1) (st:=false) (σ:=σ) h h' hA
  refine cR_of (F:=F172) rfl ?_
  rw [Bool.true_and]
  simp only [bsE] at hp hC ⊢
  simp only [B7Fa,EXA,seval,VX,readAt_some,hs,hD,hw,hp,ht,hC]
  done
end Go.Ab
namespace Go.Ab
set_option maxHeartbeats 1000000
def B8Fa:=J @F176_7.eq_1 (J @F176_13.eq_1 (J @F176_14.eq_1 (@F176.eq_1)))
set_option maxRecDepth 100000
def pubT (seed:UInt8):Bs:=putS (pubB sha512 (seedB seed))
theorem r_skey (seed:UInt8):cR 181 [.int .u8 (seed.toNat:Int)]=some (.str (pubT seed)):=by
 have hs:=r_Seed seed
 have hl:(seedB seed).length=32:=by simp [seedB]
 have hp:=r_Public hl
 have hpl:(pubB sha512 (seedB seed)).length=32:=by rw [pubB,toLE_len]
 have hq:=r_put (pubB sha512 (seedB seed)) (by omega)
 unfold pubT
 generalize pubB sha512 (seedB seed)=P at*
 generalize seedB seed=sd at*
 refine cR_of (F:=F181) rfl ?_
 simp only [bsE] at hs hp hq
 simp only [F181,EXA,seval,VX,readAt_some,hs,hp,hq,closed_u8,er_u8]
 done
theorem r_scond (t r:Bs):cR 180 [.str t, .str r]=some (mapOf [(kType,tV3 t),(kRoomId,tV3 r)]).enc:=by
 have a3: ∀s,cR 18 [.str s]=some (tV3 s).enc:=r_Text
 have m1:cR 20 [.vsl [memE (kType,tV3 t),memE (kRoomId,tV3 r)] none]=some (mapOf [(kType,tV3 t),(kRoomId,tV3 r)]).enc:=r_Map [(kType,tV3 t),(kRoomId,tV3 r)] (by simp)
 generalize mapOf [(kType,tV3 t),(kRoomId,tV3 r)]=M at*
 refine cR_of (F:=F180) rfl ?_
 simp only [F180,EXA,seval,VX,readAt_some,a3,m1]
 done
def otherK:V:=mapOf [(kPub,tV3 [65,65,65,65])]
def pubsL (seed:UInt8) (n:Nat):List V:=List.replicate n otherK ++ [mapOf [(kPub,tV3 (pubT seed))]]
def publicsV (seed:UInt8) (n:Nat):V:=mapOf [(kPubs,V.mk 4 0 [] (pubsL seed n) [])]
theorem r_Publics (seed:UInt8) {n:Nat} (hn:n < 1000):cR 176 [.int .u8 (seed.toNat:Int), .int .i64 (n:Int)]=some (publicsV seed n).enc:=by
 have a3: ∀s,cR 18 [.str s]=some (tV3 s).enc:=r_Text
 have m1:cR 20 [.vsl [memE (kPub,tV3 [65,65,65,65])] none]=some otherK.enc:=r_Map [(kPub,tV3 [65,65,65,65])] (by simp)
 have m2:cR 20 [.vsl [memE (kPub,tV3 (pubT seed))] none]=some (mapOf [(kPub,tV3 (pubT seed))]).enc:=r_Map [(kPub,tV3 (pubT seed))] (by simp)
 have m3:=r_List (pubsL seed n) (by rw [pubsL,List.length_append,List.length_replicate]; simp [lim]; omega)
 have m4:cR 20 [.vsl [memE (kPubs,V.mk 4 0 [] (pubsL seed n) [])] none]=some (publicsV seed n).enc:=r_Map [(kPubs,V.mk 4 0 [] (pubsL seed n) [])] (by simp)
 have hs:=r_Seed seed
 have hl:(seedB seed).length=32:=by simp [seedB]
 have hp:=r_Public hl
 have hpl:(pubB sha512 (seedB seed)).length=32:=by rw [pubB,toLE_len]
 have hq:=r_put (pubB sha512 (seedB seed)) (by omega)
 rw [show putS (pubB sha512 (seedB seed))=pubT seed from rfl] at hq
 have hfin:pubsL seed n=List.replicate n otherK ++ [mapOf [(kPub,tV3 (pubT seed))]]:=rfl
 generalize pubsL seed n=R at*
 generalize V.mk 4 0 [] R []=RV at*
 generalize publicsV seed n=Z at*
 generalize mapOf [(kPub,tV3 (pubT seed))]=O at*
 generalize otherK=A at*
 generalize pubT seed=pt at*
 generalize pubB sha512 (seedB seed)=P at*
 generalize seedB seed=sd at*
 refine cR_of (F:=F176) rfl ?_
 simp only [bsE] at hs hp hq
 simp only [F176_7,F176_13,F176,ex_loop,EXA,seval,VX,readAt_some,hs,hp,hq,closed_u8,er_u8]
 refine ex_whileI (S:=Nat×AV) (fun p=> [(1, .int .i64 (n:Int)),(4, .ptr 0 0),(5, .vsl (u8cells P) none),(7,p.2),(8, .int .i64 (p.1:Int))]) (fun p=>n - p.1)
  (fun p σ=>Gr LV σ p.2 (List.replicate p.1 A)∧p.1≤n∧look σ.m 0=some (.own [.int .i64 0, .int .i64 0, .str [], .nils, .nils])∧1≤σ.next∧∀len sz c,p.2≠ .sl 0 0 len sz c) ?_ (0, .vsl [] (some 0)) _ ⟨Gr.nil0 LV _,by simp,rfl,Nat.le_refl _,by intro len sz c e; cases e⟩
 rintro b ⟨j,v⟩ σ ⟨hg,hj,h0,hnx,hv⟩ ih
 simp only at hg hj h0 hnx hv ih ⊢
 have happ: ∀x:V,appendTo σ 5 80 v [.int .i64 x.kind, .int .i64 x.n, .str x.s, .vsl (x.l.map V.enc) none, .vsl (x.m.map memE) none] 1=some (.sl σ.next 0 (List.replicate j A ++ [x]).length 5 none,grNext LV σ v (List.replicate j A) [x]):=fun x=>by
  have:=hg.push (a:=x) (bytes:=80) (by omega) (by simp [maxBytes]; omega)
  rw [show (LV.f x).cells=_ from V.enc_cells x] at this
  exact this
 have hlo: ∀x:V,lenOf (.vsl [x.enc] (some 1))=some 1:=fun _=>rfl
 have hro: ∀(σ':Store) (x:V),rowOf σ' 5 (.vsl [x.enc] (some 1))=some [.int .i64 x.kind, .int .i64 x.n, .str x.s, .vsl (x.l.map V.enc) none, .vsl (x.m.map memE) none]:=fun σ' x=>by rw [V.enc_eq]; rfl
 have hkeep: ∀x:V,look (grNext LV σ v (List.replicate j A) [x]).m 0=some (.own [.int .i64 0, .int .i64 0, .str [], .nils, .nils]):=fun x=>by
  have:=grNext_get (m:= [x]) hg (b:=0) (by omega) hv
  unfold Store.get at this
  rw [this]; exact h0
 have hown:=fun x:V=>hg.next (m:= [x]) (by simp)
 by_cases hlt:j < n
 ·have hcond:=dlt hlt
  have hwr:=wsucc hlt (by omega)
  simp only [B8Fa,EXA,seval,VX,readAt_some,hcond,hwr,a3,m1,happ,hlo,hro]
  have hrep:List.replicate (j+1) A=List.replicate j A ++ [A]:=List.replicate_succ'
  refine ih (j+1, .sl σ.next 0 (List.replicate j A ++ [A]).length 5 none) _ _ (by simp; omega) ⟨by simp only [hrep]; exact Gr.own (hown A),by simp; omega,hkeep A,by rw [grNext_next]; omega,by intro len sz c e; simp only [AV.sl.injEq] at e; omega⟩ ?_
  simp only [EXA,seval]
 ·have hcond:=dge (Nat.not_lt.1 hlt)
  have hjn:j=n:=by omega
  subst hjn
  have hk:=hkeep O
  obtain ⟨hget,_,_,_⟩:=hown O
  have hne:σ.next≠0:=by omega
  have hR:List.replicate j A ++ [O]=R:=hfin.symm
  rw [hR] at hget
  have happO:=happ O
  rw [hR] at happO
  generalize grNext LV σ v (List.replicate j A) [O]=S at*
  have hfz:S.freeze1 σ.next=S.set σ.next (.frz (LV.cells R)):=by
   unfold Store.freeze1; rw [hget]
  have hview:readPtrF { next:=S.next,m:=(σ.next,Blk.frz (LV.cells R)) ::S.m } (.sl σ.next 0 R.length 5 none) (some 0)=some (.vsl (R.map V.enc) none):=view_row (L:=LV) (by
   unfold Store.get; simp [look])
  have hk2:look ((σ.next,Blk.frz (LV.cells R)) ::S.m) 0=some (.own [.int .i64 0, .int .i64 0, .str [], .nils, .nils]):=by
   simp only [look]; rw [if_neg hne]; exact hk
  simp only [B8Fa,EXA,seval,ex_frz,@x_loadF,@po_loadF,@frzTs_nil,@frzTs_cons,@frzV_sl,hfz,hview,VX,readAt_some,hcond,a3,m2,m3,m4,hq,happO,hlo,hro,closed_u8,er_u8,hk,hk2]
  done
end Go.Ab
namespace Go.Ab
set_option maxHeartbeats 1000000
set_option maxRecDepth 100000
def oK:V:=V.mk 5 0 [] [] [(kPub,tV3 [65,65,65,65])]
def pubV (p:Bs) (n:Nat):V:=V.mk 5 0 [] [] [(kPubs,V.mk 4 0 [] (List.replicate n oK ++ [V.mk 5 0 [] [] [(kPub,tV3 p)]]) [])]
theorem publics_eq (seed:UInt8) (n:Nat):publicsV seed n=pubV (pubT seed) n:=by
 unfold publicsV pubV pubsL
 rw [show otherK=oK by kernel_rfl,show mapOf [(kPub,tV3 (pubT seed))]=V.mk 5 0 [] [] [(kPub,tV3 (pubT seed))] by kernel_rfl]
 generalize List.replicate n oK ++ [V.mk 5 0 [] [] [(kPub,tV3 (pubT seed))]]=l
 kernel_rfl
theorem fine_tx {s:Bs} (h:vu s=true):(tV3 s).fine=true:=by
 rw [tV3,V.fine,if_neg (by decide),if_neg (by decide),if_neg (by decide),if_pos rfl,h]; rfl
theorem fine_mp {m:List Mem} (h:fineM none m=true):(V.mk 5 0 [] [] m).fine=true:=by
 rw [V.fine,if_neg (by decide),if_neg (by decide),if_neg (by decide),if_neg (by decide),if_neg (by decide),if_pos rfl,h]; rfl
theorem fine_ls {l:List V} (h:fineL l=true):(V.mk 4 0 [] l []).fine=true:=by
 rw [V.fine,if_neg (by decide),if_neg (by decide),if_neg (by decide),if_neg (by decide),if_pos rfl,h]; rfl
theorem fineL_app: ∀ {a b:List V},fineL a=true→fineL b=true→fineL (a ++b)=true
 | [],_,_,h=>h
 | x ::a,b,h,k=>by
  rw [fineL,Bool.and_eq_true] at h
  rw [List.cons_append,fineL,h.1,fineL_app h.2 k]; rfl
theorem fine_pub {p:Bs} (h:vu p=true) (n:Nat):(pubV p n).fine=true:=by
 have k1:vu kPub=true:=by kernel_rfl
 have k2:vu kPubs=true:=by kernel_rfl
 have ho:oK.fine=true:=by kernel_rfl
 have hr: ∀n,fineL (List.replicate n oK)=true:=by
  intro n
  induction n with
  | zero=>rfl
  | succ n ih=>rw [List.replicate_succ,fineL,ho,ih]; rfl
 have hx:(V.mk 5 0 [] [] [(kPub,tV3 p)]).fine=true:=fine_mp (by rw [fineM_cons,k1,fine_tx h]; rfl)
 unfold pubV
 exact fine_mp (by rw [fineM_cons,k2,fine_ls (fineL_app (hr n) (by rw [fineL,hx]; rfl))]; rfl)
theorem dep_pub (p:Bs) {n:Nat} (h:n < 6):decide ((pubV p n).dep≤50)=true:=by
 rcases (show n=0∨n=1∨n=2∨n=3∨n=4∨n=5 by omega) with rfl | rfl | rfl | rfl | rfl | rfl <;> kernel_rfl
theorem said_pub {p:Bs} (h:vu p=true) {n:Nat} (hn:n < 6):said (pubV p n)=pubV p n:=by
 have g:(pubV p n).good=true:=by rw [V.good,fine_pub h,dep_pub p hn]; rfl
 rw [said,g]; rfl
theorem pubs_pub {p:Bs} (h:vu p=true) {k:List UInt8} (hk:getB p=some k) {n:Nat} (hn:n < 6):pubsV (pubV p n)=(List.replicate n [0,0,0] ++ [k]).take 4:=by
 rw [pubsV,said_pub h hn]
 have e1:textAt (pubV p n) kPub=([],false):=by kernel_rfl
 have e2:itemsV (pubV p n) kPubs=List.replicate n oK ++ [V.mk 5 0 [] [] [(kPub,tV3 p)]]:=by kernel_rfl
 have e3:textAt oK kPub=([65,65,65,65],true):=by kernel_rfl
 have e4:textAt (V.mk 5 0 [] [] [(kPub,tV3 p)]) kPub=(p,true):=by kernel_rfl
 have e5:getB [65,65,65,65]=some [0,0,0]:=by kernel_rfl
 have s1: ∀acc,stepP acc (pubV p n)=acc:=fun acc=>by rw [stepP,e1,if_neg (by simp)]
 have s2: ∀acc,stepP acc oK=if acc.length < 4 then acc ++ [[0,0,0]] else acc:=fun acc=>by
  rw [stepP,keyB,e3,e5]; simp
 have s3: ∀acc,stepP acc (V.mk 5 0 [] [] [(kPub,tV3 p)])=if acc.length < 4 then acc ++ [k] else acc:=fun acc=>by
  rw [stepP,keyB,e4,hk]; simp
 rw [e2,List.foldl_cons,s1]
 rcases (show n=0∨n=1∨n=2∨n=3∨n=4∨n=5 by omega) with rfl | rfl | rfl | rfl | rfl | rfl <;> simp [List.replicate,s2,s3]
end Go.Ab
namespace Go.Ab
set_option maxHeartbeats 1000000
set_option maxRecDepth 100000
def moreL (n:Nat):List Mem:=(List.range n).map fun i=>(edKey i,tV3 sX)
def signE (token mxid:Bs) (L:List Mem):V:=V.mk 5 0 [] [] [(kMxid,tV3 mxid),(kSigs,V.mk 5 0 [] [] [(kIdOrg,V.mk 5 0 [] [] L)]),(kToken,tV3 token)]
def invE (token mxid:Bs) (L:List Mem):V:=V.mk 5 0 [] [] [(kMembership,tV3 kInvite),(kThird,V.mk 5 0 [] [] [(kSigned,signE token mxid L)])]
theorem invE_eq (token mxid g:Bs) {n:Nat} (hn:n < 6):inviteV token mxid n g=invE token mxid (moreL n ++ [(kEdZ,tV3 g)]):=by
 rcases (show n=0∨n=1∨n=2∨n=3∨n=4∨n=5 by omega) with rfl | rfl | rfl | rfl | rfl | rfl <;> kernel_rfl
theorem drop_signE (token mxid:Bs) (L:List Mem):dropV (signE token mxid L) [kSigs]=inv0 token mxid:=by kernel_rfl
theorem fineM_nil (p:Option Bs):fineM p []=true:=by cases p <;> rfl
theorem fine_more {g:Bs} (hg:vu g=true) {n:Nat} (hn:n < 6):fineM none (moreL n ++ [(kEdZ,tV3 g)])=true:=by
 have kx:(tV3 sX).fine=true:=by kernel_rfl
 have fg:=fine_tx hg
 have e: ∀i,i < 5→vu (edKey i)=true:=fun i hi=>by
  rcases (show i=0∨i=1∨i=2∨i=3∨i=4 by omega) with rfl | rfl | rfl | rfl | rfl <;> kernel_rfl
 have ez:vu kEdZ=true:=by kernel_rfl
 have o1:okP (some (edKey 0)) (edKey 1)=true:=by kernel_rfl
 have o2:okP (some (edKey 1)) (edKey 2)=true:=by kernel_rfl
 have o3:okP (some (edKey 2)) (edKey 3)=true:=by kernel_rfl
 have o4:okP (some (edKey 3)) (edKey 4)=true:=by kernel_rfl
 have z: ∀i,i < 5→okP (some (edKey i)) kEdZ=true:=fun i hi=>by
  rcases (show i=0∨i=1∨i=2∨i=3∨i=4 by omega) with rfl | rfl | rfl | rfl | rfl <;> kernel_rfl
 have n0: ∀k,okP none k=true:=fun _=>rfl
 rcases (show n=0∨n=1∨n=2∨n=3∨n=4∨n=5 by omega) with rfl | rfl | rfl | rfl | rfl | rfl <;>
  simp only [moreL,List.range,List.range.loop,List.map_cons,List.map_nil,List.cons_append,List.nil_append,fineM_cons,n0,kx,fg,ez,e 0 (by decide),e 1 (by decide),e 2 (by decide),e 3 (by decide),e 4 (by decide),o1,o2,o3,o4,z 0 (by decide),z 1 (by decide),z 2 (by decide),z 3 (by decide),z 4 (by decide),fineM_nil,Bool.and_self]
theorem fine_invE {token mxid:Bs} {L:List Mem} (ht:vu token=true) (hx:vu mxid=true) (hL:fineM none L=true):(invE token mxid L).fine=true:=by
 have k1:vu kMembership=true:=by kernel_rfl
 have k2:vu kThird=true:=by kernel_rfl
 have k3:vu kSigned=true:=by kernel_rfl
 have k4:vu kMxid=true:=by kernel_rfl
 have k5:vu kSigs=true:=by kernel_rfl
 have k6:vu kToken=true:=by kernel_rfl
 have k7:vu kIdOrg=true:=by kernel_rfl
 have l2:okP (some kMembership) kThird=true:=by kernel_rfl
 have l3:okP (some kMxid) kSigs=true:=by kernel_rfl
 have l4:okP (some kSigs) kToken=true:=by kernel_rfl
 have n0: ∀k,okP none k=true:=fun _=>rfl
 have fi:(tV3 kInvite).fine=true:=by kernel_rfl
 have f1:(V.mk 5 0 [] [] [(kIdOrg,V.mk 5 0 [] [] L)]).fine=true:=fine_mp (by rw [fineM_cons,k7,n0,fine_mp hL]; rfl)
 have f2:(signE token mxid L).fine=true:=fine_mp (by simp only [fineM_cons,n0,k4,k5,k6,l3,l4,f1,fine_tx ht,fine_tx hx,fineM_nil,Bool.and_self])
 have f3:(V.mk 5 0 [] [] [(kSigned,signE token mxid L)]).fine=true:=fine_mp (by rw [fineM_cons,k3,n0,f2]; rfl)
 exact fine_mp (by simp only [fineM_cons,n0,k1,k2,l2,fi,f3,fineM_nil,Bool.and_self])
theorem dep_invE (token mxid g:Bs) {n:Nat} (h:n < 6):decide ((invE token mxid (moreL n ++ [(kEdZ,tV3 g)])).dep≤50)=true:=by
 rcases (show n=0∨n=1∨n=2∨n=3∨n=4∨n=5 by omega) with rfl | rfl | rfl | rfl | rfl | rfl <;> kernel_rfl
theorem sg_eq (token mxid:Bs) (L:List Mem):((tableV (tableV (invE token mxid L) kThird).1 kSigned).1,(tableV (tableV (invE token mxid L) kThird).1 kSigned).2 && ((textAt (tableV (tableV (invE token mxid L) kThird).1 kSigned).1 kToken).2 && (textAt (tableV (tableV (invE token mxid L) kThird).1 kSigned).1 kMxid).2))=(signE token mxid L,true):=by kernel_rfl
theorem signed_inv {token mxid g:Bs} (ht:vu token=true) (hx:vu mxid=true) (hg:vu g=true) {n:Nat} (hn:n < 6) :
  signedV (invE token mxid (moreL n ++ [(kEdZ,tV3 g)]))=(signE token mxid (moreL n ++ [(kEdZ,tV3 g)]),true):=by
 have g0:(invE token mxid (moreL n ++ [(kEdZ,tV3 g)])).good=true:=by rw [V.good,fine_invE ht hx (fine_more hg hn),dep_invE token mxid g hn]; rfl
 have hs:said (invE token mxid (moreL n ++ [(kEdZ,tV3 g)]))=invE token mxid (moreL n ++ [(kEdZ,tV3 g)]):=by rw [said,g0]; rfl
 rw [signedV,hs]
 exact sg_eq token mxid _
theorem texts_sign (token mxid g:Bs) {n:Nat} (hn:n < 6):textsV (signE token mxid (moreL n ++ [(kEdZ,tV3 g)]))=(List.replicate n sX ++ [g]).take 4:=by
 rcases (show n=0∨n=1∨n=2∨n=3∨n=4∨n=5 by omega) with rfl | rfl | rfl | rfl | rfl | rfl <;> kernel_rfl
theorem prove_x (P:List (List UInt8)) (msg:Bs):provesS P msg sX=false:=by
 rw [provesS,show getB sX=none by kernel_rfl]
theorem prove_g {P:List (List UInt8)} {msg g:Bs} {sig:List UInt8} (h:getB g=some sig):provesS P msg g=P.any fun pub=>verB sha512 pub msg sig:=by
 rw [provesS,h]
theorem ver_0 (msg sig:List UInt8):verB sha512 [0,0,0] msg sig=false:=ver_len (fun c=>by simp at c)
theorem proves_iff {token mxid g pk msg:Bs} {sig key:List UInt8} (ht:vu token=true) (hx:vu mxid=true) (hg:vu g=true) (hp:vu pk=true) (gs:getB g=some sig) (gk:getB pk=some key) {n o:Nat} (hn:n < 6) (ho:o < 6) :
  provesV (invE token mxid (moreL n ++ [(kEdZ,tV3 g)])) (pubV pk o) msg=(decide (n < 4) && (decide (o < 4) && verB sha512 key msg sig)):=by
 rw [provesV,signed_inv ht hx hg hn,texts_sign token mxid g hn,pubs_pub hp gk ho]
 have hG:=prove_g (P:=(List.replicate o [0,0,0] ++ [key]).take 4) (msg:=msg) gs
 have hX:=prove_x ((List.replicate o [0,0,0] ++ [key]).take 4) msg
 have hP:((List.replicate o [0,0,0] ++ [key]).take 4).any (fun pub=>verB sha512 pub msg sig)=(decide (o < 4) && verB sha512 key msg sig):=by
  rcases (show o=0∨o=1∨o=2∨o=3∨o=4∨o=5 by omega) with rfl | rfl | rfl | rfl | rfl | rfl <;> simp [List.replicate,ver_0]
 rw [hP] at hG
 generalize provesS ((List.replicate o [0,0,0] ++ [key]).take 4) msg=F at*
 rcases (show n=0∨n=1∨n=2∨n=3∨n=4∨n=5 by omega) with rfl | rfl | rfl | rfl | rfl | rfl <;> simp [List.replicate,hG,hX]
end Go.Ab
namespace Go.Ab
set_option maxRecDepth 100000
def stA {α:Type} (h:Nat) (f:Nat→α):α:=match h with
 | 0=>f 0
 | h+1=>f (h+1)
theorem stA_eq {α:Type} (h:Nat) (f:Nat→α):stA h f=f h:=by cases h <;> rfl
def st4 {α:Type} (w:W4) (f:W4→α):α:=stA w.x fun x=>stA w.y fun y=>stA w.z fun z=>stA w.t fun t=>f ⟨x,y,z,t⟩
theorem st4_eq {α:Type} (w:W4) (f:W4→α):st4 w f=f w:=by simp only [st4,stA_eq]
def timesS (w:W4) (k:Nat):Nat→W4→W4
 | 0,s=>s
 | n+1,s=>st4 (dbl4 s) fun d=>if k / 2 ^ n % 2=1 then st4 (add4 d w) fun a=>timesS w k n a else timesS w k n d
theorem timesS_eq (w:W4) (k:Nat): ∀n s,timesS w k n s=times4 w k n s
 | 0,s=>rfl
 | n+1,s=>by
  rw [timesS,st4_eq,times4]
  split
  ·rw [st4_eq,timesS_eq w k n]
  ·rw [timesS_eq w k n]
def ptN (k:Nat):Nat×Nat:=
 st4 (timesS (flat4 baseP) k 256 zero4) fun w=>stA (pw PP w.z 256 (PP - 2)) fun zi=>(w.x*zi % PP,w.y*zi % PP)
def pkN (k:Nat):Nat:=stA k fun k=>(ptN k).2+2 ^ 255*((ptN k).1 % 2)
theorem inv_pw (z:Nat):(invK (cN z)).val=pw PP z 256 (PP - 2):=by
 have key: ∀M,M < 2 ^ 256→(cN z).val ^ M % PP=pw PP z 256 M:=fun M hM=>by
  rewrite [pw_eq _ _ _ _ hM,show (cN z).val=z % PP from rfl]
  exact (Nat.pow_mod z M PP).symm
 exact key (PP - 2) (by decide+kernel)
theorem pkN_eq {k:Nat} (hk:k < 2 ^ 256):packP (mulP baseP k)=pkN k:=by
 rw [←times_pt on_base hk,pkN,stA_eq,ptN,st4_eq,stA_eq,timesS_eq]
 generalize times4 (flat4 baseP) k 256 zero4=w
 have h:=inv_pw w.z
 generalize pw PP w.z 256 (PP - 2)=zi at*
 have e: ∀x,(cN x*invK (cN w.z)).val=x*zi % PP:=fun x=>by
  rw [Fin.val_mul,h,show (cN x).val=x % PP from rfl,Nat.mod_mul_mod]
 show (cN w.y*invK (cN w.z)).val+2 ^ 255*((cN w.x*invK (cN w.z)).val % 2)=_
 rw [e,e]
theorem neg_base {m:Nat} (h:m≤LL):negP (mulP baseP m)=mulP baseP (LL - m):=by
 have oX:=on_mul on_base m
 have oY:=on_mul on_base (LL - m)
 have e:addP (mulP baseP m) (mulP baseP (LL - m))=zeroP:=by rw [←mul_add' on_base,Nat.add_sub_cancel' h,order]
 rw [←add_zero' (negP (mulP baseP m)),←e,←add_assoc' (on_neg oX) oX oY,neg_add' oX,zero_add']
def verN (sd3 sd4 msg:List UInt8):Bool:=
 stA (secS sha512 sd3) fun s3=>stA (secS sha512 sd4) fun s4=>stA (sigR sha512 sd3 msg) fun r=>
 stA (pkN s3) fun a3=>stA (pkN s4) fun a4=>stA (pkN r) fun R=>
 stA (leN (sha512 (toLE 32 R ++toLE 32 a3 ++msg)) % LL) fun k3=>stA (leN (sha512 (toLE 32 R ++toLE 32 a4 ++msg)) % LL) fun k4=>
 pkN ((k3*s3+r) % LL+(LL - s4*k4 % LL)) == R
theorem sec_lt (seed:List UInt8):secS sha512 seed < 2 ^ 256:=by unfold secS; omega
theorem LL_lt (n:Nat):n % LL < 2 ^ 256:=Nat.lt_trans (Nat.mod_lt _ (by decide)) (by decide)
theorem ver_N (sd3 sd4 msg:List UInt8):verB sha512 (pubB sha512 sd4) msg (sigB sha512 sd3 msg)=verN sd3 sd4 msg:=by
 have hr:sigR sha512 sd3 msg < 2 ^ 256:=LL_lt _
 have l1:(pubB sha512 sd4).length=32:=toLE_len _ _
 have l2:(sigB sha512 sd3 msg).length=64:=by simp only [sigB,List.length_append,toLE_len]
 have t1:(sigB sha512 sd3 msg).take 32=toLE 32 (packP (mulP baseP (sigR sha512 sd3 msg))):=by
  rw [sigB]; exact List.take_left' (toLE_len _ _)
 have t2:(sigB sha512 sd3 msg).drop 32=toLE 32 ((leN (sha512 (toLE 32 (packP (mulP baseP (sigR sha512 sd3 msg))) ++pubB sha512 sd3 ++msg)) % LL*secS sha512 sd3+sigR sha512 sd3 msg) % LL):=by
  rw [sigB]; exact List.drop_left' (toLE_len _ _)
 have e2: ∀n,leN (toLE 32 (n % LL))=n % LL:=fun n=>leN_toLE _ _ (Nat.lt_trans (Nat.mod_lt _ (by decide)) (by decide))
 unfold verB
 rw [l1,l2,t2,e2,t1]
 simp only [beq_self_eq_true,Bool.true_and]
 rw [decide_eq_true (Nat.mod_lt _ (by decide)),Bool.true_and]
 have o:=on_mul on_base (secS sha512 sd4)
 rw [show leN (pubB sha512 sd4)=packP (mulP baseP (secS sha512 sd4)) from by rw [pubB,pack_le],open_pack o]
 simp only
 rw [pack_le,←mul_mul' on_base,←mul_mod (secS sha512 sd4*_),neg_base (Nat.le_of_lt (Nat.mod_lt _ (by decide))),←mul_add' on_base]
 simp only [verN,stA_eq]
 rw [pubB,pubB,pkN_eq hr,pkN_eq (sec_lt sd3),pkN_eq (sec_lt sd4),pkN_eq]
 have h1: ∀n,n % LL < LL:=fun n=>Nat.mod_lt _ (by decide)
 have h2: ∀a b,a % LL+(LL - b % LL) < 2 ^ 256:=fun a b=>by
  have:=h1 a
  have h3:LL+LL < 2 ^ 256:=by decide
  omega
 exact h2 _ _
end Go.Ab
namespace Go.Ab
set_option maxHeartbeats 1000000
set_option maxRecDepth 100000
end Go.Ab
namespace Go.Ab
set_option maxRecDepth 100000
def msgA:List UInt8:= [123,34,109,120,105,100,34,58,34,64,97,58,120,34,44,34,116,111,107,101,110,34,58,34,116,111,107,34,125]
theorem invA_enc:(inv0 sTok sA).enc= .agg [.int .i64 5, .int .i64 0, .str [], .vsl [] none, .vsl [.agg [.str kMxid, .int .i64 3, .int .i64 0, .str sA, .vsl [] none, .vsl [] none], .agg [.str kToken, .int .i64 3, .int .i64 0, .str sTok, .vsl [] none, .vsl [] none]] none]:=by kernel_rfl
theorem r_canonA:cR 190 [(inv0 sTok sA).enc]=some (.tup [.str msgA, .int .i64 0]):=by
 rw [invA_enc]
 exact cR_closed 20000 (by kernel_rfl)
def sig3:List UInt8:=sigB sha512 (seedB 3) msgA
theorem ver_33:verB sha512 (pubB sha512 (seedB 3)) msgA sig3=true:=ver_sig sha512 (seedB 3) msgA
theorem ver_43:verB sha512 (pubB sha512 (seedB 4)) msgA sig3=false:=by
 rw [sig3,ver_N]; kernel_rfl
end Go.Ab
namespace Go.Ab
set_option maxRecDepth 100000
abbrev rA:Bs:= [33,97,58,120]
abbrev rB:Bs:= [33,98,58,120]
abbrev rC:Bs:= [33,99,58,120]
def cnd (t r:Bs):V:=mapOf [(kType,tV3 t),(kRoomId,tV3 r)]
def lsK:List V:= [cnd kMRM rB,cnd sX rC,V.mk 2 1 [] [] [],cnd kMRM sB,cnd kMRM rA,cnd kMRM rB]
def cK:V:=mapOf [(kAllow,V.mk 4 0 [] lsK [])]
def uK:V:=mapOf [(kAuthd,tV3 sA)]
def uA:V:=setV uK kAuthd (tV3 [97])
def oddK:V:=V.mk 5 1 [] [] uK.m
def gS:Bs:=putS sig3
def inK (n:Nat):V:=inviteV sTok sA n gS
def botK:V:=setV (publicsV 3 3) kPub (tV3 sX)
def oneK:V:=mapOf [(kPub,tV3 (pubT 3))]
theorem al_c:allowsV cK= [rB,rA]:=by kernel_rfl
theorem al_u:allowsV uK= []:=by kernel_rfl
theorem au_u:authV uK=(sA,true):=by kernel_rfl
theorem au_a:authV uA=([],false):=by kernel_rfl
theorem au_o:authV oddK=([],false):=by kernel_rfl
theorem th_u:thirdV uK=([], [],false):=by kernel_rfl
theorem sg_u:(signedV uK).2=false:=by kernel_rfl
theorem vu_g:vu gS=true:=vu_put _
theorem vu_p (seed:UInt8):vu (pubT seed)=true:=vu_put _
theorem get_g:getB gS=some sig3:=getB_put _
theorem get_p (seed:UInt8):getB (pubT seed)=some (pubB sha512 (seedB seed)):=getB_put _
theorem tok_ok:vu sTok=true:=by kernel_rfl
theorem sA_ok:vu sA=true:=by kernel_rfl
theorem inK_eq {n:Nat} (hn:n < 6):inK n=invE sTok sA (moreL n ++ [(kEdZ,tV3 gS)]):=invE_eq sTok sA gS hn
theorem sg_in {n:Nat} (hn:n < 6):signedV (inK n)=(signE sTok sA (moreL n ++ [(kEdZ,tV3 gS)]),true):=by
 rw [inK_eq hn]; exact signed_inv tok_ok sA_ok vu_g hn
theorem th_sub (L:List Mem):(textAt (signE sTok sA L) kToken).1=sTok∧(textAt (signE sTok sA L) kMxid).1=sA:=by
 constructor <;> kernel_rfl
theorem th_in:thirdV (inK 0)=(sTok,sA,true):=by
 rw [thirdV,sg_in (by decide)]
 simp only [th_sub,if_true]
theorem pr_in {n o:Nat} (hn:n < 6) (ho:o < 6) (seed:UInt8):provesV (inK n) (publicsV seed o) msgA=(decide (n < 4) && (decide (o < 4) && verB sha512 (pubB sha512 (seedB seed)) msgA sig3)):=by
 rw [inK_eq hn,publics_eq]
 exact proves_iff tok_ok sA_ok vu_g (vu_p seed) get_g (get_p seed) hn ho
theorem pr_33:provesV (inK 3) (publicsV 3 3) msgA=true:=by rw [pr_in (by decide) (by decide),ver_33]; rfl
theorem pr_40:provesV (inK 4) (publicsV 3 0) msgA=false:=by rw [pr_in (by decide) (by decide)]; rfl
theorem pr_04:provesV (inK 0) (publicsV 3 4) msgA=false:=by rw [pr_in (by decide) (by decide)]; rfl
theorem pr_q:provesV (inK 0) (publicsV 4 0) msgA=false:=by rw [pr_in (by decide) (by decide),ver_43]; rfl
theorem pr_u (msg:Bs):provesV uK (publicsV 3 0) msg=false:=by rw [provesV,sg_u]; rfl
theorem one_pubs {p:Bs} (h:vu p=true) {k:List UInt8} (hk:getB p=some k):pubsV (mapOf [(kPub,tV3 p)])= [k]:=by
 have e:mapOf [(kPub,tV3 p)]=V.mk 5 0 [] [] [(kPub,tV3 p)]:=by kernel_rfl
 rw [e]
 have k1:vu kPub=true:=by kernel_rfl
 have g:(V.mk 5 0 [] [] [(kPub,tV3 p)]).fine=true:=fine_mp (by rw [fineM_cons,k1,fine_tx h]; rfl)
 have d:decide ((V.mk 5 0 [] [] [(kPub,tV3 p)]).dep≤50)=true:=by kernel_rfl
 have hs:said (V.mk 5 0 [] [] [(kPub,tV3 p)])=V.mk 5 0 [] [] [(kPub,tV3 p)]:=by rw [said,V.good,g,d]; rfl
 have e1:textAt (V.mk 5 0 [] [] [(kPub,tV3 p)]) kPub=(p,true):=by kernel_rfl
 have e2:itemsV (V.mk 5 0 [] [] [(kPub,tV3 p)]) kPubs= []:=by kernel_rfl
 rw [pubsV,hs,e2,List.foldl_cons,List.foldl_nil,stepP,keyB,e1,hk,if_pos ⟨rfl,by decide⟩]; rfl
theorem bot_pubs {p:Bs} (h:vu p=true):pubsV (setV (pubV p 3) kPub (tV3 sX))= [[], [0,0,0], [0,0,0], [0,0,0]]:=by
 have e:setV (pubV p 3) kPub (tV3 sX)=V.mk 5 0 [] [] [(kPub,tV3 sX),(kPubs,V.mk 4 0 [] [oK,oK,oK,V.mk 5 0 [] [] [(kPub,tV3 p)]] [])]:=by kernel_rfl
 rw [e]
 have k1:vu kPub=true:=by kernel_rfl
 have k2:vu kPubs=true:=by kernel_rfl
 have l1:okP (some kPub) kPubs=true:=by kernel_rfl
 have n0: ∀k,okP none k=true:=fun _=>rfl
 have ho:oK.fine=true:=by kernel_rfl
 have fx:(tV3 sX).fine=true:=by kernel_rfl
 have hx:(V.mk 5 0 [] [] [(kPub,tV3 p)]).fine=true:=fine_mp (by rw [fineM_cons,k1,fine_tx h]; rfl)
 have hl:(V.mk 4 0 [] [oK,oK,oK,V.mk 5 0 [] [] [(kPub,tV3 p)]] []).fine=true:=fine_ls (by simp only [fineL,ho,hx,Bool.and_self])
 have d:decide ((V.mk 5 0 [] [] [(kPub,tV3 sX),(kPubs,V.mk 4 0 [] [oK,oK,oK,V.mk 5 0 [] [] [(kPub,tV3 p)]] [])]).dep≤50)=true:=by kernel_rfl
 have g:(V.mk 5 0 [] [] [(kPub,tV3 sX),(kPubs,V.mk 4 0 [] [oK,oK,oK,V.mk 5 0 [] [] [(kPub,tV3 p)]] [])]).fine=true:=fine_mp (by simp only [fineM_cons,n0,k1,k2,l1,fx,hl,fineM_nil,Bool.and_self])
 have e1:textAt (V.mk 5 0 [] [] [(kPub,tV3 sX),(kPubs,V.mk 4 0 [] [oK,oK,oK,V.mk 5 0 [] [] [(kPub,tV3 p)]] [])]) kPub=(sX,true):=by kernel_rfl
 have e2:itemsV (V.mk 5 0 [] [] [(kPub,tV3 sX),(kPubs,V.mk 4 0 [] [oK,oK,oK,V.mk 5 0 [] [] [(kPub,tV3 p)]] [])]) kPubs= [oK,oK,oK,V.mk 5 0 [] [] [(kPub,tV3 p)]]:=by kernel_rfl
 have hs:said (V.mk 5 0 [] [] [(kPub,tV3 sX),(kPubs,V.mk 4 0 [] [oK,oK,oK,V.mk 5 0 [] [] [(kPub,tV3 p)]] [])])=V.mk 5 0 [] [] [(kPub,tV3 sX),(kPubs,V.mk 4 0 [] [oK,oK,oK,V.mk 5 0 [] [] [(kPub,tV3 p)]] [])]:=by rw [said,V.good,g,d]; rfl
 have e3:textAt oK kPub=([65,65,65,65],true):=by kernel_rfl
 have e5:getB [65,65,65,65]=some [0,0,0]:=by kernel_rfl
 have e6:getB sX=none:=by kernel_rfl
 rw [pubsV,hs,e2]
 simp [stepP,keyB,e1,e3,e5,e6]
theorem pr_one:provesV (inK 0) oneK msgA=true:=by
 rw [provesV,sg_in (by decide),texts_sign _ _ _ (by decide),oneK,one_pubs (vu_p 3) (get_p 3)]
 simp only [List.replicate,List.nil_append,List.take,List.any_cons,List.any_nil,Bool.or_false,Bool.true_and,prove_g get_g,ver_33]
theorem pr_bot:provesV (inK 0) botK msgA=false:=by
 have v0:verB sha512 [] msgA sig3=false:=ver_len (fun c=>by simp at c)
 rw [provesV,sg_in (by decide),texts_sign _ _ _ (by decide),botK,publics_eq,bot_pubs (vu_p 3)]
 simp only [List.replicate,List.nil_append,List.take,List.any_cons,List.any_nil,Bool.or_false,Bool.true_and,prove_g get_g,ver_0,v0]
end Go.Ab
namespace Go.Ab
set_option maxHeartbeats 1000000
set_option maxRecDepth 100000
theorem sz_of (v:V) {n:Nat} (h:decide (v.sz≤n)=true):v.sz≤n:=of_decide_eq_true h
theorem gS_len:gS.length≤129:=by
 have h1:=putS_len sig3
 have h2:=sig_len (seedB 3) msgA
 rw [←sig3] at h2
 unfold gS; omega
theorem pubT_len (seed:UInt8):(pubT seed).length≤129:=by
 have h1:=putS_len (pubB sha512 (seedB seed))
 have h2:(pubB sha512 (seedB seed)).length=32:=by rw [pubB,toLE_len]
 unfold pubT; omega
theorem sz_in {n:Nat} (hn:n < 6):(inK n).sz < lim:=by
 rw [inK_eq hn]
 have hg:=gS_len
 generalize gS=g at*
 unfold lim
 rcases (show n=0∨n=1∨n=2∨n=3∨n=4∨n=5 by omega) with rfl | rfl | rfl | rfl | rfl | rfl <;> simp [invE,signE,moreL,List.range,List.range.loop,tV3,V.sz,szM,szL,edKey] <;> omega
theorem sz_pub (seed:UInt8) {n:Nat} (hn:n < 6):(publicsV seed n).sz < lim:=by
 rw [publics_eq]
 have hg:=pubT_len seed
 generalize pubT seed=g at*
 unfold lim
 rcases (show n=0∨n=1∨n=2∨n=3∨n=4∨n=5 by omega) with rfl | rfl | rfl | rfl | rfl | rfl <;> simp [pubV,oK,List.replicate,tV3,V.sz,szM,szL] <;> omega
theorem sz_bot:botK.sz < lim:=by
 rw [botK,publics_eq]
 have hg:=pubT_len 3
 generalize pubT 3=p at*
 have e:setV (pubV p 3) kPub (tV3 sX)=V.mk 5 0 [] [] [(kPub,tV3 sX),(kPubs,V.mk 4 0 [] [oK,oK,oK,V.mk 5 0 [] [] [(kPub,tV3 p)]] [])]:=by kernel_rfl
 rw [e]
 unfold lim
 simp [oK,tV3,V.sz,szM,szL]; omega
theorem sz_one:oneK.sz < lim:=by
 rw [oneK]
 have hg:=pubT_len 3
 generalize pubT 3=p at*
 have e:mapOf [(kPub,tV3 p)]=V.mk 5 0 [] [] [(kPub,tV3 p)]:=by kernel_rfl
 rw [e]
 unfold lim
 simp [tV3,V.sz,szM,szL]; omega
theorem sz_u:uK.sz < lim:=Nat.lt_of_le_of_lt (sz_of uK (n:=1000) (by kernel_rfl)) (by decide)
theorem sz_c:cK.sz < lim:=Nat.lt_of_le_of_lt (sz_of cK (n:=2000) (by kernel_rfl)) (by decide)
theorem sz_ua:uA.sz < lim:=Nat.lt_of_le_of_lt (sz_of uA (n:=1000) (by kernel_rfl)) (by decide)
theorem sz_o:oddK.sz < lim:=Nat.lt_of_le_of_lt (sz_of oddK (n:=1000) (by kernel_rfl)) (by decide)
theorem big_of {n:Nat} (h:n < lim):n < big:=by unfold lim at h; unfold big; omega
theorem wr_in {n:Nat} (hn:n < 6):(signedV (inK n)).2=true→cR 190 [(dropV (signedV (inK n)).1 [kSigs]).enc]=some (.tup [.str msgA, .int .i64 0]):=fun _=>by
 rw [sg_in hn,drop_signE]; exact r_canonA
theorem wr_u:(signedV uK).2=true→cR 190 [(dropV (signedV uK).1 [kSigs]).enc]=some (.tup [.str msgA, .int .i64 0]):=fun h=>by
 rw [sg_u] at h; cases h
theorem q_in {n:Nat} {t:V} {b:Bool} (hn:n < 6) (ht:t.sz < lim) (h:provesV (inK n) t msgA=b):cR 172 [(inK n).enc,t.enc]=some (.bool b):=by
 rw [r_Proves (sz_in hn) ht (by decide) (wr_in hn),h]
theorem q_u:cR 172 [uK.enc,(publicsV 3 0).enc]=some (.bool false):=by
 rw [r_Proves sz_u (sz_pub 3 (by decide)) (by decide) wr_u,pr_u]
theorem i_in {n:Nat} (hn:n < 6):cR 175 [.str sTok, .str sA, .int .u8 3, .int .i64 (n:Int)]=some (inK n).enc:=r_Invite (seed:=3) (n:=n) r_canonA (by decide) (by omega)
theorem r_RulesKnown:cR 179 []=some (.bool true):=by
 have a3: ∀s,cR 18 [.str s]=some (tV3 s).enc:=r_Text
 have a19:cR 19 [.int .i64 1]=some (V.mk 2 1 [] [] []).enc:=r_Int 1
 have cn: ∀t r,cR 180 [.str t, .str r]=some (cnd t r).enc:=r_scond
 have mL:=r_List lsK (by decide)
 have mC:cR 20 [.vsl [memE (kAllow,V.mk 4 0 [] lsK [])] none]=some cK.enc:=r_Map [(kAllow,V.mk 4 0 [] lsK [])] (by simp)
 generalize V.mk 4 0 [] lsK []=LK at mL mC
 simp only [lsK,List.map_cons,List.map_nil] at mL
 have mU:cR 20 [.vsl [memE (kAuthd,tV3 sA)] none]=some uK.enc:=r_Map [(kAuthd,tV3 sA)] (by simp)
 have m1:cR 20 [.vsl [memE (kPub,tV3 (pubT 3))] none]=some oneK.enc:=r_Map [(kPub,tV3 (pubT 3))] (by simp)
 have f30u:=r_auth uK (big_of sz_u)
 have f30a:=r_auth uA (big_of sz_ua)
 have f30o:=r_auth oddK (big_of sz_o)
 rw [au_u] at f30u
 rw [au_a] at f30a
 rw [au_o] at f30o
 have sU:cR 142 [uK.enc, .str kAuthd,(tV3 [97]).enc]=some uA.enc:=r_Set uK kAuthd (tV3 [97]) (Nat.lt_of_le_of_lt (m_len_sz uK) sz_u)
 have sB2:cR 142 [(publicsV 3 3).enc, .str kPub,(tV3 sX).enc]=some botK.enc:=r_Set (publicsV 3 3) kPub (tV3 sX) (Nat.lt_of_le_of_lt (m_len_sz _) (sz_pub 3 (by decide)))
 have i0:cR 175 [.str sTok, .str sA, .int .u8 3, .int .i64 0]=some (inK 0).enc:=i_in (n:=0) (by decide)
 have i3:cR 175 [.str sTok, .str sA, .int .u8 3, .int .i64 3]=some (inK 3).enc:=i_in (n:=3) (by decide)
 have i4:cR 175 [.str sTok, .str sA, .int .u8 3, .int .i64 4]=some (inK 4).enc:=i_in (n:=4) (by decide)
 have p33:cR 176 [.int .u8 3, .int .i64 3]=some (publicsV 3 3).enc:=r_Publics 3 (n:=3) (by decide)
 have p30:cR 176 [.int .u8 3, .int .i64 0]=some (publicsV 3 0).enc:=r_Publics 3 (n:=0) (by decide)
 have p34:cR 176 [.int .u8 3, .int .i64 4]=some (publicsV 3 4).enc:=r_Publics 3 (n:=4) (by decide)
 have p40:cR 176 [.int .u8 4, .int .i64 0]=some (publicsV 4 0).enc:=r_Publics 4 (n:=0) (by decide)
 have ky:cR 181 [.int .u8 3]=some (.str (pubT 3)):=r_skey 3
 have t0:=r_third (inK 0) (big_of (sz_in (by decide)))
 have tu:=r_third uK (big_of sz_u)
 rw [th_in] at t0
 rw [th_u] at tu
 have ac:=r_allows cK sz_c
 have aU:=r_allows uK sz_u
 rw [al_c] at ac
 rw [al_u] at aU
 have tx:cR 10 [.vsl [.str rB, .str rA] none, .vsl [.str rB, .str rA] none]=some (.bool true):=r_Texts [rB,rA] [rB,rA] (by decide)
 simp only [List.map_cons,List.map_nil] at ac aU
 have q1:=q_in (n:=3) (by decide) (sz_pub 3 (by decide)) pr_33
 have q2:=q_in (n:=4) (by decide) (sz_pub 3 (by decide)) pr_40
 have q3:=q_in (n:=0) (by decide) (sz_pub 3 (by decide)) pr_04
 have q4:=q_in (n:=0) (by decide) sz_bot pr_bot
 have q5:=q_in (n:=0) (by decide) (sz_pub 4 (by decide)) pr_q
 have q6:=q_in (n:=0) (by decide) sz_one pr_one
 have q7:=q_u
 have ho:oddK=V.mk 5 1 [] [] uK.m:=rfl
 rw [ho] at f30o
 clear ho
 generalize inK 0=I0 at*
 generalize inK 3=I3 at*
 generalize inK 4=I4 at*
 generalize publicsV 3 0=P0 at*
 generalize publicsV 3 3=P3 at*
 generalize publicsV 3 4=P4 at*
 generalize publicsV 4 0=Q0 at*
 generalize botK=BB at*
 generalize oneK=OO at*
 generalize pubT 3=pt at*
 generalize cK=C at*
 generalize uA=UA at*
 generalize uK=U at*
 simp only at t0 tu f30u f30a f30o
 refine cR_of (F:=F179) rfl ?_
 simp only [F179,EXA,seval,VX,readAt_some,r_awake18,a3,a19,cn,mL,mC,mU,m1,f30u,f30a,f30o,sU,sB2,i0,i3,i4,p33,p30,p34,p40,ky,t0,tu,ac,aU,tx,q1,q2,q3,q4,q5,q6,q7,beq_self_eq_true]
 done
end Go.Ab
